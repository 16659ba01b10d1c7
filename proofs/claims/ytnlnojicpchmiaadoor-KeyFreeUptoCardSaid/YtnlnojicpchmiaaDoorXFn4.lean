/- Part of the proof of a law: functions and their walks. -/
import Derived.Test.YtnlnojicpchmiaaDoorXFn3
namespace Lv
open Go Go.Proofs
set_option linter.unusedVariables false
set_option linter.unusedSimpArgs false
set_option linter.unusedSectionVars false
set_option maxRecDepth 100000
variable [BaseTab] [TabOk]
theorem key_Decode_ok1 (p0 : List Int) (p1 : List Bool) (p2 : List UInt8) (r : (List ApiValue) × Int) (h0 : key_Decode p0 p1 p2 = some r) : CallAt Tryd.prog 12 [.slc 0 1 0 p0.length none, .d ((eL 1 eB) p1), .d (eS p2)] [.row 1 (List.map eI p0) true] (.tuple [.d ((eL 3 eApiValue) r.1), .d (eI r.2)]) [.row 1 (List.map eI p0) true] := by
  unfold key_Decode at h0
  refine CallAt.of Tryd.func12 rfl ?_
  refine SC.post (Q' := fun e s => ∃ s1, Wk _ s s1 ∧ Fin _ _ _ _ e s1) ?_ (fun _ _ h => h)
  refine SC.wk (s1 := ⟨mk 62 [(0, .slc 0 1 0 p0.length none), (1, .d ((eL 1 eB) p1)), (2, .d (eS p2))], [.row 1 (List.map eI p0) true]⟩) (Wk.begin (n := 62) (Nat.le_of_ble_eq_true rfl)) ?_
  refine SC.seq ?_
  refine SC.region ?_
  refine SO.op (Wanted.free rfl) rfl (A_assign (v := .d .nils) rfl rfl) ?_
  refine SO.op (Wanted.free rfl) rfl (A_assign (v := .d (eI (0 : Int))) rfl rfl) ?_
  refine SO.nil ?_
  change SC _ _ _ _ _
  refine SC.seq ?_
  refine SC.seqP h0 (fun y => ⟨mk 62 [(0, .slc 0 1 0 p0.length none), (1, .d ((eL 1 eB) p1)), (2, .d (eS p2)), (23, .d (eB y))], [.row 1 (List.map eI p0) true]⟩) ?_ ?_
  · intro u1_153 h1
    refine SC.region ?_
    refine SO.op (Wanted.free rfl) rfl (A_move (v := .slc 0 1 0 p0.length none) rfl rfl) ?_
    refine SO.op (Wanted.free rfl) rfl (A_len (v := .d (eI (p0.length : Int))) rfl rfl rfl rfl (len_slc un24)) ?_
    refine SO.op (Wanted.free rfl) rfl (A_move (v := .d ((eL 1 eB) p1)) rfl rfl) ?_
    refine SO.op (Wanted.free rfl) rfl (A_len (v := .d (eI (p1.length : Int))) rfl rfl rfl rfl (len_lst un23)) ?_
    refine SO.op (Wanted.free rfl) rfl (A_bin (v := .d (eB ((p0.length : Int) != (p1.length : Int)))) rfl rfl rfl (fun X Y => b_i64_neq _ X Y (p0.length : Int) (p1.length : Int))) ?_
    refine SO.op (Wanted.free rfl) rfl (A_move (v := .d (eB ((p0.length : Int) != (p1.length : Int)))) rfl rfl) ?_
    refine SO.split (fun hb154 => ?_) (fun hb154 => ?_)
    · replace h1 := ct hb154 h1
      refine SO.skip (Wanted.by rfl rfl rfl rfl) rfl ?_
      refine SO.skip (Wanted.by rfl rfl rfl rfl) rfl ?_
      refine SO.op (Wanted.free rfl) rfl (A_pickT (v := .d (eB true)) rfl rfl rfl) ?_
      refine SO.nil ?_
      have q := Option.some.inj h1; subst q
      exact (Wk.env (e' := [(0, .slc 0 1 0 p0.length none), (1, .d ((eL 1 eB) p1)), (2, .d (eS p2)), (23, .d (eB true))]) (EW.cons (AW.refl _) (EW.cons (AW.refl _) (EW.cons (AW.refl _) (EW.cons (AW.refl _) EW.nil)))))
    · replace h1 := cf hb154 h1
      refine SO.op (Wanted.by rfl rfl rfl rfl) rfl (A_move (v := .slc 0 1 0 p0.length none) rfl rfl) ?_
      obtain ⟨r155, hq156, h1⟩ := ob h1
      refine SO.call (ι := [0]) (σc := [.row 1 (List.map eI p0) true]) (args' := [.slc 0 1 0 p0.length none, .fn (.func 32) [] []]) (r' := .d (eB r155)) (σ2 := [.row 1 (List.map eI p0) true]) (os := [.row 1 (List.map eI p0) true]) (r := .d (eB r155)) (σ' := [.row 1 (List.map eI p0) true]) (Wanted.by rfl rfl rfl rfl) rfl rfl rfl rfl rfl cb31 rfl rfl (slices_ContainsFunc_int_int_ok1 p0 _ hq156) rfl rfl (Nat.le_of_ble_eq_true rfl) rfl ?_
      refine SO.op (Wanted.free rfl) rfl (A_pickF (v := .d (eB r155)) rfl rfl rfl) ?_
      refine SO.nil ?_
      have q := Option.some.inj h1; subst q
      exact (Wk.env (e' := [(0, .slc 0 1 0 p0.length none), (1, .d ((eL 1 eB) p1)), (2, .d (eS p2)), (23, .d (eB r155))]) (EW.cons (AW.refl _) (EW.cons (AW.refl _) (EW.cons (AW.refl _) (EW.cons (AW.refl _) EW.nil)))))
  · rintro y152 h0
    change SC _ _ _ ⟨mk 62 [(0, .slc 0 1 0 p0.length none), (1, .d ((eL 1 eB) p1)), (2, .d (eS p2)), (23, .d (eB y152))], [.row 1 (List.map eI p0) true]⟩ _
    refine SC.condB (t := y152) rfl (fun hb157 => ?_) (fun hb157 => ?_)
    · replace h0 := ct hb157 h0
      refine SC.seq ?_
      refine SC.region ?_
      refine SO.op (Wanted.free rfl) rfl (A_assign (v := .d .nils) rfl rfl) ?_
      refine SO.op (Wanted.free rfl) rfl (A_assign (v := .d (eI (1 : Int))) rfl rfl) ?_
      refine SO.nil ?_
      change SC _ _ _ _ _
      refine SC.ret ?_
      have q := Option.some.inj h0; subst q
      exact finR (Wk.env (e' := [(6, .d ((eL 3 eApiValue) ([] : List ApiValue))), (7, .d (eI (1 : Int)))]) (EW.cons (AW.nl _) (EW.cons (AW.refl _) EW.nil))) (lresT rfl (lresT rfl lresN)) rfl
    · replace h0 := cf hb157 h0
      refine SC.skip ?_
      change SC _ _ _ _ _
      refine SC.seq ?_
      refine SC.seq ?_
      refine SC.region ?_
      refine SO.op (Wanted.free rfl) rfl (A_move (v := .d (eS p2)) rfl rfl) ?_
      refine SO.op (Wanted.free rfl) rfl (A_len (v := .d (eI (p2.length : Int))) rfl rfl rfl rfl (len_str un9)) ?_
      refine SO.op (Wanted.free rfl) rfl (A_bin (v := .d (eB (decide ((p2.length : Int) > (256 : Int))))) rfl rfl rfl (fun X Y => b_i64_gtr _ X Y (p2.length : Int) (256 : Int))) ?_
      refine SO.nil ?_
      change SC _ _ _ _ _
      refine SC.condB (t := (decide ((p2.length : Int) > (256 : Int)))) rfl (fun hb158 => ?_) (fun hb158 => ?_)
      · replace h0 := ct hb158 h0
        refine SC.seq ?_
        refine SC.region ?_
        refine SO.op (Wanted.free rfl) rfl (A_assign (v := .d .nils) rfl rfl) ?_
        refine SO.op (Wanted.free rfl) rfl (A_assign (v := .d (eI (2 : Int))) rfl rfl) ?_
        refine SO.nil ?_
        change SC _ _ _ _ _
        refine SC.ret ?_
        have q := Option.some.inj h0; subst q
        exact finR (Wk.env (e' := [(6, .d ((eL 3 eApiValue) ([] : List ApiValue))), (7, .d (eI (2 : Int)))]) (EW.cons (AW.nl _) (EW.cons (AW.refl _) EW.nil))) (lresT rfl (lresT rfl lresN)) rfl
      · replace h0 := cf hb158 h0
        refine SC.skip ?_
        change SC _ _ _ _ _
        refine SC.seq ?_
        refine SC.region ?_
        refine SO.op (Wanted.free rfl) rfl (A_assign (v := .d .nils) rfl rfl) ?_
        refine SO.nil ?_
        change SC _ _ _ _ _
        refine SC.seqB h0 (fun y => ⟨mk 62 [(2, .d (eS y.1)), (8, .slc 1 3 0 y.2.length none)], [.row 1 (List.map eI p0) true, .row 3 (List.map eApiValue y.2) true]⟩) ?_ ?_
        · intro u1_227 h1 h0
          refine SC.seq ?_
          refine SC.region ?_
          refine SO.op (Wanted.free rfl) rfl (A_move (v := .slc 0 1 0 p0.length none) rfl rfl) ?_
          refine SO.op (Wanted.free rfl) rfl (A_len (v := .d (eI (p0.length : Int))) rfl rfl rfl rfl (len_slc un24)) ?_
          refine SO.op (Wanted.free rfl) rfl (A_move (v := .d (eI (0 : Int))) rfl rfl) ?_
          refine SO.nil ?_
          change SC _ _ _ _ _
          refine SC.blk ?_
          obtain ⟨u2_273, h2, h1⟩ := ob h1
          refine SC.loopB h2 (fun y => ⟨mk 62 [(1, .d ((eL 1 eB) p1)), (2, .d (eS y.1)), (8, .slc 1 3 0 y.2.1.length none), (27, .slc 0 1 0 p0.length none), (28, .d (eI (p0.length : Int))), (29, .d (eI y.2.2))], [.row 1 (List.map eI p0) true, .row 3 (List.map eApiValue y.2.1) true]⟩) (Wk.trans (Wk.pushE (σ' := [.row 1 (List.map eI p0) true, .row 3 (List.map eApiValue ([] : List ApiValue)) true]) (.row 3 [] true) (fun _ hh => by cases hh) rfl) (Wk.trans (Wk.env (e' := [(1, .d ((eL 1 eB) p1)), (2, .d (eS p2)), (8, .slc 1 3 0 (([] : List ApiValue).length) none), (27, .slc 0 1 0 p0.length none), (28, .d (eI (p0.length : Int))), (29, .d (eI (0 : Int)))]) (EW.cons (AW.refl _) (EW.cons (AW.refl _) (EW.cons (AW.slcn _ _ _) (EW.cons (AW.refl _) (EW.cons (AW.refl _) (EW.cons (AW.refl _) EW.nil))))))) (Wk.env (e' := [(1, .d ((eL 1 eB) p1)), (2, .d (eS p2)), (8, .slc 1 3 0 (([] : List ApiValue).length) none), (27, .slc 0 1 0 p0.length none), (28, .d (eI (p0.length : Int))), (29, .d (eI (0 : Int)))]) (EW.cons (AW.refl _) (EW.cons (AW.refl _) (EW.cons (AW.refl _) (EW.cons (AW.refl _) (EW.cons (AW.refl _) (EW.cons (AW.refl _) EW.nil))))))))) ?_
          intro n293
          rintro ⟨y247, y248, y249⟩ w2_272 h3 hv3
          change SC _ _ _ ⟨mk 62 [(1, .d ((eL 1 eB) p1)), (2, .d (eS y247)), (8, .slc 1 3 0 y248.length none), (27, .slc 0 1 0 p0.length none), (28, .d (eI (p0.length : Int))), (29, .d (eI y249))], [.row 1 (List.map eI p0) true, .row 3 (List.map eApiValue y248) true]⟩ _
          refine SC.seq ?_
          refine SC.region ?_
          refine SO.op (Wanted.free rfl) rfl (A_bin (v := .d (eB (decide (y249 < (p0.length : Int))))) rfl rfl rfl (fun X Y => b_i64_lss _ X Y y249 (p0.length : Int))) ?_
          refine SO.nil ?_
          change SC _ _ _ _ _
          refine SC.seq ?_
          refine SC.condB (t := (decide (y249 < (p0.length : Int)))) rfl (fun hb274 => ?_) (fun hb274 => ?_)
          · replace h3 := ct hb274 h3
            refine SC.skip ?_
            change SC _ _ _ _ _
            refine SC.seq ?_
            refine SC.blk ?_
            refine SC.seq ?_
            refine SC.region ?_
            refine SO.op (Wanted.free rfl) rfl (A_move (v := .d (eI y249)) rfl rfl) ?_
            obtain ⟨v275, hv275, h3⟩ := ob h3
            refine SO.opW (v' := .ref 0 (y249.toNat) 0) (Wanted.free rfl) rfl (A_indexAddr (v := .ref 0 (0 + y249.toNat) 0) rfl rfl rfl (ia_slc un24 ts3 (getI_lt hv275))) (AW.refz (by simp)) ?_
            refine SO.op (Wanted.free rfl) rfl (A_load (v := .d (eI v275)) rfl rfl (ld_row ts3 ta3 rfl (map_get (getI_some hv275).2) rfl)) ?_
            refine SO.op (Wanted.free rfl) rfl (A_assign (v := .d (eI y249)) rfl rfl) ?_
            refine SO.op (Wanted.free rfl) rfl (A_assign (v := .d (eI v275)) rfl rfl) ?_
            refine SO.nil ?_
            change SC _ _ _ _ _
            refine SC.seq ?_
            refine SC.region ?_
            refine SO.op (Wanted.free rfl) rfl (A_move (v := .d (eS y247)) rfl rfl) ?_
            refine SO.op (Wanted.free rfl) rfl (A_conv (v := .slc 2 1 0 y247.length none) (σ' := [.row 1 (List.map eI p0) true, .row 3 (List.map eApiValue y248) true, .row 1 (List.map eU8 y247) true]) rfl rfl (cv_str_bytes un9 un51 un5 ts5 rfl rfl)) ?_
            refine SO.op (Wanted.free rfl) rfl (A_assign (v := .slc 2 1 0 y247.length none) rfl rfl) ?_
            refine SO.nil ?_
            change SC _ _ _ _ _
            refine SC.seqP h3 (fun y => ⟨mk 62 [(1, .d ((eL 1 eB) p1)), (2, .d (eS y247)), (8, .slc 1 3 0 y248.length none), (10, .d (eI v275)), (11, .slc 2 1 0 y.length none), (27, .slc 0 1 0 p0.length none), (28, .d (eI (p0.length : Int))), (29, .d (eI y249))], [.row 1 (List.map eI p0) true, .row 3 (List.map eApiValue y248) true, .row 1 (List.map eU8 y) true]⟩) ?_ ?_
            · intro u4_281 h4
              refine SC.seq ?_
              refine SC.region ?_
              refine SO.op (Wanted.free rfl) rfl (A_move (v := .d ((eL 1 eB) p1)) rfl rfl) ?_
              refine SO.op (Wanted.free rfl) rfl (A_move (v := .d (eI y249)) rfl rfl) ?_
              obtain ⟨v282, hv282, h4⟩ := ob h4
              refine SO.op (Wanted.free rfl) rfl (A_indexAddr (v := .rop [(eB v282)]) rfl rfl rfl (ia_lst un23 ts4 (getI_some hv282).1 (map_get (getI_some hv282).2))) ?_
              refine SO.op (Wanted.free rfl) rfl (A_load (v := .d (eB v282)) rfl rfl (ld_rop ts4 ta4 rfl)) ?_
              refine SO.nil ?_
              change SC _ _ _ _ _
              refine SC.condB (t := v282) rfl (fun hb283 => ?_) (fun hb283 => ?_)
              · replace h4 := ct hb283 h4
                refine SC.region ?_
                refine SO.op (Wanted.free rfl) rfl (A_move (v := .slc 2 1 0 y247.length none) rfl rfl) ?_
                obtain ⟨r284, hq285, h4⟩ := ob h4
                refine SO.call (ι := [2]) (σc := [.row 1 (List.map eU8 y247) true]) (args' := [.slc 0 1 0 y247.length none]) (r' := .slc 0 1 0 r284.length none) (σ2 := [.row 1 (List.map eU8 r284) true]) (os := [.row 1 (List.map eU8 r284) true]) (r := .slc 2 1 0 r284.length none) (σ' := [.row 1 (List.map eI p0) true, .row 3 (List.map eApiValue y248) true, .row 1 (List.map eU8 r284) true]) (Wanted.free rfl) rfl rfl rfl rfl rfl cb33 rfl rfl (key_turned_ok y247 _ hq285) rfl rfl (Nat.le_of_ble_eq_true rfl) rfl ?_
                refine SO.op (Wanted.free rfl) rfl (A_assign (v := .slc 2 1 0 r284.length none) rfl rfl) ?_
                refine SO.nil ?_
                have q := Option.some.inj h4; subst q
                exact (Wk.env (e' := [(1, .d ((eL 1 eB) p1)), (2, .d (eS y247)), (8, .slc 1 3 0 y248.length none), (10, .d (eI v275)), (11, .slc 2 1 0 r284.length none), (27, .slc 0 1 0 p0.length none), (28, .d (eI (p0.length : Int))), (29, .d (eI y249))]) (EW.cons (AW.refl _) (EW.cons (AW.refl _) (EW.cons (AW.refl _) (EW.cons (AW.refl _) (EW.cons (AW.refl _) (EW.cons (AW.refl _) (EW.cons (AW.refl _) (EW.cons (AW.refl _) EW.nil)))))))))
              · replace h4 := cf hb283 h4
                refine SC.skip ?_
                have q := Option.some.inj h4; subst q
                exact (Wk.env (e' := [(1, .d ((eL 1 eB) p1)), (2, .d (eS y247)), (8, .slc 1 3 0 y248.length none), (10, .d (eI v275)), (11, .slc 2 1 0 y247.length none), (27, .slc 0 1 0 p0.length none), (28, .d (eI (p0.length : Int))), (29, .d (eI y249))]) (EW.cons (AW.refl _) (EW.cons (AW.refl _) (EW.cons (AW.refl _) (EW.cons (AW.refl _) (EW.cons (AW.refl _) (EW.cons (AW.refl _) (EW.cons (AW.refl _) (EW.cons (AW.refl _) EW.nil)))))))))
            · rintro y280 h3
              change SC _ _ _ ⟨mk 62 [(1, .d ((eL 1 eB) p1)), (2, .d (eS y247)), (8, .slc 1 3 0 y248.length none), (10, .d (eI v275)), (11, .slc 2 1 0 y280.length none), (27, .slc 0 1 0 p0.length none), (28, .d (eI (p0.length : Int))), (29, .d (eI y249))], [.row 1 (List.map eI p0) true, .row 3 (List.map eApiValue y248) true, .row 1 (List.map eU8 y280) true]⟩ _
              refine SC.seq ?_
              refine SC.region ?_
              refine SO.op (Wanted.free rfl) rfl (A_move (v := .d (eI v275)) rfl rfl) ?_
              refine SO.op (Wanted.free rfl) rfl (A_move (v := .slc 2 1 0 y280.length none) rfl rfl) ?_
              obtain ⟨⟨r286, r287, r288⟩, hq289, h3⟩ := ob h3
              refine SO.call (ι := [2]) (σc := [.row 1 (List.map eU8 y280) true]) (args' := [.d (eI v275), .slc 0 1 0 y280.length none]) (r' := .tuple [.d (eApiValue r288), .d (eI r286), .d (eB r287)]) (σ2 := [.row 1 (List.map eU8 y280) true, .box (.d (eApiValue r288))]) (os := [.row 1 (List.map eU8 y280) true, .box (.d (eApiValue r288))]) (r := .tuple [.d (eApiValue r288), .d (eI r286), .d (eB r287)]) (σ' := [.row 1 (List.map eI p0) true, .row 3 (List.map eApiValue y248) true, .row 1 (List.map eU8 y280) true, .box (.d (eApiValue r288))]) (Wanted.free rfl) rfl rfl rfl rfl rfl cb34 rfl rfl (key_take_ok v275 y280 _ hq289) rfl rfl (Nat.le_of_ble_eq_true rfl) rfl ?_
              refine SO.op (Wanted.free rfl) rfl (A_move (v := .tuple [.d (eApiValue r288), .d (eI r286), .d (eB r287)]) rfl rfl) ?_
              refine SO.op (Wanted.free rfl) rfl (A_extract (v := .d (eApiValue r288)) rfl rfl rfl) ?_
              refine SO.op (Wanted.free rfl) rfl (A_extract (v := .d (eI r286)) rfl rfl rfl) ?_
              refine SO.op (Wanted.free rfl) rfl (A_extract (v := .d (eB r287)) rfl rfl rfl) ?_
              refine SO.op (Wanted.free rfl) rfl (A_alloc (σ' := [.row 1 (List.map eI p0) true, .row 3 (List.map eApiValue y248) true, .row 1 (List.map eU8 y280) true, .box (.d (eApiValue r288)), .box (.d (eApiValue (ApiValue.mk (0 : Int) (0 : UInt64) ([] : List UInt8))))]) rfl zo35 rfl rfl) ?_
              refine SO.op0 (Wanted.free rfl) rfl (A_store (σ' := [.row 1 (List.map eI p0) true, .row 3 (List.map eApiValue y248) true, .row 1 (List.map eU8 y280) true, .box (.d (eApiValue r288)), .box (.d (eApiValue r288))]) rfl rfl rfl (st_box (zs := [.d (eI r288.Kind), .d (eU64 r288.N), .d (eS r288.S)]) ts35 rfl rfl rfl rfl rfl (Nat.le_of_ble_eq_true rfl) rfl)) ?_
              refine SO.op (Wanted.free rfl) rfl (A_assign (v := .d (eI r286)) rfl rfl) ?_
              refine SO.op (Wanted.free rfl) rfl (A_assign (v := .d (eB r287)) rfl rfl) ?_
              refine SO.nil ?_
              change SC _ _ _ _ _
              refine SC.seq ?_
              refine SC.seq ?_
              refine SC.region ?_
              refine SO.op (Wanted.free rfl) rfl (A_move (v := .d (eB r287)) rfl rfl) ?_
              refine SO.op (Wanted.free rfl) rfl (A_un (v := .d (eB (!r287))) rfl rfl rfl rfl) ?_
              refine SO.nil ?_
              change SC _ _ _ _ _
              refine SC.condB (t := (!r287)) rfl (fun hb290 => ?_) (fun hb290 => ?_)
              · replace h3 := ct hb290 h3
                refine SC.seq ?_
                refine SC.region ?_
                refine SO.op (Wanted.free rfl) rfl (A_assign (v := .d .nils) rfl rfl) ?_
                refine SO.op (Wanted.free rfl) rfl (A_assign (v := .d (eI (2 : Int))) rfl rfl) ?_
                refine SO.nil ?_
                change SC _ _ _ _ _
                refine SC.ret ?_
                have q := Option.some.inj h3; subst q
                have q : _ = _ := hv3; subst q
                have q := Option.some.inj h1; subst q
                have q := Option.some.inj h0; subst q
                exact finR (Wk.trans (Wk.env (e' := [(6, .d ((eL 3 eApiValue) ([] : List ApiValue))), (7, .d (eI (2 : Int)))]) (EW.cons (AW.nl _) (EW.cons (AW.refl _) EW.nil))) (Wk.canon (ι := [0]) (roots := [0]) (os := [.row 1 (List.map eI p0) true]) (e' := [(6, .d ((eL 3 eApiValue) ([] : List ApiValue))), (7, .d (eI (2 : Int)))]) rfl rfl rfl)) (lresT rfl (lresT rfl lresN)) rfl
              · replace h3 := cf hb290 h3
                refine SC.skip ?_
                change SC _ _ _ _ _
                refine SC.draws (by kernel_rfl) ?_
                refine ST.op (mk' := ([], false)) (Wanted.free rfl) rfl (A_move (v := .slc 1 3 0 y248.length none) rfl rfl) rfl ?_
                refine ST.op (mk' := ([4], false)) (Wanted.free rfl) rfl (A_load (v := .d (eApiValue r288)) rfl rfl (ld_box ts35 ta35 rfl rfl)) rfl ?_
                refine ST.opW (mk' := ([5], true)) (v' := .slc 5 3 0 ([r288].length) none) (Wanted.free rfl) rfl (A_buildSlice (v := .slc 5 3 0 1 (some 1)) (σ' := [.row 1 (List.map eI p0) true, .row 3 (List.map eApiValue y248) true, .row 1 (List.map eU8 y280) true, .box (.d (eApiValue r288)), .box (.d (eApiValue r288)), .row 3 (List.map eApiValue [r288]) true]) rfl rfl (bsl un22 ei35 (by decide) rfl (by rfl) rfl rfl)) (AW.slcc rfl rfl) rfl ?_
                obtain ⟨hg291, h3⟩ := gd h3
                refine ST.op (mk' := ([1, 5, 6], true)) (Wanted.free rfl) rfl (A_append (v := .slc 6 3 0 ((y248 ++ [r288]).length) none) (σ' := [.row 1 (List.map eI p0) true, .dead, .row 1 (List.map eU8 y280) true, .box (.d (eApiValue r288)), .box (.d (eApiValue r288)), .row 3 (List.map eApiValue [r288]) true, .row 3 (List.map eApiValue (y248 ++ [r288])) true]) rfl rfl rfl rfl rfl bc22 (ApFull (f := eApiValue) (xs := y248) (ys := [r288]) rfl un22 ei35 rfl (el_full (xs := [r288]) rfl) hg291 rfl rfl)) rfl ?_
                refine ST.op (mk' := ([], false)) (Wanted.free rfl) rfl (A_move (v := .d (eS y247)) rfl rfl) rfl ?_
                refine ST.op (mk' := ([], false)) (Wanted.free rfl) rfl (A_move (v := .d (eI r286)) rfl rfl) rfl ?_
                obtain ⟨hg292, h3⟩ := gd h3
                refine ST.op (mk' := ([], false)) (Wanted.free rfl) rfl (A_slice (v := .d (eS (List.drop r286.toNat y247))) rfl rfl rfl rfl rfl (sl_str_lo un9 hg292)) rfl ?_
                refine ST.op (mk' := ([], false)) (Wanted.free rfl) rfl (A_assign (v := .slc 6 3 0 ((y248 ++ [r288]).length) none) rfl rfl) rfl ?_
                refine ST.op (mk' := ([], false)) (Wanted.free rfl) rfl (A_assign (v := .d (eS (List.drop r286.toNat y247))) rfl rfl) rfl ?_
                refine ST.nil (And.intro (by decide +kernel) ?_)
                change SC _ _ _ _ _
                refine SC.region ?_
                refine SO.op (Wanted.free rfl) rfl (A_bin (v := .d (eI (w64 (y249 + (1 : Int))))) rfl rfl rfl (fun X Y => b_i64_add _ X Y y249 (1 : Int))) ?_
                refine SO.op (Wanted.free rfl) rfl (A_move (v := .d (eI (w64 (y249 + (1 : Int))))) rfl rfl) ?_
                refine SO.nil ?_
                have q := Option.some.inj h3; subst q
                exact lf (Wk.trans (Wk.env (e' := [(1, .d ((eL 1 eB) p1)), (2, .d (eS (List.drop r286.toNat y247))), (8, .slc 6 3 0 ((y248 ++ [r288]).length) none), (27, .slc 0 1 0 p0.length none), (28, .d (eI (p0.length : Int))), (29, .d (eI (w64 (y249 + (1 : Int)))))]) (EW.cons (AW.refl _) (EW.cons (AW.refl _) (EW.cons (AW.refl _) (EW.cons (AW.refl _) (EW.cons (AW.refl _) (EW.cons (AW.refl _) EW.nil))))))) (Wk.canon (ι := [0, 6]) (roots := [0, 6, 0]) (os := [.row 1 (List.map eI p0) true, .row 3 (List.map eApiValue (y248 ++ [r288])) true]) (e' := [(1, .d ((eL 1 eB) p1)), (2, .d (eS (List.drop r286.toNat y247))), (8, .slc 1 3 0 ((y248 ++ [r288]).length) none), (27, .slc 0 1 0 p0.length none), (28, .d (eI (p0.length : Int))), (29, .d (eI (w64 (y249 + (1 : Int)))))]) rfl rfl rfl))
          · replace h3 := cf hb274 h3
            refine SC.exit ?_
            have q := Option.some.inj h3; subst q
            have q : _ = _ := hv3; subst q
            have q := Option.some.inj h1; subst q
            exact lf (Wk.env (e' := [(2, .d (eS y247)), (8, .slc 1 3 0 y248.length none)]) (EW.cons (AW.refl _) (EW.cons (AW.refl _) EW.nil)))
        · rintro ⟨y225, y226⟩ h0
          change SC _ _ _ ⟨mk 62 [(2, .d (eS y225)), (8, .slc 1 3 0 y226.length none)], [.row 1 (List.map eI p0) true, .row 3 (List.map eApiValue y226) true]⟩ _
          refine SC.seq ?_
          refine SC.seq ?_
          refine SC.region ?_
          refine SO.op (Wanted.free rfl) rfl (A_move (v := .d (eS y225)) rfl rfl) ?_
          refine SO.op (Wanted.free rfl) rfl (A_bin (v := .d (eB (y225 != ([] : List UInt8)))) rfl rfl rfl (fun X Y => b_str_neq _ X Y y225 ([] : List UInt8))) ?_
          refine SO.nil ?_
          change SC _ _ _ _ _
          refine SC.condB (t := (y225 != ([] : List UInt8))) rfl (fun hb294 => ?_) (fun hb294 => ?_)
          · replace h0 := ct hb294 h0
            refine SC.seq ?_
            refine SC.region ?_
            refine SO.op (Wanted.free rfl) rfl (A_assign (v := .d .nils) rfl rfl) ?_
            refine SO.op (Wanted.free rfl) rfl (A_assign (v := .d (eI (2 : Int))) rfl rfl) ?_
            refine SO.nil ?_
            change SC _ _ _ _ _
            refine SC.ret ?_
            have q := Option.some.inj h0; subst q
            exact finR (Wk.trans (Wk.env (e' := [(6, .d ((eL 3 eApiValue) ([] : List ApiValue))), (7, .d (eI (2 : Int)))]) (EW.cons (AW.nl _) (EW.cons (AW.refl _) EW.nil))) (Wk.canon (ι := [0]) (roots := [0]) (os := [.row 1 (List.map eI p0) true]) (e' := [(6, .d ((eL 3 eApiValue) ([] : List ApiValue))), (7, .d (eI (2 : Int)))]) rfl rfl rfl)) (lresT rfl (lresT rfl lresN)) rfl
          · replace h0 := cf hb294 h0
            refine SC.skip ?_
            change SC _ _ _ _ _
            refine SC.seq ?_
            refine SC.region ?_
            refine SO.op (Wanted.free rfl) rfl (A_move (v := .slc 1 3 0 y226.length none) rfl rfl) ?_
            refine SO.op (Wanted.free rfl) rfl (A_assign (v := .slc 1 3 0 y226.length none) rfl rfl) ?_
            refine SO.op (Wanted.free rfl) rfl (A_assign (v := .d (eI (0 : Int))) rfl rfl) ?_
            refine SO.nil ?_
            change SC _ _ _ _ _
            refine SC.ret ?_
            have q := Option.some.inj h0; subst q
            exact finR (Wk.trans (Wk.frz (i := 6) (x := .slc 1 3 0 y226.length none) (y := ((eL 3 eApiValue) y226)) (σ1 := [.row 1 (List.map eI p0) true, .row 3 (List.map eApiValue y226) false]) rfl rfl (frz_full rfl rfl)) (Wk.trans (Wk.env (e' := [(6, .d ((eL 3 eApiValue) y226)), (7, .d (eI (0 : Int)))]) (EW.cons (AW.refl _) (EW.cons (AW.refl _) EW.nil))) (Wk.canon (ι := [0]) (roots := [0]) (os := [.row 1 (List.map eI p0) true]) (e' := [(6, .d ((eL 3 eApiValue) y226)), (7, .d (eI (0 : Int)))]) rfl rfl rfl))) (lresT rfl (lresT rfl lresN)) rfl

/-- granary/granarylaw07.KeyBack -/
noncomputable def law07_KeyBack (p0 : List ApiValue) (p1 : List Bool) (p2 : List Int) (p3 : List UInt8) : Option Bool :=
  Option.bind awakeF fun _ =>
  Option.bind (key_Encode p0 p1) fun (r235, r236) =>
  bindE (Y := Unit) (E := Bool)
    (bif (r236 == (0 : Int)) then
      bif decide (0 ≤ (p0.length : Int) ∧ (p0.length : Int) * 8 ≤ 70368744177664 ∧ (p0.length : Int) ≤ 70368744177664) then
      Option.bind (α := (List Int))
        (Option.bind (α := (List Int))
          (loop (Y := (List Int) × Int) (W := (List Int)) (fun (y410, y411) =>
            bif (decide (y411 < (p0.length : Int))) then
              Option.bind (α := (List Int))
                (Option.bind (getI p0 y411) fun v437 =>
                Option.bind (getI y410 y411) fun v438 =>
                Option.bind (getI (List.set y410 y411.toNat v437.Kind) y411) fun v439 =>
                bif (v439 == (0 : Int)) then
                  Option.bind (getI (List.set y410 y411.toNat v437.Kind) y411) fun v441 =>
                  some (List.set (List.set y410 y411.toNat v437.Kind) y411.toNat (1 : Int))
                else
                  some (List.set y410 y411.toNat v437.Kind))
                fun y435 =>
              some (Sum.inl (y435, (w64 (y411 + (1 : Int)))))
            else
              some (Sum.inr y410)) ((List.replicate (p0.length : Int).toNat (0 : Int)), (0 : Int)))
          (fun e => some e))
        fun y395 =>
      Option.bind (key_Decode y395 p1 r235) fun (r443, r444) =>
      Option.bind (α := Bool)
        (bif (r444 != (0 : Int)) then
          some true
        else
          Option.bind (raw_Values r443 p0) fun r452 =>
          some (!r452))
        fun y449 =>
      bif y449 then
        some (Sum.inr false)
      else
        some (Sum.inl ())
      else none
    else
      some (Sum.inl ()))
    (fun _ =>
      Option.bind (key_Decode p2 p1 p3) fun (r455, r456) =>
      bif (r456 != (0 : Int)) then
        some ((r455.length : Int) == (0 : Int))
      else
        Option.bind (key_Encode r455 p1) fun (r459, r460) =>
        Option.bind (α := Bool)
          (bif (r460 == (0 : Int)) then
            some (r459 == p3)
          else
            some false)
          fun y463 =>
        some y463)
    (fun e => some e)
theorem law07_KeyBack_ok (p0 : List ApiValue) (p1 : List Bool) (p2 : List Int) (p3 : List UInt8) (r : Bool) (h0 : law07_KeyBack p0 p1 p2 p3 = some r) : CallAt Tryd.prog 4 [.d ((eL 3 eApiValue) p0), .d ((eL 1 eB) p1), .d ((eL 1 eI) p2), .d (eS p3)] [] (.d (eB r)) [] := by
  unfold law07_KeyBack at h0
  refine CallAt.of Tryd.func4 rfl ?_
  refine SC.post (Q' := fun e s => ∃ s1, Wk _ s s1 ∧ Fin _ _ _ _ e s1) ?_ (fun _ _ h => h)
  refine SC.wk (s1 := ⟨mk 94 [(0, .d ((eL 3 eApiValue) p0)), (1, .d ((eL 1 eB) p1)), (2, .d ((eL 1 eI) p2)), (3, .d (eS p3))], []⟩) (Wk.begin (n := 94) (Nat.le_of_ble_eq_true rfl)) ?_
  refine SC.seq ?_
  refine SC.region ?_
  refine SO.op (Wanted.free rfl) rfl (A_assign (v := .d (eB false)) rfl rfl) ?_
  refine SO.nil ?_
  change SC _ _ _ _ _
  refine SC.seq ?_
  refine SC.seq ?_
  refine SC.region ?_
  obtain ⟨_, hq234, h0⟩ := ob h0
  refine SO.call0 (r := .d (eB true)) (Wanted.free rfl) rfl rfl rfl rfl rfl cb9 rfl (fun _ => rfl) (fun _ => rfl) (awake_ok _ hq234) ?_
  refine SO.op (Wanted.free rfl) rfl (A_un (v := .d (eB false)) rfl rfl rfl rfl) ?_
  refine SO.nil ?_
  change SC _ _ _ _ _
  refine SC.condF rfl ?_
  refine SC.skip ?_
  change SC _ _ _ _ _
  refine SC.seq ?_
  refine SC.region ?_
  refine SO.op (Wanted.free rfl) rfl (A_move (v := .d ((eL 3 eApiValue) p0)) rfl rfl) ?_
  refine SO.op (Wanted.free rfl) rfl (A_move (v := .d ((eL 1 eB) p1)) rfl rfl) ?_
  obtain ⟨⟨r235, r236⟩, hq237, h0⟩ := ob h0
  refine SO.call0 (r := .tuple [.d (eS r235), .d (eI r236)]) (Wanted.free rfl) rfl rfl rfl rfl rfl cb10 rfl (fun _ => rfl) (fun _ => rfl) (key_Encode_ok p0 p1 _ hq237) ?_
  refine SO.op (Wanted.free rfl) rfl (A_move (v := .tuple [.d (eS r235), .d (eI r236)]) rfl rfl) ?_
  refine SO.op (Wanted.free rfl) rfl (A_extract (v := .d (eS r235)) rfl rfl rfl) ?_
  refine SO.op (Wanted.free rfl) rfl (A_extract (v := .d (eI r236)) rfl rfl rfl) ?_
  refine SO.op (Wanted.free rfl) rfl (A_assign (v := .d (eS r235)) rfl rfl) ?_
  refine SO.op (Wanted.free rfl) rfl (A_assign (v := .d (eI r236)) rfl rfl) ?_
  refine SO.nil ?_
  change SC _ _ _ _ _
  refine SC.seqB h0 (fun y => ⟨mk 94 [(1, .d ((eL 1 eB) p1)), (2, .d ((eL 1 eI) p2)), (3, .d (eS p3))], []⟩) ?_ ?_
  · intro u1_346 h1 h0
    refine SC.seq ?_
    refine SC.region ?_
    refine SO.op (Wanted.free rfl) rfl (A_move (v := .d (eI r236)) rfl rfl) ?_
    refine SO.op (Wanted.free rfl) rfl (A_bin (v := .d (eB (r236 == (0 : Int)))) rfl rfl rfl (fun X Y => b_i64_eql _ X Y r236 (0 : Int))) ?_
    refine SO.nil ?_
    change SC _ _ _ _ _
    refine SC.condB (t := (r236 == (0 : Int))) rfl (fun hb347 => ?_) (fun hb347 => ?_)
    · replace h1 := ct hb347 h1
      refine SC.seq ?_
      refine SC.region ?_
      refine SO.op (Wanted.free rfl) rfl (A_move (v := .d ((eL 3 eApiValue) p0)) rfl rfl) ?_
      refine SO.op (Wanted.free rfl) rfl (A_len (v := .d (eI (p0.length : Int))) rfl rfl rfl rfl (len_lst un22)) ?_
      obtain ⟨hg348, h1⟩ := gd h1
      refine SO.opW (v' := .slc 0 1 0 ((List.replicate (p0.length : Int).toNat (0 : Int)).length) none) (Wanted.free rfl) rfl (A_makeSlice (σ' := [.row 1 (List.map eI (List.replicate (p0.length : Int).toNat (0 : Int))) true]) rfl rfl rfl (mkSlc un24 ei3 rfl hg348.1 hg348.2 rfl rfl)) (AW.slcc rfl rfl) ?_
      refine SO.op (Wanted.free rfl) rfl (A_assign (v := .slc 0 1 0 ((List.replicate (p0.length : Int).toNat (0 : Int)).length) none) rfl rfl) ?_
      refine SO.nil ?_
      change SC _ _ _ _ _
      refine SC.seqP h1 (fun y => ⟨mk 94 [(0, .d ((eL 3 eApiValue) p0)), (1, .d ((eL 1 eB) p1)), (2, .d ((eL 1 eI) p2)), (3, .d (eS p3)), (9, .d (eS r235)), (11, .slc 0 1 0 y.length none)], [.row 1 (List.map eI y) true]⟩) ?_ ?_
      · intro u2_396 h2
        refine SC.seq ?_
        refine SC.region ?_
        refine SO.op (Wanted.free rfl) rfl (A_assign (v := .d (eI (0 : Int))) rfl rfl) ?_
        refine SO.nil ?_
        change SC _ _ _ _ _
        refine SC.blk ?_
        obtain ⟨u3_428, h3, h2⟩ := ob h2
        refine SC.loopB h3 (fun y => ⟨mk 94 [(0, .d ((eL 3 eApiValue) p0)), (1, .d ((eL 1 eB) p1)), (2, .d ((eL 1 eI) p2)), (3, .d (eS p3)), (9, .d (eS r235)), (11, .slc 0 1 0 y.1.length none), (12, .d (eI y.2))], [.row 1 (List.map eI y.1) true]⟩) (Wk.env (e' := [(0, .d ((eL 3 eApiValue) p0)), (1, .d ((eL 1 eB) p1)), (2, .d ((eL 1 eI) p2)), (3, .d (eS p3)), (9, .d (eS r235)), (11, .slc 0 1 0 ((List.replicate (p0.length : Int).toNat (0 : Int)).length) none), (12, .d (eI (0 : Int)))]) (EW.cons (AW.refl _) (EW.cons (AW.refl _) (EW.cons (AW.refl _) (EW.cons (AW.refl _) (EW.cons (AW.refl _) (EW.cons (AW.refl _) (EW.cons (AW.refl _) EW.nil)))))))) ?_
        intro n442
        rintro ⟨y410, y411⟩ w3_427 h4 hv4
        change SC _ _ _ ⟨mk 94 [(0, .d ((eL 3 eApiValue) p0)), (1, .d ((eL 1 eB) p1)), (2, .d ((eL 1 eI) p2)), (3, .d (eS p3)), (9, .d (eS r235)), (11, .slc 0 1 0 y410.length none), (12, .d (eI y411))], [.row 1 (List.map eI y410) true]⟩ _
        refine SC.seq ?_
        refine SC.seq ?_
        refine SC.region ?_
        refine SO.op (Wanted.free rfl) rfl (A_move (v := .d (eI y411)) rfl rfl) ?_
        refine SO.op (Wanted.free rfl) rfl (A_move (v := .d ((eL 3 eApiValue) p0)) rfl rfl) ?_
        refine SO.op (Wanted.free rfl) rfl (A_len (v := .d (eI (p0.length : Int))) rfl rfl rfl rfl (len_lst un22)) ?_
        refine SO.op (Wanted.free rfl) rfl (A_bin (v := .d (eB (decide (y411 < (p0.length : Int))))) rfl rfl rfl (fun X Y => b_i64_lss _ X Y y411 (p0.length : Int))) ?_
        refine SO.nil ?_
        change SC _ _ _ _ _
        refine SC.condB (t := (decide (y411 < (p0.length : Int)))) rfl (fun hb429 => ?_) (fun hb429 => ?_)
        · replace h4 := ct hb429 h4
          refine SC.skip ?_
          change SC _ _ _ _ _
          refine SC.seqP h4 (fun y => ⟨mk 94 [(0, .d ((eL 3 eApiValue) p0)), (1, .d ((eL 1 eB) p1)), (2, .d ((eL 1 eI) p2)), (3, .d (eS p3)), (9, .d (eS r235)), (11, .slc 0 1 0 y.length none), (12, .d (eI y411))], [.row 1 (List.map eI y) true]⟩) ?_ ?_
          · intro u5_436 h5
            refine SC.blk ?_
            refine SC.seq ?_
            refine SC.region ?_
            refine SO.op (Wanted.free rfl) rfl (A_move (v := .slc 0 1 0 y410.length none) rfl rfl) ?_
            refine SO.op (Wanted.free rfl) rfl (A_move (v := .d (eI y411)) rfl rfl) ?_
            refine SO.op (Wanted.free rfl) rfl (A_move (v := .d ((eL 3 eApiValue) p0)) rfl rfl) ?_
            refine SO.op (Wanted.free rfl) rfl (A_move (v := .d (eI y411)) rfl rfl) ?_
            obtain ⟨v437, hv437, h5⟩ := ob h5
            refine SO.op (Wanted.free rfl) rfl (A_indexAddr (v := .rop [(eI v437.Kind), (eU64 v437.N), (eS v437.S)]) rfl rfl rfl (ia_lst un22 ts35 (getI_some hv437).1 (map_get (getI_some hv437).2))) ?_
            refine SO.op (Wanted.free rfl) rfl (A_fieldAddr (v := .rop [(eI v437.Kind), (eU64 v437.N), (eS v437.S)]) rfl rfl (fa_rop fo35_0 ts3 rfl)) ?_
            refine SO.op (Wanted.free rfl) rfl (A_load (v := .d (eI v437.Kind)) rfl rfl (ld_rop ts3 ta3 rfl)) ?_
            obtain ⟨v438, hv438, h5⟩ := ob h5
            refine SO.opW (v' := .ref 0 (y411.toNat) 0) (Wanted.free rfl) rfl (A_indexAddr (v := .ref 0 (0 + y411.toNat) 0) rfl rfl rfl (ia_slc un24 ts3 (getI_lt hv438))) (AW.refz (by simp)) ?_
            refine SO.op0 (Wanted.free rfl) rfl (A_store (σ' := [.row 1 (List.map eI (List.set y410 y411.toNat v437.Kind)) true]) rfl rfl rfl (st_row1 (f := eI) (v := v437.Kind) ts3 rfl rfl rfl rfl (getI_some hv438).2 rfl rfl)) ?_
            refine SO.nil ?_
            change SC _ _ _ _ _
            refine SC.seq ?_
            refine SC.region ?_
            refine SO.op (Wanted.free rfl) rfl (A_move (v := .slc 0 1 0 y410.length none) rfl rfl) ?_
            refine SO.op (Wanted.free rfl) rfl (A_move (v := .d (eI y411)) rfl rfl) ?_
            obtain ⟨v439, hv439, h5⟩ := ob h5
            refine SO.opW (v' := .ref 0 (y411.toNat) 0) (Wanted.free rfl) rfl (A_indexAddr (v := .ref 0 (0 + y411.toNat) 0) rfl rfl rfl (ia_slc un24 ts3 (by have q := getI_lt hv439; simpa using q))) (AW.refz (by simp)) ?_
            refine SO.op (Wanted.free rfl) rfl (A_load (v := .d (eI v439)) rfl rfl (ld_row ts3 ta3 rfl (map_get (getI_some hv439).2) rfl)) ?_
            refine SO.op (Wanted.free rfl) rfl (A_bin (v := .d (eB (v439 == (0 : Int)))) rfl rfl rfl (fun X Y => b_i64_eql _ X Y v439 (0 : Int))) ?_
            refine SO.nil ?_
            change SC _ _ _ _ _
            refine SC.condB (t := (v439 == (0 : Int))) rfl (fun hb440 => ?_) (fun hb440 => ?_)
            · replace h5 := ct hb440 h5
              refine SC.region ?_
              refine SO.op (Wanted.free rfl) rfl (A_move (v := .slc 0 1 0 y410.length none) rfl rfl) ?_
              refine SO.op (Wanted.free rfl) rfl (A_move (v := .d (eI y411)) rfl rfl) ?_
              obtain ⟨v441, hv441, h5⟩ := ob h5
              refine SO.opW (v' := .ref 0 (y411.toNat) 0) (Wanted.free rfl) rfl (A_indexAddr (v := .ref 0 (0 + y411.toNat) 0) rfl rfl rfl (ia_slc un24 ts3 (by have q := getI_lt hv441; simpa using q))) (AW.refz (by simp)) ?_
              refine SO.op0 (Wanted.free rfl) rfl (A_store (σ' := [.row 1 (List.map eI (List.set (List.set y410 y411.toNat v437.Kind) y411.toNat (1 : Int))) true]) rfl rfl rfl (st_row1 (f := eI) (v := (1 : Int)) ts3 rfl rfl rfl rfl (getI_some hv441).2 rfl rfl)) ?_
              refine SO.nil ?_
              have q := Option.some.inj h5; subst q
              exact (Wk.env (e' := [(0, .d ((eL 3 eApiValue) p0)), (1, .d ((eL 1 eB) p1)), (2, .d ((eL 1 eI) p2)), (3, .d (eS p3)), (9, .d (eS r235)), (11, .slc 0 1 0 ((List.set (List.set y410 y411.toNat v437.Kind) y411.toNat (1 : Int)).length) none), (12, .d (eI y411))]) (EW.cons (AW.refl _) (EW.cons (AW.refl _) (EW.cons (AW.refl _) (EW.cons (AW.refl _) (EW.cons (AW.refl _) (EW.cons (AW.slc rfl (by simp)) (EW.cons (AW.refl _) EW.nil))))))))
            · replace h5 := cf hb440 h5
              refine SC.skip ?_
              have q := Option.some.inj h5; subst q
              exact (Wk.env (e' := [(0, .d ((eL 3 eApiValue) p0)), (1, .d ((eL 1 eB) p1)), (2, .d ((eL 1 eI) p2)), (3, .d (eS p3)), (9, .d (eS r235)), (11, .slc 0 1 0 ((List.set y410 y411.toNat v437.Kind).length) none), (12, .d (eI y411))]) (EW.cons (AW.refl _) (EW.cons (AW.refl _) (EW.cons (AW.refl _) (EW.cons (AW.refl _) (EW.cons (AW.refl _) (EW.cons (AW.slc rfl (by simp)) (EW.cons (AW.refl _) EW.nil))))))))
          · rintro y435 h4
            change SC _ _ _ ⟨mk 94 [(0, .d ((eL 3 eApiValue) p0)), (1, .d ((eL 1 eB) p1)), (2, .d ((eL 1 eI) p2)), (3, .d (eS p3)), (9, .d (eS r235)), (11, .slc 0 1 0 y435.length none), (12, .d (eI y411))], [.row 1 (List.map eI y435) true]⟩ _
            refine SC.region ?_
            refine SO.op (Wanted.free rfl) rfl (A_move (v := .d (eI y411)) rfl rfl) ?_
            refine SO.op (Wanted.free rfl) rfl (A_bin (v := .d (eI (w64 (y411 + (1 : Int))))) rfl rfl rfl (fun X Y => b_i64_add _ X Y y411 (1 : Int))) ?_
            refine SO.op (Wanted.free rfl) rfl (A_assign (v := .d (eI (w64 (y411 + (1 : Int))))) rfl rfl) ?_
            refine SO.nil ?_
            have q := Option.some.inj h4; subst q
            exact lf (Wk.env (e' := [(0, .d ((eL 3 eApiValue) p0)), (1, .d ((eL 1 eB) p1)), (2, .d ((eL 1 eI) p2)), (3, .d (eS p3)), (9, .d (eS r235)), (11, .slc 0 1 0 y435.length none), (12, .d (eI (w64 (y411 + (1 : Int)))))]) (EW.cons (AW.refl _) (EW.cons (AW.refl _) (EW.cons (AW.refl _) (EW.cons (AW.refl _) (EW.cons (AW.refl _) (EW.cons (AW.refl _) (EW.cons (AW.refl _) EW.nil))))))))
        · replace h4 := cf hb429 h4
          refine SC.exit ?_
          have q := Option.some.inj h4; subst q
          have q : _ = _ := hv4; subst q
          have q := Option.some.inj h2; subst q
          exact (Wk.env (e' := [(0, .d ((eL 3 eApiValue) p0)), (1, .d ((eL 1 eB) p1)), (2, .d ((eL 1 eI) p2)), (3, .d (eS p3)), (9, .d (eS r235)), (11, .slc 0 1 0 y410.length none)]) (EW.cons (AW.refl _) (EW.cons (AW.refl _) (EW.cons (AW.refl _) (EW.cons (AW.refl _) (EW.cons (AW.refl _) (EW.cons (AW.refl _) EW.nil)))))))
      · rintro y395 h1
        change SC _ _ _ ⟨mk 94 [(0, .d ((eL 3 eApiValue) p0)), (1, .d ((eL 1 eB) p1)), (2, .d ((eL 1 eI) p2)), (3, .d (eS p3)), (9, .d (eS r235)), (11, .slc 0 1 0 y395.length none)], [.row 1 (List.map eI y395) true]⟩ _
        refine SC.seq ?_
        refine SC.region ?_
        refine SO.op (Wanted.free rfl) rfl (A_move (v := .slc 0 1 0 y395.length none) rfl rfl) ?_
        refine SO.op (Wanted.free rfl) rfl (A_move (v := .d ((eL 1 eB) p1)) rfl rfl) ?_
        refine SO.op (Wanted.free rfl) rfl (A_move (v := .d (eS r235)) rfl rfl) ?_
        obtain ⟨⟨r443, r444⟩, hq445, h1⟩ := ob h1
        refine SO.call (ι := [0]) (σc := [.row 1 (List.map eI y395) true]) (args' := [.slc 0 1 0 y395.length none, .d ((eL 1 eB) p1), .d (eS r235)]) (r' := .tuple [.d ((eL 3 eApiValue) r443), .d (eI r444)]) (σ2 := [.row 1 (List.map eI y395) true]) (os := [.row 1 (List.map eI y395) true]) (r := .tuple [.d ((eL 3 eApiValue) r443), .d (eI r444)]) (σ' := [.row 1 (List.map eI y395) true]) (Wanted.free rfl) rfl rfl rfl rfl rfl cb12 rfl rfl (key_Decode_ok1 y395 p1 r235 _ hq445) rfl rfl (Nat.le_of_ble_eq_true rfl) rfl ?_
        refine SO.op (Wanted.free rfl) rfl (A_move (v := .tuple [.d ((eL 3 eApiValue) r443), .d (eI r444)]) rfl rfl) ?_
        refine SO.op (Wanted.free rfl) rfl (A_extract (v := .d ((eL 3 eApiValue) r443)) rfl rfl rfl) ?_
        refine SO.op (Wanted.free rfl) rfl (A_extract (v := .d (eI r444)) rfl rfl rfl) ?_
        refine SO.op (Wanted.free rfl) rfl (A_assign (v := .d ((eL 3 eApiValue) r443)) rfl rfl) ?_
        refine SO.op (Wanted.free rfl) rfl (A_assign (v := .d (eI r444)) rfl rfl) ?_
        refine SO.nil ?_
        change SC _ _ _ _ _
        refine SC.seqP h1 (fun y => ⟨mk 94 [(1, .d ((eL 1 eB) p1)), (2, .d ((eL 1 eI) p2)), (3, .d (eS p3)), (68, .d (eB y))], []⟩) ?_ ?_
        · intro u2_450 h2
          refine SC.region ?_
          refine SO.op (Wanted.free rfl) rfl (A_move (v := .d (eI r444)) rfl rfl) ?_
          refine SO.op (Wanted.free rfl) rfl (A_bin (v := .d (eB (r444 != (0 : Int)))) rfl rfl rfl (fun X Y => b_i64_neq _ X Y r444 (0 : Int))) ?_
          refine SO.op (Wanted.free rfl) rfl (A_move (v := .d (eB (r444 != (0 : Int)))) rfl rfl) ?_
          refine SO.split (fun hb451 => ?_) (fun hb451 => ?_)
          · replace h2 := ct hb451 h2
            refine SO.skip (Wanted.by rfl rfl rfl rfl) rfl ?_
            refine SO.skip (Wanted.by rfl rfl rfl rfl) rfl ?_
            refine SO.skip (Wanted.by rfl rfl rfl rfl) rfl ?_
            refine SO.skip (Wanted.by rfl rfl rfl rfl) rfl ?_
            refine SO.op (Wanted.free rfl) rfl (A_pickT (v := .d (eB true)) rfl rfl rfl) ?_
            refine SO.nil ?_
            have q := Option.some.inj h2; subst q
            exact (Wk.trans (Wk.env (e' := [(1, .d ((eL 1 eB) p1)), (2, .d ((eL 1 eI) p2)), (3, .d (eS p3)), (68, .d (eB true))]) (EW.cons (AW.refl _) (EW.cons (AW.refl _) (EW.cons (AW.refl _) (EW.cons (AW.refl _) EW.nil))))) (Wk.canon (ι := []) (roots := []) (os := []) (e' := [(1, .d ((eL 1 eB) p1)), (2, .d ((eL 1 eI) p2)), (3, .d (eS p3)), (68, .d (eB true))]) rfl rfl rfl))
          · replace h2 := cf hb451 h2
            refine SO.op (Wanted.by rfl rfl rfl rfl) rfl (A_move (v := .d ((eL 3 eApiValue) r443)) rfl rfl) ?_
            refine SO.op (Wanted.by rfl rfl rfl rfl) rfl (A_move (v := .d ((eL 3 eApiValue) p0)) rfl rfl) ?_
            obtain ⟨r452, hq453, h2⟩ := ob h2
            refine SO.call0 (r := .d (eB r452)) (Wanted.by rfl rfl rfl rfl) rfl rfl rfl rfl rfl cb14 rfl (fun _ => rfl) (fun _ => rfl) (raw_Values_ok r443 p0 _ hq453) ?_
            refine SO.op (Wanted.by rfl rfl rfl rfl) rfl (A_un (v := .d (eB (!r452))) rfl rfl rfl rfl) ?_
            refine SO.op (Wanted.free rfl) rfl (A_pickF (v := .d (eB (!r452))) rfl rfl rfl) ?_
            refine SO.nil ?_
            have q := Option.some.inj h2; subst q
            exact (Wk.trans (Wk.env (e' := [(1, .d ((eL 1 eB) p1)), (2, .d ((eL 1 eI) p2)), (3, .d (eS p3)), (68, .d (eB (!r452)))]) (EW.cons (AW.refl _) (EW.cons (AW.refl _) (EW.cons (AW.refl _) (EW.cons (AW.refl _) EW.nil))))) (Wk.canon (ι := []) (roots := []) (os := []) (e' := [(1, .d ((eL 1 eB) p1)), (2, .d ((eL 1 eI) p2)), (3, .d (eS p3)), (68, .d (eB (!r452)))]) rfl rfl rfl))
        · rintro y449 h1
          change SC _ _ _ ⟨mk 94 [(1, .d ((eL 1 eB) p1)), (2, .d ((eL 1 eI) p2)), (3, .d (eS p3)), (68, .d (eB y449))], []⟩ _
          refine SC.condB (t := y449) rfl (fun hb454 => ?_) (fun hb454 => ?_)
          · replace h1 := ct hb454 h1
            refine SC.seq ?_
            refine SC.region ?_
            refine SO.op (Wanted.free rfl) rfl (A_assign (v := .d (eB false)) rfl rfl) ?_
            refine SO.nil ?_
            change SC _ _ _ _ _
            refine SC.ret ?_
            have q := Option.some.inj h1; subst q
            have q := Option.some.inj h0; subst q
            exact finR (Wk.env (e' := [(8, .d (eB false))]) (EW.cons (AW.refl _) EW.nil)) (lresT rfl lresN) rfl
          · replace h1 := cf hb454 h1
            refine SC.skip ?_
            have q := Option.some.inj h1; subst q
            exact lf (Wk.env (e' := [(1, .d ((eL 1 eB) p1)), (2, .d ((eL 1 eI) p2)), (3, .d (eS p3))]) (EW.cons (AW.refl _) (EW.cons (AW.refl _) (EW.cons (AW.refl _) EW.nil))))
    · replace h1 := cf hb347 h1
      refine SC.skip ?_
      have q := Option.some.inj h1; subst q
      exact lf (Wk.env (e' := [(1, .d ((eL 1 eB) p1)), (2, .d ((eL 1 eI) p2)), (3, .d (eS p3))]) (EW.cons (AW.refl _) (EW.cons (AW.refl _) (EW.cons (AW.refl _) EW.nil))))
  · intro _ h0
    change SC _ _ _ ⟨mk 94 [(1, .d ((eL 1 eB) p1)), (2, .d ((eL 1 eI) p2)), (3, .d (eS p3))], []⟩ _
    refine SC.seq ?_
    refine SC.region ?_
    refine SO.op (Wanted.free rfl) rfl (A_move (v := .d ((eL 1 eI) p2)) rfl rfl) ?_
    refine SO.op (Wanted.free rfl) rfl (A_move (v := .d ((eL 1 eB) p1)) rfl rfl) ?_
    refine SO.op (Wanted.free rfl) rfl (A_move (v := .d (eS p3)) rfl rfl) ?_
    obtain ⟨⟨r455, r456⟩, hq457, h0⟩ := ob h0
    refine SO.call0 (r := .tuple [.d ((eL 3 eApiValue) r455), .d (eI r456)]) (Wanted.free rfl) rfl rfl rfl rfl rfl cb12 rfl (fun _ => rfl) (fun _ => rfl) (key_Decode_ok p2 p1 p3 _ hq457) ?_
    refine SO.op (Wanted.free rfl) rfl (A_move (v := .tuple [.d ((eL 3 eApiValue) r455), .d (eI r456)]) rfl rfl) ?_
    refine SO.op (Wanted.free rfl) rfl (A_extract (v := .d ((eL 3 eApiValue) r455)) rfl rfl rfl) ?_
    refine SO.op (Wanted.free rfl) rfl (A_extract (v := .d (eI r456)) rfl rfl rfl) ?_
    refine SO.op (Wanted.free rfl) rfl (A_assign (v := .d ((eL 3 eApiValue) r455)) rfl rfl) ?_
    refine SO.op (Wanted.free rfl) rfl (A_assign (v := .d (eI r456)) rfl rfl) ?_
    refine SO.nil ?_
    change SC _ _ _ _ _
    refine SC.seq ?_
    refine SC.seq ?_
    refine SC.region ?_
    refine SO.op (Wanted.free rfl) rfl (A_move (v := .d (eI r456)) rfl rfl) ?_
    refine SO.op (Wanted.free rfl) rfl (A_bin (v := .d (eB (r456 != (0 : Int)))) rfl rfl rfl (fun X Y => b_i64_neq _ X Y r456 (0 : Int))) ?_
    refine SO.nil ?_
    change SC _ _ _ _ _
    refine SC.condB (t := (r456 != (0 : Int))) rfl (fun hb458 => ?_) (fun hb458 => ?_)
    · replace h0 := ct hb458 h0
      refine SC.seq ?_
      refine SC.region ?_
      refine SO.op (Wanted.free rfl) rfl (A_move (v := .d ((eL 3 eApiValue) r455)) rfl rfl) ?_
      refine SO.op (Wanted.free rfl) rfl (A_len (v := .d (eI (r455.length : Int))) rfl rfl rfl rfl (len_lst un22)) ?_
      refine SO.op (Wanted.free rfl) rfl (A_bin (v := .d (eB ((r455.length : Int) == (0 : Int)))) rfl rfl rfl (fun X Y => b_i64_eql _ X Y (r455.length : Int) (0 : Int))) ?_
      refine SO.op (Wanted.free rfl) rfl (A_assign (v := .d (eB ((r455.length : Int) == (0 : Int)))) rfl rfl) ?_
      refine SO.nil ?_
      change SC _ _ _ _ _
      refine SC.ret ?_
      have q := Option.some.inj h0; subst q
      exact finR (Wk.env (e' := [(8, .d (eB ((r455.length : Int) == (0 : Int))))]) (EW.cons (AW.refl _) EW.nil)) (lresT rfl lresN) rfl
    · replace h0 := cf hb458 h0
      refine SC.skip ?_
      change SC _ _ _ _ _
      refine SC.seq ?_
      refine SC.region ?_
      refine SO.op (Wanted.free rfl) rfl (A_move (v := .d ((eL 3 eApiValue) r455)) rfl rfl) ?_
      refine SO.op (Wanted.free rfl) rfl (A_move (v := .d ((eL 1 eB) p1)) rfl rfl) ?_
      obtain ⟨⟨r459, r460⟩, hq461, h0⟩ := ob h0
      refine SO.call0 (r := .tuple [.d (eS r459), .d (eI r460)]) (Wanted.free rfl) rfl rfl rfl rfl rfl cb10 rfl (fun _ => rfl) (fun _ => rfl) (key_Encode_ok r455 p1 _ hq461) ?_
      refine SO.op (Wanted.free rfl) rfl (A_move (v := .tuple [.d (eS r459), .d (eI r460)]) rfl rfl) ?_
      refine SO.op (Wanted.free rfl) rfl (A_extract (v := .d (eS r459)) rfl rfl rfl) ?_
      refine SO.op (Wanted.free rfl) rfl (A_extract (v := .d (eI r460)) rfl rfl rfl) ?_
      refine SO.op (Wanted.free rfl) rfl (A_assign (v := .d (eS r459)) rfl rfl) ?_
      refine SO.op (Wanted.free rfl) rfl (A_assign (v := .d (eI r460)) rfl rfl) ?_
      refine SO.nil ?_
      change SC _ _ _ _ _
      refine SC.seqP h0 (fun y => ⟨mk 94 [(8, .d (eB y))], []⟩) ?_ ?_
      · intro u1_464 h1
        refine SC.region ?_
        refine SO.op (Wanted.free rfl) rfl (A_move (v := .d (eI r460)) rfl rfl) ?_
        refine SO.op (Wanted.free rfl) rfl (A_bin (v := .d (eB (r460 == (0 : Int)))) rfl rfl rfl (fun X Y => b_i64_eql _ X Y r460 (0 : Int))) ?_
        refine SO.op (Wanted.free rfl) rfl (A_move (v := .d (eB (r460 == (0 : Int)))) rfl rfl) ?_
        refine SO.split (fun hb465 => ?_) (fun hb465 => ?_)
        · replace h1 := ct hb465 h1
          refine SO.op (Wanted.by rfl rfl rfl rfl) rfl (A_move (v := .d (eS r459)) rfl rfl) ?_
          refine SO.op (Wanted.by rfl rfl rfl rfl) rfl (A_move (v := .d (eS p3)) rfl rfl) ?_
          refine SO.op (Wanted.by rfl rfl rfl rfl) rfl (A_bin (v := .d (eB (r459 == p3))) rfl rfl rfl (fun X Y => b_str_eql _ X Y r459 p3)) ?_
          refine SO.op (Wanted.free rfl) rfl (A_pickT (v := .d (eB (r459 == p3))) rfl rfl rfl) ?_
          refine SO.op (Wanted.free rfl) rfl (A_assign (v := .d (eB (r459 == p3))) rfl rfl) ?_
          refine SO.nil ?_
          have q := Option.some.inj h1; subst q
          exact (Wk.env (e' := [(8, .d (eB (r459 == p3)))]) (EW.cons (AW.refl _) EW.nil))
        · replace h1 := cf hb465 h1
          refine SO.skip (Wanted.by rfl rfl rfl rfl) rfl ?_
          refine SO.skip (Wanted.by rfl rfl rfl rfl) rfl ?_
          refine SO.skip (Wanted.by rfl rfl rfl rfl) rfl ?_
          refine SO.op (Wanted.free rfl) rfl (A_pickF (v := .d (eB false)) rfl rfl rfl) ?_
          refine SO.op (Wanted.free rfl) rfl (A_assign (v := .d (eB false)) rfl rfl) ?_
          refine SO.nil ?_
          have q := Option.some.inj h1; subst q
          exact (Wk.env (e' := [(8, .d (eB false))]) (EW.cons (AW.refl _) EW.nil))
      · rintro y463 h0
        change SC _ _ _ ⟨mk 94 [(8, .d (eB y463))], []⟩ _
        refine SC.ret ?_
        have q := Option.some.inj h0; subst q
        exact finR (Wk.env (e' := [(8, .d (eB y463))]) (EW.cons (AW.refl _) EW.nil)) (lresT rfl lresN) rfl

/-- granary/granarylaw07.KeyFree -/
noncomputable def law07_KeyFree (p0 : List ApiValue) (p1 : List ApiValue) (p2 : List Bool) : Option Bool :=
  Option.bind awakeF fun _ =>
  Option.bind (α := Bool)
    (bif ((p0.length : Int) != (p1.length : Int)) then
      some true
    else
      some ((p0.length : Int) != (p2.length : Int)))
    fun y469 =>
  bif y469 then
    some true
  else
    bif decide (0 ≤ (p0.length : Int) ∧ (p0.length : Int) * 8 ≤ 70368744177664 ∧ (p0.length : Int) ≤ 70368744177664) then
    bindE (Y := (List Int)) (E := Bool)
      (Option.bind (α := ((List Int)) ⊕ Bool)
        (loop (Y := (List Int) × Int) (W := ((List Int)) ⊕ Bool) (fun (y759, y760) =>
          bif (decide (y760 < (p0.length : Int))) then
            bindE (Y := (List Int)) (E := Bool)
              (Option.bind (α := Bool)
                (Option.bind (getI p0 y760) fun v878 =>
                Option.bind (getI p1 y760) fun v879 =>
                bif (v878.Kind != v879.Kind) then
                  Option.bind (getI p0 y760) fun v881 =>
                  bif (v881.Kind != (0 : Int)) then
                    Option.bind (getI p1 y760) fun v883 =>
                    some (v883.Kind != (0 : Int))
                  else
                    some false
                else
                  some false)
                fun y876 =>
              bif y876 then
                some (Sum.inr true)
              else
                Option.bind (getI p0 y760) fun v885 =>
                Option.bind (getI p1 y760) fun v886 =>
                Option.bind (getI y759 y760) fun v887 =>
                Option.bind (α := (List Int))
                  (Option.bind (getI p0 y760) fun v895 =>
                  Option.bind (getI p1 y760) fun v896 =>
                  bif (v895.Kind == v896.Kind) then
                    Option.bind (getI p0 y760) fun v898 =>
                    Option.bind (getI (List.set y759 y760.toNat (w64 (v885.Kind + v886.Kind))) y760) fun v899 =>
                    some (List.set (List.set y759 y760.toNat (w64 (v885.Kind + v886.Kind))) y760.toNat v898.Kind)
                  else
                    some (List.set y759 y760.toNat (w64 (v885.Kind + v886.Kind))))
                  fun y893 =>
                Option.bind (getI y893 y760) fun v900 =>
                bif (v900 == (0 : Int)) then
                  Option.bind (getI y893 y760) fun v902 =>
                  some (Sum.inl (List.set y893 y760.toNat (1 : Int)))
                else
                  some (Sum.inl y893))
              (fun y868 =>
                some (Sum.inl (y868, (w64 (y760 + (1 : Int))))))
              (fun e => some (Sum.inr (Sum.inr e)))
          else
            some (Sum.inr (Sum.inl y759))) ((List.replicate (p0.length : Int).toNat (0 : Int)), (0 : Int)))
        (Sum.elim (fun e => some (Sum.inl e)) (fun e => some (Sum.inr e))))
      (fun y688 =>
        Option.bind (key_Encode p0 p2) fun (r904, r905) =>
        Option.bind (key_Encode p1 p2) fun (r907, r908) =>
        Option.bind (α := Bool)
          (bif (r905 != (0 : Int)) then
            some true
          else
            some (r908 != (0 : Int)))
          fun y911 =>
        bif y911 then
          some true
        else
          Option.bind (α := Bool)
            (bif (decide ((r904.length : Int) < (r907.length : Int))) then
              bif decide (0 ≤ (r904.length : Int) ∧ (r904.length : Int) ≤ (r907.length : Int)) then
              some ((List.take (r904.length : Int).toNat r907) == r904)
              else none
            else
              some false)
            fun y917 =>
          bif y917 then
            some false
          else
            bif decide (r904.length + ([0] : List UInt8).length ≤ 9223372036854775807) then
            Option.bind (key_Decode y688 p2 (r904 ++ ([0] : List UInt8))) fun (r923, r924) =>
            bif (r924 != (2 : Int)) then
              some false
            else
              bif ((r904.length : Int) == (0 : Int)) then
                some true
              else
                bif decide (0 ≤ (w64 ((r904.length : Int) - (1 : Int))) ∧ (w64 ((r904.length : Int) - (1 : Int))) ≤ (r904.length : Int)) then
                Option.bind (key_Decode y688 p2 (List.take (w64 ((r904.length : Int) - (1 : Int))).toNat r904)) fun (r929, r930) =>
                some (r930 == (2 : Int))
                else none
            else none)
      (fun e => some e)
    else none
theorem law07_KeyFree_ok (p0 : List ApiValue) (p1 : List ApiValue) (p2 : List Bool) (r : Bool) (h0 : law07_KeyFree p0 p1 p2 = some r) : CallAt Tryd.prog 5 [.d ((eL 3 eApiValue) p0), .d ((eL 3 eApiValue) p1), .d ((eL 1 eB) p2)] [] (.d (eB r)) [] := by
  unfold law07_KeyFree at h0
  refine CallAt.of Tryd.func5 rfl ?_
  refine SC.post (Q' := fun e s => ∃ s1, Wk _ s s1 ∧ Fin _ _ _ _ e s1) ?_ (fun _ _ h => h)
  refine SC.wk (s1 := ⟨mk 165 [(0, .d ((eL 3 eApiValue) p0)), (1, .d ((eL 3 eApiValue) p1)), (2, .d ((eL 1 eB) p2))], []⟩) (Wk.begin (n := 165) (Nat.le_of_ble_eq_true rfl)) ?_
  refine SC.seq ?_
  refine SC.region ?_
  refine SO.op (Wanted.free rfl) rfl (A_assign (v := .d (eB false)) rfl rfl) ?_
  refine SO.nil ?_
  change SC _ _ _ _ _
  refine SC.seq ?_
  refine SC.seq ?_
  refine SC.region ?_
  obtain ⟨_, hq467, h0⟩ := ob h0
  refine SO.call0 (r := .d (eB true)) (Wanted.free rfl) rfl rfl rfl rfl rfl cb9 rfl (fun _ => rfl) (fun _ => rfl) (awake_ok _ hq467) ?_
  refine SO.op (Wanted.free rfl) rfl (A_un (v := .d (eB false)) rfl rfl rfl rfl) ?_
  refine SO.nil ?_
  change SC _ _ _ _ _
  refine SC.condF rfl ?_
  refine SC.skip ?_
  change SC _ _ _ _ _
  refine SC.seq ?_
  refine SC.seqP h0 (fun y => ⟨mk 165 [(0, .d ((eL 3 eApiValue) p0)), (1, .d ((eL 3 eApiValue) p1)), (2, .d ((eL 1 eB) p2)), (30, .d (eB y))], []⟩) ?_ ?_
  · intro u1_470 h1
    refine SC.region ?_
    refine SO.op (Wanted.free rfl) rfl (A_move (v := .d ((eL 3 eApiValue) p0)) rfl rfl) ?_
    refine SO.op (Wanted.free rfl) rfl (A_len (v := .d (eI (p0.length : Int))) rfl rfl rfl rfl (len_lst un22)) ?_
    refine SO.op (Wanted.free rfl) rfl (A_move (v := .d ((eL 3 eApiValue) p1)) rfl rfl) ?_
    refine SO.op (Wanted.free rfl) rfl (A_len (v := .d (eI (p1.length : Int))) rfl rfl rfl rfl (len_lst un22)) ?_
    refine SO.op (Wanted.free rfl) rfl (A_bin (v := .d (eB ((p0.length : Int) != (p1.length : Int)))) rfl rfl rfl (fun X Y => b_i64_neq _ X Y (p0.length : Int) (p1.length : Int))) ?_
    refine SO.op (Wanted.free rfl) rfl (A_move (v := .d (eB ((p0.length : Int) != (p1.length : Int)))) rfl rfl) ?_
    refine SO.split (fun hb471 => ?_) (fun hb471 => ?_)
    · replace h1 := ct hb471 h1
      refine SO.skip (Wanted.by rfl rfl rfl rfl) rfl ?_
      refine SO.skip (Wanted.by rfl rfl rfl rfl) rfl ?_
      refine SO.skip (Wanted.by rfl rfl rfl rfl) rfl ?_
      refine SO.skip (Wanted.by rfl rfl rfl rfl) rfl ?_
      refine SO.skip (Wanted.by rfl rfl rfl rfl) rfl ?_
      refine SO.op (Wanted.free rfl) rfl (A_pickT (v := .d (eB true)) rfl rfl rfl) ?_
      refine SO.nil ?_
      have q := Option.some.inj h1; subst q
      exact (Wk.env (e' := [(0, .d ((eL 3 eApiValue) p0)), (1, .d ((eL 3 eApiValue) p1)), (2, .d ((eL 1 eB) p2)), (30, .d (eB true))]) (EW.cons (AW.refl _) (EW.cons (AW.refl _) (EW.cons (AW.refl _) (EW.cons (AW.refl _) EW.nil)))))
    · replace h1 := cf hb471 h1
      refine SO.op (Wanted.by rfl rfl rfl rfl) rfl (A_move (v := .d ((eL 3 eApiValue) p0)) rfl rfl) ?_
      refine SO.op (Wanted.by rfl rfl rfl rfl) rfl (A_len (v := .d (eI (p0.length : Int))) rfl rfl rfl rfl (len_lst un22)) ?_
      refine SO.op (Wanted.by rfl rfl rfl rfl) rfl (A_move (v := .d ((eL 1 eB) p2)) rfl rfl) ?_
      refine SO.op (Wanted.by rfl rfl rfl rfl) rfl (A_len (v := .d (eI (p2.length : Int))) rfl rfl rfl rfl (len_lst un23)) ?_
      refine SO.op (Wanted.by rfl rfl rfl rfl) rfl (A_bin (v := .d (eB ((p0.length : Int) != (p2.length : Int)))) rfl rfl rfl (fun X Y => b_i64_neq _ X Y (p0.length : Int) (p2.length : Int))) ?_
      refine SO.op (Wanted.free rfl) rfl (A_pickF (v := .d (eB ((p0.length : Int) != (p2.length : Int)))) rfl rfl rfl) ?_
      refine SO.nil ?_
      have q := Option.some.inj h1; subst q
      exact (Wk.env (e' := [(0, .d ((eL 3 eApiValue) p0)), (1, .d ((eL 3 eApiValue) p1)), (2, .d ((eL 1 eB) p2)), (30, .d (eB ((p0.length : Int) != (p2.length : Int))))]) (EW.cons (AW.refl _) (EW.cons (AW.refl _) (EW.cons (AW.refl _) (EW.cons (AW.refl _) EW.nil)))))
  · rintro y469 h0
    change SC _ _ _ ⟨mk 165 [(0, .d ((eL 3 eApiValue) p0)), (1, .d ((eL 3 eApiValue) p1)), (2, .d ((eL 1 eB) p2)), (30, .d (eB y469))], []⟩ _
    refine SC.condB (t := y469) rfl (fun hb472 => ?_) (fun hb472 => ?_)
    · replace h0 := ct hb472 h0
      refine SC.seq ?_
      refine SC.region ?_
      refine SO.op (Wanted.free rfl) rfl (A_assign (v := .d (eB true)) rfl rfl) ?_
      refine SO.nil ?_
      change SC _ _ _ _ _
      refine SC.ret ?_
      have q := Option.some.inj h0; subst q
      exact finR (Wk.env (e' := [(6, .d (eB true))]) (EW.cons (AW.refl _) EW.nil)) (lresT rfl lresN) rfl
    · replace h0 := cf hb472 h0
      refine SC.skip ?_
      change SC _ _ _ _ _
      refine SC.seq ?_
      refine SC.region ?_
      refine SO.op (Wanted.free rfl) rfl (A_move (v := .d ((eL 3 eApiValue) p0)) rfl rfl) ?_
      refine SO.op (Wanted.free rfl) rfl (A_len (v := .d (eI (p0.length : Int))) rfl rfl rfl rfl (len_lst un22)) ?_
      obtain ⟨hg473, h0⟩ := gd h0
      refine SO.opW (v' := .slc 0 1 0 ((List.replicate (p0.length : Int).toNat (0 : Int)).length) none) (Wanted.free rfl) rfl (A_makeSlice (σ' := [.row 1 (List.map eI (List.replicate (p0.length : Int).toNat (0 : Int))) true]) rfl rfl rfl (mkSlc un24 ei3 rfl hg473.1 hg473.2 rfl rfl)) (AW.slcc rfl rfl) ?_
      refine SO.op (Wanted.free rfl) rfl (A_assign (v := .slc 0 1 0 ((List.replicate (p0.length : Int).toNat (0 : Int)).length) none) rfl rfl) ?_
      refine SO.nil ?_
      change SC _ _ _ _ _
      refine SC.seqB h0 (fun y => ⟨mk 165 [(0, .d ((eL 3 eApiValue) p0)), (1, .d ((eL 3 eApiValue) p1)), (2, .d ((eL 1 eB) p2)), (7, .slc 0 1 0 y.length none)], [.row 1 (List.map eI y) true]⟩) ?_ ?_
      · intro u1_689 h1 h0
        refine SC.seq ?_
        refine SC.region ?_
        refine SO.op (Wanted.free rfl) rfl (A_assign (v := .d (eI (0 : Int))) rfl rfl) ?_
        refine SO.nil ?_
        change SC _ _ _ _ _
        refine SC.blk ?_
        obtain ⟨u2_833, h2, h1⟩ := ob h1
        refine SC.loopB h2 (fun y => ⟨mk 165 [(0, .d ((eL 3 eApiValue) p0)), (1, .d ((eL 3 eApiValue) p1)), (2, .d ((eL 1 eB) p2)), (7, .slc 0 1 0 y.1.length none), (8, .d (eI y.2))], [.row 1 (List.map eI y.1) true]⟩) (Wk.env (e' := [(0, .d ((eL 3 eApiValue) p0)), (1, .d ((eL 3 eApiValue) p1)), (2, .d ((eL 1 eB) p2)), (7, .slc 0 1 0 ((List.replicate (p0.length : Int).toNat (0 : Int)).length) none), (8, .d (eI (0 : Int)))]) (EW.cons (AW.refl _) (EW.cons (AW.refl _) (EW.cons (AW.refl _) (EW.cons (AW.refl _) (EW.cons (AW.refl _) EW.nil)))))) ?_
        intro n903
        rintro ⟨y759, y760⟩ w2_832 h3 hv3
        change SC _ _ _ ⟨mk 165 [(0, .d ((eL 3 eApiValue) p0)), (1, .d ((eL 3 eApiValue) p1)), (2, .d ((eL 1 eB) p2)), (7, .slc 0 1 0 y759.length none), (8, .d (eI y760))], [.row 1 (List.map eI y759) true]⟩ _
        refine SC.seq ?_
        refine SC.seq ?_
        refine SC.region ?_
        refine SO.op (Wanted.free rfl) rfl (A_move (v := .d (eI y760)) rfl rfl) ?_
        refine SO.op (Wanted.free rfl) rfl (A_move (v := .d ((eL 3 eApiValue) p0)) rfl rfl) ?_
        refine SO.op (Wanted.free rfl) rfl (A_len (v := .d (eI (p0.length : Int))) rfl rfl rfl rfl (len_lst un22)) ?_
        refine SO.op (Wanted.free rfl) rfl (A_bin (v := .d (eB (decide (y760 < (p0.length : Int))))) rfl rfl rfl (fun X Y => b_i64_lss _ X Y y760 (p0.length : Int))) ?_
        refine SO.nil ?_
        change SC _ _ _ _ _
        refine SC.condB (t := (decide (y760 < (p0.length : Int)))) rfl (fun hb834 => ?_) (fun hb834 => ?_)
        · replace h3 := ct hb834 h3
          refine SC.skip ?_
          change SC _ _ _ _ _
          refine SC.seqB h3 (fun y => ⟨mk 165 [(0, .d ((eL 3 eApiValue) p0)), (1, .d ((eL 3 eApiValue) p1)), (2, .d ((eL 1 eB) p2)), (7, .slc 0 1 0 y.length none), (8, .d (eI y760))], [.row 1 (List.map eI y) true]⟩) ?_ ?_
          · intro u4_869 h4 h3
            refine SC.blk ?_
            refine SC.seq ?_
            refine SC.seqP h4 (fun y => ⟨mk 165 [(0, .d ((eL 3 eApiValue) p0)), (1, .d ((eL 3 eApiValue) p1)), (2, .d ((eL 1 eB) p2)), (7, .slc 0 1 0 y759.length none), (8, .d (eI y760)), (66, .d (eB y))], [.row 1 (List.map eI y759) true]⟩) ?_ ?_
            · intro u5_877 h5
              refine SC.draws (by kernel_rfl) ?_
              refine ST.op (mk' := ([], false)) (Wanted.free rfl) rfl (A_move (v := .d ((eL 3 eApiValue) p0)) rfl rfl) rfl ?_
              refine ST.op (mk' := ([], false)) (Wanted.free rfl) rfl (A_move (v := .d (eI y760)) rfl rfl) rfl ?_
              obtain ⟨v878, hv878, h5⟩ := ob h5
              refine ST.op (mk' := ([], false)) (Wanted.free rfl) rfl (A_indexAddr (v := .rop [(eI v878.Kind), (eU64 v878.N), (eS v878.S)]) rfl rfl rfl (ia_lst un22 ts35 (getI_some hv878).1 (map_get (getI_some hv878).2))) rfl ?_
              refine ST.op (mk' := ([], false)) (Wanted.free rfl) rfl (A_fieldAddr (v := .rop [(eI v878.Kind), (eU64 v878.N), (eS v878.S)]) rfl rfl (fa_rop fo35_0 ts3 rfl)) rfl ?_
              refine ST.op (mk' := ([], false)) (Wanted.free rfl) rfl (A_load (v := .d (eI v878.Kind)) rfl rfl (ld_rop ts3 ta3 rfl)) rfl ?_
              refine ST.op (mk' := ([], false)) (Wanted.free rfl) rfl (A_move (v := .d ((eL 3 eApiValue) p1)) rfl rfl) rfl ?_
              refine ST.op (mk' := ([], false)) (Wanted.free rfl) rfl (A_move (v := .d (eI y760)) rfl rfl) rfl ?_
              obtain ⟨v879, hv879, h5⟩ := ob h5
              refine ST.op (mk' := ([], false)) (Wanted.free rfl) rfl (A_indexAddr (v := .rop [(eI v879.Kind), (eU64 v879.N), (eS v879.S)]) rfl rfl rfl (ia_lst un22 ts35 (getI_some hv879).1 (map_get (getI_some hv879).2))) rfl ?_
              refine ST.op (mk' := ([], false)) (Wanted.free rfl) rfl (A_fieldAddr (v := .rop [(eI v879.Kind), (eU64 v879.N), (eS v879.S)]) rfl rfl (fa_rop fo35_0 ts3 rfl)) rfl ?_
              refine ST.op (mk' := ([], false)) (Wanted.free rfl) rfl (A_load (v := .d (eI v879.Kind)) rfl rfl (ld_rop ts3 ta3 rfl)) rfl ?_
              refine ST.op (mk' := ([], false)) (Wanted.free rfl) rfl (A_bin (v := .d (eB (v878.Kind != v879.Kind))) rfl rfl rfl (fun X Y => b_i64_neq _ X Y v878.Kind v879.Kind)) rfl ?_
              refine ST.op (mk' := ([], false)) (Wanted.free rfl) rfl (A_move (v := .d (eB (v878.Kind != v879.Kind))) rfl rfl) rfl ?_
              refine ST.split (fun hb880 => ?_) (fun hb880 => ?_)
              · replace h5 := ct hb880 h5
                refine ST.op (mk' := ([], false)) (Wanted.by rfl rfl rfl rfl) rfl (A_move (v := .d ((eL 3 eApiValue) p0)) rfl rfl) rfl ?_
                refine ST.op (mk' := ([], false)) (Wanted.by rfl rfl rfl rfl) rfl (A_move (v := .d (eI y760)) rfl rfl) rfl ?_
                obtain ⟨v881, hv881, h5⟩ := ob h5
                refine ST.op (mk' := ([], false)) (Wanted.by rfl rfl rfl rfl) rfl (A_indexAddr (v := .rop [(eI v881.Kind), (eU64 v881.N), (eS v881.S)]) rfl rfl rfl (ia_lst un22 ts35 (getI_some hv881).1 (map_get (getI_some hv881).2))) rfl ?_
                refine ST.op (mk' := ([], false)) (Wanted.by rfl rfl rfl rfl) rfl (A_fieldAddr (v := .rop [(eI v881.Kind), (eU64 v881.N), (eS v881.S)]) rfl rfl (fa_rop fo35_0 ts3 rfl)) rfl ?_
                refine ST.op (mk' := ([], false)) (Wanted.by rfl rfl rfl rfl) rfl (A_load (v := .d (eI v881.Kind)) rfl rfl (ld_rop ts3 ta3 rfl)) rfl ?_
                refine ST.op (mk' := ([], false)) (Wanted.by rfl rfl rfl rfl) rfl (A_bin (v := .d (eB (v881.Kind != (0 : Int)))) rfl rfl rfl (fun X Y => b_i64_neq _ X Y v881.Kind (0 : Int))) rfl ?_
                refine ST.op (mk' := ([], false)) (Wanted.free rfl) rfl (A_pickT (v := .d (eB (v881.Kind != (0 : Int)))) rfl rfl rfl) rfl ?_
                refine ST.op (mk' := ([], false)) (Wanted.free rfl) rfl (A_move (v := .d (eB (v881.Kind != (0 : Int)))) rfl rfl) rfl ?_
                refine ST.split (fun hb882 => ?_) (fun hb882 => ?_)
                · replace h5 := ct hb882 h5
                  refine ST.op (mk' := ([], false)) (Wanted.by rfl rfl rfl rfl) rfl (A_move (v := .d ((eL 3 eApiValue) p1)) rfl rfl) rfl ?_
                  refine ST.op (mk' := ([], false)) (Wanted.by rfl rfl rfl rfl) rfl (A_move (v := .d (eI y760)) rfl rfl) rfl ?_
                  obtain ⟨v883, hv883, h5⟩ := ob h5
                  refine ST.op (mk' := ([], false)) (Wanted.by rfl rfl rfl rfl) rfl (A_indexAddr (v := .rop [(eI v883.Kind), (eU64 v883.N), (eS v883.S)]) rfl rfl rfl (ia_lst un22 ts35 (getI_some hv883).1 (map_get (getI_some hv883).2))) rfl ?_
                  refine ST.op (mk' := ([], false)) (Wanted.by rfl rfl rfl rfl) rfl (A_fieldAddr (v := .rop [(eI v883.Kind), (eU64 v883.N), (eS v883.S)]) rfl rfl (fa_rop fo35_0 ts3 rfl)) rfl ?_
                  refine ST.op (mk' := ([], false)) (Wanted.by rfl rfl rfl rfl) rfl (A_load (v := .d (eI v883.Kind)) rfl rfl (ld_rop ts3 ta3 rfl)) rfl ?_
                  refine ST.op (mk' := ([], false)) (Wanted.by rfl rfl rfl rfl) rfl (A_bin (v := .d (eB (v883.Kind != (0 : Int)))) rfl rfl rfl (fun X Y => b_i64_neq _ X Y v883.Kind (0 : Int))) rfl ?_
                  refine ST.op (mk' := ([], false)) (Wanted.free rfl) rfl (A_pickT (v := .d (eB (v883.Kind != (0 : Int)))) rfl rfl rfl) rfl ?_
                  refine ST.nil (And.intro (by decide +kernel) ?_)
                  have q := Option.some.inj h5; subst q
                  exact (Wk.env (e' := [(0, .d ((eL 3 eApiValue) p0)), (1, .d ((eL 3 eApiValue) p1)), (2, .d ((eL 1 eB) p2)), (7, .slc 0 1 0 y759.length none), (8, .d (eI y760)), (66, .d (eB (v883.Kind != (0 : Int))))]) (EW.cons (AW.refl _) (EW.cons (AW.refl _) (EW.cons (AW.refl _) (EW.cons (AW.refl _) (EW.cons (AW.refl _) (EW.cons (AW.refl _) EW.nil)))))))
                · replace h5 := cf hb882 h5
                  refine ST.skip (Wanted.by rfl rfl rfl rfl) rfl ?_
                  refine ST.skip (Wanted.by rfl rfl rfl rfl) rfl ?_
                  refine ST.skip (Wanted.by rfl rfl rfl rfl) rfl ?_
                  refine ST.skip (Wanted.by rfl rfl rfl rfl) rfl ?_
                  refine ST.skip (Wanted.by rfl rfl rfl rfl) rfl ?_
                  refine ST.skip (Wanted.by rfl rfl rfl rfl) rfl ?_
                  refine ST.op (mk' := ([], false)) (Wanted.free rfl) rfl (A_pickF (v := .d (eB false)) rfl rfl rfl) rfl ?_
                  refine ST.nil (And.intro (by decide +kernel) ?_)
                  have q := Option.some.inj h5; subst q
                  exact (Wk.env (e' := [(0, .d ((eL 3 eApiValue) p0)), (1, .d ((eL 3 eApiValue) p1)), (2, .d ((eL 1 eB) p2)), (7, .slc 0 1 0 y759.length none), (8, .d (eI y760)), (66, .d (eB false))]) (EW.cons (AW.refl _) (EW.cons (AW.refl _) (EW.cons (AW.refl _) (EW.cons (AW.refl _) (EW.cons (AW.refl _) (EW.cons (AW.refl _) EW.nil)))))))
              · replace h5 := cf hb880 h5
                refine ST.skip (Wanted.by rfl rfl rfl rfl) rfl ?_
                refine ST.skip (Wanted.by rfl rfl rfl rfl) rfl ?_
                refine ST.skip (Wanted.by rfl rfl rfl rfl) rfl ?_
                refine ST.skip (Wanted.by rfl rfl rfl rfl) rfl ?_
                refine ST.skip (Wanted.by rfl rfl rfl rfl) rfl ?_
                refine ST.skip (Wanted.by rfl rfl rfl rfl) rfl ?_
                refine ST.op (mk' := ([], false)) (Wanted.free rfl) rfl (A_pickF (v := .d (eB false)) rfl rfl rfl) rfl ?_
                refine ST.op (mk' := ([], false)) (Wanted.free rfl) rfl (A_move (v := .d (eB false)) rfl rfl) rfl ?_
                refine ST.skip (Wanted.by rfl rfl rfl rfl) rfl ?_
                refine ST.skip (Wanted.by rfl rfl rfl rfl) rfl ?_
                refine ST.skip (Wanted.by rfl rfl rfl rfl) rfl ?_
                refine ST.skip (Wanted.by rfl rfl rfl rfl) rfl ?_
                refine ST.skip (Wanted.by rfl rfl rfl rfl) rfl ?_
                refine ST.skip (Wanted.by rfl rfl rfl rfl) rfl ?_
                refine ST.op (mk' := ([], false)) (Wanted.free rfl) rfl (A_pickF (v := .d (eB false)) rfl rfl rfl) rfl ?_
                refine ST.nil (And.intro (by decide +kernel) ?_)
                have q := Option.some.inj h5; subst q
                exact (Wk.env (e' := [(0, .d ((eL 3 eApiValue) p0)), (1, .d ((eL 3 eApiValue) p1)), (2, .d ((eL 1 eB) p2)), (7, .slc 0 1 0 y759.length none), (8, .d (eI y760)), (66, .d (eB false))]) (EW.cons (AW.refl _) (EW.cons (AW.refl _) (EW.cons (AW.refl _) (EW.cons (AW.refl _) (EW.cons (AW.refl _) (EW.cons (AW.refl _) EW.nil)))))))
            · rintro y876 h4
              change SC _ _ _ ⟨mk 165 [(0, .d ((eL 3 eApiValue) p0)), (1, .d ((eL 3 eApiValue) p1)), (2, .d ((eL 1 eB) p2)), (7, .slc 0 1 0 y759.length none), (8, .d (eI y760)), (66, .d (eB y876))], [.row 1 (List.map eI y759) true]⟩ _
              refine SC.condB (t := y876) rfl (fun hb884 => ?_) (fun hb884 => ?_)
              · replace h4 := ct hb884 h4
                refine SC.seq ?_
                refine SC.region ?_
                refine SO.op (Wanted.free rfl) rfl (A_assign (v := .d (eB true)) rfl rfl) ?_
                refine SO.nil ?_
                change SC _ _ _ _ _
                refine SC.ret ?_
                have q := Option.some.inj h4; subst q
                have q := Option.some.inj h3; subst q
                have q : _ = _ := hv3; subst q
                have q := Option.some.inj h1; subst q
                have q := Option.some.inj h0; subst q
                exact finR (Wk.trans (Wk.env (e' := [(6, .d (eB true))]) (EW.cons (AW.refl _) EW.nil)) (Wk.canon (ι := []) (roots := []) (os := []) (e' := [(6, .d (eB true))]) rfl rfl rfl)) (lresT rfl lresN) rfl
              · replace h4 := cf hb884 h4
                refine SC.skip ?_
                change SC _ _ _ _ _
                refine SC.seq ?_
                refine SC.draws (by kernel_rfl) ?_
                refine ST.op (mk' := ([], false)) (Wanted.free rfl) rfl (A_move (v := .slc 0 1 0 y759.length none) rfl rfl) rfl ?_
                refine ST.op (mk' := ([], false)) (Wanted.free rfl) rfl (A_move (v := .d (eI y760)) rfl rfl) rfl ?_
                refine ST.op (mk' := ([], false)) (Wanted.free rfl) rfl (A_move (v := .d ((eL 3 eApiValue) p0)) rfl rfl) rfl ?_
                refine ST.op (mk' := ([], false)) (Wanted.free rfl) rfl (A_move (v := .d (eI y760)) rfl rfl) rfl ?_
                obtain ⟨v885, hv885, h4⟩ := ob h4
                refine ST.op (mk' := ([], false)) (Wanted.free rfl) rfl (A_indexAddr (v := .rop [(eI v885.Kind), (eU64 v885.N), (eS v885.S)]) rfl rfl rfl (ia_lst un22 ts35 (getI_some hv885).1 (map_get (getI_some hv885).2))) rfl ?_
                refine ST.op (mk' := ([], false)) (Wanted.free rfl) rfl (A_fieldAddr (v := .rop [(eI v885.Kind), (eU64 v885.N), (eS v885.S)]) rfl rfl (fa_rop fo35_0 ts3 rfl)) rfl ?_
                refine ST.op (mk' := ([], false)) (Wanted.free rfl) rfl (A_load (v := .d (eI v885.Kind)) rfl rfl (ld_rop ts3 ta3 rfl)) rfl ?_
                refine ST.op (mk' := ([], false)) (Wanted.free rfl) rfl (A_move (v := .d ((eL 3 eApiValue) p1)) rfl rfl) rfl ?_
                refine ST.op (mk' := ([], false)) (Wanted.free rfl) rfl (A_move (v := .d (eI y760)) rfl rfl) rfl ?_
                obtain ⟨v886, hv886, h4⟩ := ob h4
                refine ST.op (mk' := ([], false)) (Wanted.free rfl) rfl (A_indexAddr (v := .rop [(eI v886.Kind), (eU64 v886.N), (eS v886.S)]) rfl rfl rfl (ia_lst un22 ts35 (getI_some hv886).1 (map_get (getI_some hv886).2))) rfl ?_
                refine ST.op (mk' := ([], false)) (Wanted.free rfl) rfl (A_fieldAddr (v := .rop [(eI v886.Kind), (eU64 v886.N), (eS v886.S)]) rfl rfl (fa_rop fo35_0 ts3 rfl)) rfl ?_
                refine ST.op (mk' := ([], false)) (Wanted.free rfl) rfl (A_load (v := .d (eI v886.Kind)) rfl rfl (ld_rop ts3 ta3 rfl)) rfl ?_
                refine ST.op (mk' := ([], false)) (Wanted.free rfl) rfl (A_bin (v := .d (eI (w64 (v885.Kind + v886.Kind)))) rfl rfl rfl (fun X Y => b_i64_add _ X Y v885.Kind v886.Kind)) rfl ?_
                obtain ⟨v887, hv887, h4⟩ := ob h4
                refine ST.opW (mk' := ([], false)) (v' := .ref 0 (y760.toNat) 0) (Wanted.free rfl) rfl (A_indexAddr (v := .ref 0 (0 + y760.toNat) 0) rfl rfl rfl (ia_slc un24 ts3 (getI_lt hv887))) (AW.refz (by simp)) rfl ?_
                refine ST.op0 (mk' := ([0], true)) (Wanted.free rfl) rfl (A_store (σ' := [.row 1 (List.map eI (List.set y759 y760.toNat (w64 (v885.Kind + v886.Kind)))) true]) rfl rfl rfl (st_row1 (f := eI) (v := (w64 (v885.Kind + v886.Kind))) ts3 rfl rfl rfl rfl (getI_some hv887).2 rfl rfl)) rfl ?_
                refine ST.nil (And.intro (by decide +kernel) ?_)
                change SC _ _ _ _ _
                refine SC.seqP h4 (fun y => ⟨mk 165 [(0, .d ((eL 3 eApiValue) p0)), (1, .d ((eL 3 eApiValue) p1)), (2, .d ((eL 1 eB) p2)), (7, .slc 0 1 0 y.length none), (8, .d (eI y760))], [.row 1 (List.map eI y) true]⟩) ?_ ?_
                · intro u5_894 h5
                  refine SC.seq ?_
                  refine SC.draws (by kernel_rfl) ?_
                  refine ST.op (mk' := ([], false)) (Wanted.free rfl) rfl (A_move (v := .d ((eL 3 eApiValue) p0)) rfl rfl) rfl ?_
                  refine ST.op (mk' := ([], false)) (Wanted.free rfl) rfl (A_move (v := .d (eI y760)) rfl rfl) rfl ?_
                  obtain ⟨v895, hv895, h5⟩ := ob h5
                  refine ST.op (mk' := ([], false)) (Wanted.free rfl) rfl (A_indexAddr (v := .rop [(eI v895.Kind), (eU64 v895.N), (eS v895.S)]) rfl rfl rfl (ia_lst un22 ts35 (getI_some hv895).1 (map_get (getI_some hv895).2))) rfl ?_
                  refine ST.op (mk' := ([], false)) (Wanted.free rfl) rfl (A_fieldAddr (v := .rop [(eI v895.Kind), (eU64 v895.N), (eS v895.S)]) rfl rfl (fa_rop fo35_0 ts3 rfl)) rfl ?_
                  refine ST.op (mk' := ([], false)) (Wanted.free rfl) rfl (A_load (v := .d (eI v895.Kind)) rfl rfl (ld_rop ts3 ta3 rfl)) rfl ?_
                  refine ST.op (mk' := ([], false)) (Wanted.free rfl) rfl (A_move (v := .d ((eL 3 eApiValue) p1)) rfl rfl) rfl ?_
                  refine ST.op (mk' := ([], false)) (Wanted.free rfl) rfl (A_move (v := .d (eI y760)) rfl rfl) rfl ?_
                  obtain ⟨v896, hv896, h5⟩ := ob h5
                  refine ST.op (mk' := ([], false)) (Wanted.free rfl) rfl (A_indexAddr (v := .rop [(eI v896.Kind), (eU64 v896.N), (eS v896.S)]) rfl rfl rfl (ia_lst un22 ts35 (getI_some hv896).1 (map_get (getI_some hv896).2))) rfl ?_
                  refine ST.op (mk' := ([], false)) (Wanted.free rfl) rfl (A_fieldAddr (v := .rop [(eI v896.Kind), (eU64 v896.N), (eS v896.S)]) rfl rfl (fa_rop fo35_0 ts3 rfl)) rfl ?_
                  refine ST.op (mk' := ([], false)) (Wanted.free rfl) rfl (A_load (v := .d (eI v896.Kind)) rfl rfl (ld_rop ts3 ta3 rfl)) rfl ?_
                  refine ST.op (mk' := ([], false)) (Wanted.free rfl) rfl (A_bin (v := .d (eB (v895.Kind == v896.Kind))) rfl rfl rfl (fun X Y => b_i64_eql _ X Y v895.Kind v896.Kind)) rfl ?_
                  refine ST.nil (And.intro (by decide +kernel) ?_)
                  change SC _ _ _ _ _
                  refine SC.condB (t := (v895.Kind == v896.Kind)) rfl (fun hb897 => ?_) (fun hb897 => ?_)
                  · replace h5 := ct hb897 h5
                    refine SC.region ?_
                    refine SO.op (Wanted.free rfl) rfl (A_move (v := .slc 0 1 0 y759.length none) rfl rfl) ?_
                    refine SO.op (Wanted.free rfl) rfl (A_move (v := .d (eI y760)) rfl rfl) ?_
                    refine SO.op (Wanted.free rfl) rfl (A_move (v := .d ((eL 3 eApiValue) p0)) rfl rfl) ?_
                    refine SO.op (Wanted.free rfl) rfl (A_move (v := .d (eI y760)) rfl rfl) ?_
                    obtain ⟨v898, hv898, h5⟩ := ob h5
                    refine SO.op (Wanted.free rfl) rfl (A_indexAddr (v := .rop [(eI v898.Kind), (eU64 v898.N), (eS v898.S)]) rfl rfl rfl (ia_lst un22 ts35 (getI_some hv898).1 (map_get (getI_some hv898).2))) ?_
                    refine SO.op (Wanted.free rfl) rfl (A_fieldAddr (v := .rop [(eI v898.Kind), (eU64 v898.N), (eS v898.S)]) rfl rfl (fa_rop fo35_0 ts3 rfl)) ?_
                    refine SO.op (Wanted.free rfl) rfl (A_load (v := .d (eI v898.Kind)) rfl rfl (ld_rop ts3 ta3 rfl)) ?_
                    obtain ⟨v899, hv899, h5⟩ := ob h5
                    refine SO.opW (v' := .ref 0 (y760.toNat) 0) (Wanted.free rfl) rfl (A_indexAddr (v := .ref 0 (0 + y760.toNat) 0) rfl rfl rfl (ia_slc un24 ts3 (by have q := getI_lt hv899; simpa using q))) (AW.refz (by simp)) ?_
                    refine SO.op0 (Wanted.free rfl) rfl (A_store (σ' := [.row 1 (List.map eI (List.set (List.set y759 y760.toNat (w64 (v885.Kind + v886.Kind))) y760.toNat v898.Kind)) true]) rfl rfl rfl (st_row1 (f := eI) (v := v898.Kind) ts3 rfl rfl rfl rfl (getI_some hv899).2 rfl rfl)) ?_
                    refine SO.nil ?_
                    have q := Option.some.inj h5; subst q
                    exact (Wk.env (e' := [(0, .d ((eL 3 eApiValue) p0)), (1, .d ((eL 3 eApiValue) p1)), (2, .d ((eL 1 eB) p2)), (7, .slc 0 1 0 ((List.set (List.set y759 y760.toNat (w64 (v885.Kind + v886.Kind))) y760.toNat v898.Kind).length) none), (8, .d (eI y760))]) (EW.cons (AW.refl _) (EW.cons (AW.refl _) (EW.cons (AW.refl _) (EW.cons (AW.slc rfl (by simp)) (EW.cons (AW.refl _) EW.nil))))))
                  · replace h5 := cf hb897 h5
                    refine SC.skip ?_
                    have q := Option.some.inj h5; subst q
                    exact (Wk.env (e' := [(0, .d ((eL 3 eApiValue) p0)), (1, .d ((eL 3 eApiValue) p1)), (2, .d ((eL 1 eB) p2)), (7, .slc 0 1 0 ((List.set y759 y760.toNat (w64 (v885.Kind + v886.Kind))).length) none), (8, .d (eI y760))]) (EW.cons (AW.refl _) (EW.cons (AW.refl _) (EW.cons (AW.refl _) (EW.cons (AW.slc rfl (by simp)) (EW.cons (AW.refl _) EW.nil))))))
                · rintro y893 h4
                  change SC _ _ _ ⟨mk 165 [(0, .d ((eL 3 eApiValue) p0)), (1, .d ((eL 3 eApiValue) p1)), (2, .d ((eL 1 eB) p2)), (7, .slc 0 1 0 y893.length none), (8, .d (eI y760))], [.row 1 (List.map eI y893) true]⟩ _
                  refine SC.seq ?_
                  refine SC.region ?_
                  refine SO.op (Wanted.free rfl) rfl (A_move (v := .slc 0 1 0 y893.length none) rfl rfl) ?_
                  refine SO.op (Wanted.free rfl) rfl (A_move (v := .d (eI y760)) rfl rfl) ?_
                  obtain ⟨v900, hv900, h4⟩ := ob h4
                  refine SO.opW (v' := .ref 0 (y760.toNat) 0) (Wanted.free rfl) rfl (A_indexAddr (v := .ref 0 (0 + y760.toNat) 0) rfl rfl rfl (ia_slc un24 ts3 (getI_lt hv900))) (AW.refz (by simp)) ?_
                  refine SO.op (Wanted.free rfl) rfl (A_load (v := .d (eI v900)) rfl rfl (ld_row ts3 ta3 rfl (map_get (getI_some hv900).2) rfl)) ?_
                  refine SO.op (Wanted.free rfl) rfl (A_bin (v := .d (eB (v900 == (0 : Int)))) rfl rfl rfl (fun X Y => b_i64_eql _ X Y v900 (0 : Int))) ?_
                  refine SO.nil ?_
                  change SC _ _ _ _ _
                  refine SC.condB (t := (v900 == (0 : Int))) rfl (fun hb901 => ?_) (fun hb901 => ?_)
                  · replace h4 := ct hb901 h4
                    refine SC.region ?_
                    refine SO.op (Wanted.free rfl) rfl (A_move (v := .slc 0 1 0 y893.length none) rfl rfl) ?_
                    refine SO.op (Wanted.free rfl) rfl (A_move (v := .d (eI y760)) rfl rfl) ?_
                    obtain ⟨v902, hv902, h4⟩ := ob h4
                    refine SO.opW (v' := .ref 0 (y760.toNat) 0) (Wanted.free rfl) rfl (A_indexAddr (v := .ref 0 (0 + y760.toNat) 0) rfl rfl rfl (ia_slc un24 ts3 (getI_lt hv902))) (AW.refz (by simp)) ?_
                    refine SO.op0 (Wanted.free rfl) rfl (A_store (σ' := [.row 1 (List.map eI (List.set y893 y760.toNat (1 : Int))) true]) rfl rfl rfl (st_row1 (f := eI) (v := (1 : Int)) ts3 rfl rfl rfl rfl (getI_some hv902).2 rfl rfl)) ?_
                    refine SO.nil ?_
                    have q := Option.some.inj h4; subst q
                    exact lf (Wk.env (e' := [(0, .d ((eL 3 eApiValue) p0)), (1, .d ((eL 3 eApiValue) p1)), (2, .d ((eL 1 eB) p2)), (7, .slc 0 1 0 ((List.set y893 y760.toNat (1 : Int)).length) none), (8, .d (eI y760))]) (EW.cons (AW.refl _) (EW.cons (AW.refl _) (EW.cons (AW.refl _) (EW.cons (AW.slc rfl (by simp)) (EW.cons (AW.refl _) EW.nil))))))
                  · replace h4 := cf hb901 h4
                    refine SC.skip ?_
                    have q := Option.some.inj h4; subst q
                    exact lf (Wk.env (e' := [(0, .d ((eL 3 eApiValue) p0)), (1, .d ((eL 3 eApiValue) p1)), (2, .d ((eL 1 eB) p2)), (7, .slc 0 1 0 y893.length none), (8, .d (eI y760))]) (EW.cons (AW.refl _) (EW.cons (AW.refl _) (EW.cons (AW.refl _) (EW.cons (AW.refl _) (EW.cons (AW.refl _) EW.nil))))))
          · rintro y868 h3
            change SC _ _ _ ⟨mk 165 [(0, .d ((eL 3 eApiValue) p0)), (1, .d ((eL 3 eApiValue) p1)), (2, .d ((eL 1 eB) p2)), (7, .slc 0 1 0 y868.length none), (8, .d (eI y760))], [.row 1 (List.map eI y868) true]⟩ _
            refine SC.region ?_
            refine SO.op (Wanted.free rfl) rfl (A_move (v := .d (eI y760)) rfl rfl) ?_
            refine SO.op (Wanted.free rfl) rfl (A_bin (v := .d (eI (w64 (y760 + (1 : Int))))) rfl rfl rfl (fun X Y => b_i64_add _ X Y y760 (1 : Int))) ?_
            refine SO.op (Wanted.free rfl) rfl (A_assign (v := .d (eI (w64 (y760 + (1 : Int))))) rfl rfl) ?_
            refine SO.nil ?_
            have q := Option.some.inj h3; subst q
            exact lf (Wk.env (e' := [(0, .d ((eL 3 eApiValue) p0)), (1, .d ((eL 3 eApiValue) p1)), (2, .d ((eL 1 eB) p2)), (7, .slc 0 1 0 y868.length none), (8, .d (eI (w64 (y760 + (1 : Int)))))]) (EW.cons (AW.refl _) (EW.cons (AW.refl _) (EW.cons (AW.refl _) (EW.cons (AW.refl _) (EW.cons (AW.refl _) EW.nil))))))
        · replace h3 := cf hb834 h3
          refine SC.exit ?_
          have q := Option.some.inj h3; subst q
          have q : _ = _ := hv3; subst q
          have q := Option.some.inj h1; subst q
          exact lf (Wk.env (e' := [(0, .d ((eL 3 eApiValue) p0)), (1, .d ((eL 3 eApiValue) p1)), (2, .d ((eL 1 eB) p2)), (7, .slc 0 1 0 y759.length none)]) (EW.cons (AW.refl _) (EW.cons (AW.refl _) (EW.cons (AW.refl _) (EW.cons (AW.refl _) EW.nil)))))
      · rintro y688 h0
        change SC _ _ _ ⟨mk 165 [(0, .d ((eL 3 eApiValue) p0)), (1, .d ((eL 3 eApiValue) p1)), (2, .d ((eL 1 eB) p2)), (7, .slc 0 1 0 y688.length none)], [.row 1 (List.map eI y688) true]⟩ _
        refine SC.seq ?_
        refine SC.region ?_
        refine SO.op (Wanted.free rfl) rfl (A_move (v := .d ((eL 3 eApiValue) p0)) rfl rfl) ?_
        refine SO.op (Wanted.free rfl) rfl (A_move (v := .d ((eL 1 eB) p2)) rfl rfl) ?_
        obtain ⟨⟨r904, r905⟩, hq906, h0⟩ := ob h0
        refine SO.call0 (r := .tuple [.d (eS r904), .d (eI r905)]) (Wanted.free rfl) rfl rfl rfl rfl rfl cb10 rfl (fun _ => rfl) (fun _ => rfl) (key_Encode_ok p0 p2 _ hq906) ?_
        refine SO.op (Wanted.free rfl) rfl (A_move (v := .tuple [.d (eS r904), .d (eI r905)]) rfl rfl) ?_
        refine SO.op (Wanted.free rfl) rfl (A_extract (v := .d (eS r904)) rfl rfl rfl) ?_
        refine SO.op (Wanted.free rfl) rfl (A_extract (v := .d (eI r905)) rfl rfl rfl) ?_
        refine SO.op (Wanted.free rfl) rfl (A_assign (v := .d (eS r904)) rfl rfl) ?_
        refine SO.op (Wanted.free rfl) rfl (A_assign (v := .d (eI r905)) rfl rfl) ?_
        refine SO.nil ?_
        change SC _ _ _ _ _
        refine SC.seq ?_
        refine SC.region ?_
        refine SO.op (Wanted.free rfl) rfl (A_move (v := .d ((eL 3 eApiValue) p1)) rfl rfl) ?_
        refine SO.op (Wanted.free rfl) rfl (A_move (v := .d ((eL 1 eB) p2)) rfl rfl) ?_
        obtain ⟨⟨r907, r908⟩, hq909, h0⟩ := ob h0
        refine SO.call0 (r := .tuple [.d (eS r907), .d (eI r908)]) (Wanted.free rfl) rfl rfl rfl rfl rfl cb10 rfl (fun _ => rfl) (fun _ => rfl) (key_Encode_ok p1 p2 _ hq909) ?_
        refine SO.op (Wanted.free rfl) rfl (A_move (v := .tuple [.d (eS r907), .d (eI r908)]) rfl rfl) ?_
        refine SO.op (Wanted.free rfl) rfl (A_extract (v := .d (eS r907)) rfl rfl rfl) ?_
        refine SO.op (Wanted.free rfl) rfl (A_extract (v := .d (eI r908)) rfl rfl rfl) ?_
        refine SO.op (Wanted.free rfl) rfl (A_assign (v := .d (eS r907)) rfl rfl) ?_
        refine SO.op (Wanted.free rfl) rfl (A_assign (v := .d (eI r908)) rfl rfl) ?_
        refine SO.nil ?_
        change SC _ _ _ _ _
        refine SC.seq ?_
        refine SC.seqP h0 (fun y => ⟨mk 165 [(2, .d ((eL 1 eB) p2)), (7, .slc 0 1 0 y688.length none), (9, .d (eS r904)), (11, .d (eS r907)), (125, .d (eB y))], [.row 1 (List.map eI y688) true]⟩) ?_ ?_
        · intro u1_912 h1
          refine SC.region ?_
          refine SO.op (Wanted.free rfl) rfl (A_move (v := .d (eI r905)) rfl rfl) ?_
          refine SO.op (Wanted.free rfl) rfl (A_bin (v := .d (eB (r905 != (0 : Int)))) rfl rfl rfl (fun X Y => b_i64_neq _ X Y r905 (0 : Int))) ?_
          refine SO.op (Wanted.free rfl) rfl (A_move (v := .d (eB (r905 != (0 : Int)))) rfl rfl) ?_
          refine SO.split (fun hb913 => ?_) (fun hb913 => ?_)
          · replace h1 := ct hb913 h1
            refine SO.skip (Wanted.by rfl rfl rfl rfl) rfl ?_
            refine SO.skip (Wanted.by rfl rfl rfl rfl) rfl ?_
            refine SO.op (Wanted.free rfl) rfl (A_pickT (v := .d (eB true)) rfl rfl rfl) ?_
            refine SO.nil ?_
            have q := Option.some.inj h1; subst q
            exact (Wk.env (e' := [(2, .d ((eL 1 eB) p2)), (7, .slc 0 1 0 y688.length none), (9, .d (eS r904)), (11, .d (eS r907)), (125, .d (eB true))]) (EW.cons (AW.refl _) (EW.cons (AW.refl _) (EW.cons (AW.refl _) (EW.cons (AW.refl _) (EW.cons (AW.refl _) EW.nil))))))
          · replace h1 := cf hb913 h1
            refine SO.op (Wanted.by rfl rfl rfl rfl) rfl (A_move (v := .d (eI r908)) rfl rfl) ?_
            refine SO.op (Wanted.by rfl rfl rfl rfl) rfl (A_bin (v := .d (eB (r908 != (0 : Int)))) rfl rfl rfl (fun X Y => b_i64_neq _ X Y r908 (0 : Int))) ?_
            refine SO.op (Wanted.free rfl) rfl (A_pickF (v := .d (eB (r908 != (0 : Int)))) rfl rfl rfl) ?_
            refine SO.nil ?_
            have q := Option.some.inj h1; subst q
            exact (Wk.env (e' := [(2, .d ((eL 1 eB) p2)), (7, .slc 0 1 0 y688.length none), (9, .d (eS r904)), (11, .d (eS r907)), (125, .d (eB (r908 != (0 : Int))))]) (EW.cons (AW.refl _) (EW.cons (AW.refl _) (EW.cons (AW.refl _) (EW.cons (AW.refl _) (EW.cons (AW.refl _) EW.nil))))))
        · rintro y911 h0
          change SC _ _ _ ⟨mk 165 [(2, .d ((eL 1 eB) p2)), (7, .slc 0 1 0 y688.length none), (9, .d (eS r904)), (11, .d (eS r907)), (125, .d (eB y911))], [.row 1 (List.map eI y688) true]⟩ _
          refine SC.condB (t := y911) rfl (fun hb914 => ?_) (fun hb914 => ?_)
          · replace h0 := ct hb914 h0
            refine SC.seq ?_
            refine SC.region ?_
            refine SO.op (Wanted.free rfl) rfl (A_assign (v := .d (eB true)) rfl rfl) ?_
            refine SO.nil ?_
            change SC _ _ _ _ _
            refine SC.ret ?_
            have q := Option.some.inj h0; subst q
            exact finR (Wk.trans (Wk.env (e' := [(6, .d (eB true))]) (EW.cons (AW.refl _) EW.nil)) (Wk.canon (ι := []) (roots := []) (os := []) (e' := [(6, .d (eB true))]) rfl rfl rfl)) (lresT rfl lresN) rfl
          · replace h0 := cf hb914 h0
            refine SC.skip ?_
            change SC _ _ _ _ _
            refine SC.seq ?_
            refine SC.seqP h0 (fun y => ⟨mk 165 [(2, .d ((eL 1 eB) p2)), (7, .slc 0 1 0 y688.length none), (9, .d (eS r904)), (138, .d (eB y))], [.row 1 (List.map eI y688) true]⟩) ?_ ?_
            · intro u1_918 h1
              refine SC.region ?_
              refine SO.op (Wanted.free rfl) rfl (A_move (v := .d (eS r904)) rfl rfl) ?_
              refine SO.op (Wanted.free rfl) rfl (A_len (v := .d (eI (r904.length : Int))) rfl rfl rfl rfl (len_str un9)) ?_
              refine SO.op (Wanted.free rfl) rfl (A_move (v := .d (eS r907)) rfl rfl) ?_
              refine SO.op (Wanted.free rfl) rfl (A_len (v := .d (eI (r907.length : Int))) rfl rfl rfl rfl (len_str un9)) ?_
              refine SO.op (Wanted.free rfl) rfl (A_bin (v := .d (eB (decide ((r904.length : Int) < (r907.length : Int))))) rfl rfl rfl (fun X Y => b_i64_lss _ X Y (r904.length : Int) (r907.length : Int))) ?_
              refine SO.op (Wanted.free rfl) rfl (A_move (v := .d (eB (decide ((r904.length : Int) < (r907.length : Int))))) rfl rfl) ?_
              refine SO.split (fun hb919 => ?_) (fun hb919 => ?_)
              · replace h1 := ct hb919 h1
                refine SO.op (Wanted.by rfl rfl rfl rfl) rfl (A_move (v := .d (eS r907)) rfl rfl) ?_
                refine SO.op (Wanted.by rfl rfl rfl rfl) rfl (A_move (v := .d (eS r904)) rfl rfl) ?_
                refine SO.op (Wanted.by rfl rfl rfl rfl) rfl (A_len (v := .d (eI (r904.length : Int))) rfl rfl rfl rfl (len_str un9)) ?_
                obtain ⟨hg920, h1⟩ := gd h1
                refine SO.op (Wanted.by rfl rfl rfl rfl) rfl (A_slice (v := .d (eS (List.take (r904.length : Int).toNat r907))) rfl rfl rfl rfl rfl (sl_str_hi un9 hg920)) ?_
                refine SO.op (Wanted.by rfl rfl rfl rfl) rfl (A_move (v := .d (eS r904)) rfl rfl) ?_
                refine SO.op (Wanted.by rfl rfl rfl rfl) rfl (A_bin (v := .d (eB ((List.take (r904.length : Int).toNat r907) == r904))) rfl rfl rfl (fun X Y => b_str_eql _ X Y (List.take (r904.length : Int).toNat r907) r904)) ?_
                refine SO.op (Wanted.free rfl) rfl (A_pickT (v := .d (eB ((List.take (r904.length : Int).toNat r907) == r904))) rfl rfl rfl) ?_
                refine SO.nil ?_
                have q := Option.some.inj h1; subst q
                exact (Wk.env (e' := [(2, .d ((eL 1 eB) p2)), (7, .slc 0 1 0 y688.length none), (9, .d (eS r904)), (138, .d (eB ((List.take (r904.length : Int).toNat r907) == r904)))]) (EW.cons (AW.refl _) (EW.cons (AW.refl _) (EW.cons (AW.refl _) (EW.cons (AW.refl _) EW.nil)))))
              · replace h1 := cf hb919 h1
                refine SO.skip (Wanted.by rfl rfl rfl rfl) rfl ?_
                refine SO.skip (Wanted.by rfl rfl rfl rfl) rfl ?_
                refine SO.skip (Wanted.by rfl rfl rfl rfl) rfl ?_
                refine SO.skip (Wanted.by rfl rfl rfl rfl) rfl ?_
                refine SO.skip (Wanted.by rfl rfl rfl rfl) rfl ?_
                refine SO.skip (Wanted.by rfl rfl rfl rfl) rfl ?_
                refine SO.op (Wanted.free rfl) rfl (A_pickF (v := .d (eB false)) rfl rfl rfl) ?_
                refine SO.nil ?_
                have q := Option.some.inj h1; subst q
                exact (Wk.env (e' := [(2, .d ((eL 1 eB) p2)), (7, .slc 0 1 0 y688.length none), (9, .d (eS r904)), (138, .d (eB false))]) (EW.cons (AW.refl _) (EW.cons (AW.refl _) (EW.cons (AW.refl _) (EW.cons (AW.refl _) EW.nil)))))
            · rintro y917 h0
              change SC _ _ _ ⟨mk 165 [(2, .d ((eL 1 eB) p2)), (7, .slc 0 1 0 y688.length none), (9, .d (eS r904)), (138, .d (eB y917))], [.row 1 (List.map eI y688) true]⟩ _
              refine SC.condB (t := y917) rfl (fun hb921 => ?_) (fun hb921 => ?_)
              · replace h0 := ct hb921 h0
                refine SC.seq ?_
                refine SC.region ?_
                refine SO.op (Wanted.free rfl) rfl (A_assign (v := .d (eB false)) rfl rfl) ?_
                refine SO.nil ?_
                change SC _ _ _ _ _
                refine SC.ret ?_
                have q := Option.some.inj h0; subst q
                exact finR (Wk.trans (Wk.env (e' := [(6, .d (eB false))]) (EW.cons (AW.refl _) EW.nil)) (Wk.canon (ι := []) (roots := []) (os := []) (e' := [(6, .d (eB false))]) rfl rfl rfl)) (lresT rfl lresN) rfl
              · replace h0 := cf hb921 h0
                refine SC.skip ?_
                change SC _ _ _ _ _
                refine SC.seq ?_
                refine SC.region ?_
                refine SO.op (Wanted.free rfl) rfl (A_move (v := .slc 0 1 0 y688.length none) rfl rfl) ?_
                refine SO.op (Wanted.free rfl) rfl (A_move (v := .d ((eL 1 eB) p2)) rfl rfl) ?_
                refine SO.op (Wanted.free rfl) rfl (A_move (v := .d (eS r904)) rfl rfl) ?_
                obtain ⟨hg922, h0⟩ := gd h0
                refine SO.op (Wanted.free rfl) rfl (A_bin (v := .d (eS (r904 ++ ([0] : List UInt8)))) rfl rfl rfl (fun X Y => b_str_add _ X Y r904 ([0] : List UInt8) hg922)) ?_
                obtain ⟨⟨r923, r924⟩, hq925, h0⟩ := ob h0
                refine SO.call (ι := [0]) (σc := [.row 1 (List.map eI y688) true]) (args' := [.slc 0 1 0 y688.length none, .d ((eL 1 eB) p2), .d (eS (r904 ++ ([0] : List UInt8)))]) (r' := .tuple [.d ((eL 3 eApiValue) r923), .d (eI r924)]) (σ2 := [.row 1 (List.map eI y688) true]) (os := [.row 1 (List.map eI y688) true]) (r := .tuple [.d ((eL 3 eApiValue) r923), .d (eI r924)]) (σ' := [.row 1 (List.map eI y688) true]) (Wanted.free rfl) rfl rfl rfl rfl rfl cb12 rfl rfl (key_Decode_ok1 y688 p2 (r904 ++ ([0] : List UInt8)) _ hq925) rfl rfl (Nat.le_of_ble_eq_true rfl) rfl ?_
                refine SO.op (Wanted.free rfl) rfl (A_move (v := .tuple [.d ((eL 3 eApiValue) r923), .d (eI r924)]) rfl rfl) ?_
                refine SO.op (Wanted.free rfl) rfl (A_extract (v := .d ((eL 3 eApiValue) r923)) rfl rfl rfl) ?_
                refine SO.op (Wanted.free rfl) rfl (A_extract (v := .d (eI r924)) rfl rfl rfl) ?_
                refine SO.op (Wanted.free rfl) rfl (A_assign (v := .d ((eL 3 eApiValue) r923)) rfl rfl) ?_
                refine SO.op (Wanted.free rfl) rfl (A_assign (v := .d (eI r924)) rfl rfl) ?_
                refine SO.nil ?_
                change SC _ _ _ _ _
                refine SC.seq ?_
                refine SC.seq ?_
                refine SC.region ?_
                refine SO.op (Wanted.free rfl) rfl (A_move (v := .d (eI r924)) rfl rfl) ?_
                refine SO.op (Wanted.free rfl) rfl (A_bin (v := .d (eB (r924 != (2 : Int)))) rfl rfl rfl (fun X Y => b_i64_neq _ X Y r924 (2 : Int))) ?_
                refine SO.nil ?_
                change SC _ _ _ _ _
                refine SC.condB (t := (r924 != (2 : Int))) rfl (fun hb926 => ?_) (fun hb926 => ?_)
                · replace h0 := ct hb926 h0
                  refine SC.seq ?_
                  refine SC.region ?_
                  refine SO.op (Wanted.free rfl) rfl (A_assign (v := .d (eB false)) rfl rfl) ?_
                  refine SO.nil ?_
                  change SC _ _ _ _ _
                  refine SC.ret ?_
                  have q := Option.some.inj h0; subst q
                  exact finR (Wk.trans (Wk.env (e' := [(6, .d (eB false))]) (EW.cons (AW.refl _) EW.nil)) (Wk.canon (ι := []) (roots := []) (os := []) (e' := [(6, .d (eB false))]) rfl rfl rfl)) (lresT rfl lresN) rfl
                · replace h0 := cf hb926 h0
                  refine SC.skip ?_
                  change SC _ _ _ _ _
                  refine SC.seq ?_
                  refine SC.seq ?_
                  refine SC.region ?_
                  refine SO.op (Wanted.free rfl) rfl (A_move (v := .d (eS r904)) rfl rfl) ?_
                  refine SO.op (Wanted.free rfl) rfl (A_len (v := .d (eI (r904.length : Int))) rfl rfl rfl rfl (len_str un9)) ?_
                  refine SO.op (Wanted.free rfl) rfl (A_bin (v := .d (eB ((r904.length : Int) == (0 : Int)))) rfl rfl rfl (fun X Y => b_i64_eql _ X Y (r904.length : Int) (0 : Int))) ?_
                  refine SO.nil ?_
                  change SC _ _ _ _ _
                  refine SC.condB (t := ((r904.length : Int) == (0 : Int))) rfl (fun hb927 => ?_) (fun hb927 => ?_)
                  · replace h0 := ct hb927 h0
                    refine SC.seq ?_
                    refine SC.region ?_
                    refine SO.op (Wanted.free rfl) rfl (A_assign (v := .d (eB true)) rfl rfl) ?_
                    refine SO.nil ?_
                    change SC _ _ _ _ _
                    refine SC.ret ?_
                    have q := Option.some.inj h0; subst q
                    exact finR (Wk.trans (Wk.env (e' := [(6, .d (eB true))]) (EW.cons (AW.refl _) EW.nil)) (Wk.canon (ι := []) (roots := []) (os := []) (e' := [(6, .d (eB true))]) rfl rfl rfl)) (lresT rfl lresN) rfl
                  · replace h0 := cf hb927 h0
                    refine SC.skip ?_
                    change SC _ _ _ _ _
                    refine SC.seq ?_
                    refine SC.region ?_
                    refine SO.op (Wanted.free rfl) rfl (A_move (v := .slc 0 1 0 y688.length none) rfl rfl) ?_
                    refine SO.op (Wanted.free rfl) rfl (A_move (v := .d ((eL 1 eB) p2)) rfl rfl) ?_
                    refine SO.op (Wanted.free rfl) rfl (A_move (v := .d (eS r904)) rfl rfl) ?_
                    refine SO.op (Wanted.free rfl) rfl (A_move (v := .d (eS r904)) rfl rfl) ?_
                    refine SO.op (Wanted.free rfl) rfl (A_len (v := .d (eI (r904.length : Int))) rfl rfl rfl rfl (len_str un9)) ?_
                    refine SO.op (Wanted.free rfl) rfl (A_bin (v := .d (eI (w64 ((r904.length : Int) - (1 : Int))))) rfl rfl rfl (fun X Y => b_i64_sub _ X Y (r904.length : Int) (1 : Int))) ?_
                    obtain ⟨hg928, h0⟩ := gd h0
                    refine SO.op (Wanted.free rfl) rfl (A_slice (v := .d (eS (List.take (w64 ((r904.length : Int) - (1 : Int))).toNat r904))) rfl rfl rfl rfl rfl (sl_str_hi un9 hg928)) ?_
                    obtain ⟨⟨r929, r930⟩, hq931, h0⟩ := ob h0
                    refine SO.call (ι := [0]) (σc := [.row 1 (List.map eI y688) true]) (args' := [.slc 0 1 0 y688.length none, .d ((eL 1 eB) p2), .d (eS (List.take (w64 ((r904.length : Int) - (1 : Int))).toNat r904))]) (r' := .tuple [.d ((eL 3 eApiValue) r929), .d (eI r930)]) (σ2 := [.row 1 (List.map eI y688) true]) (os := [.row 1 (List.map eI y688) true]) (r := .tuple [.d ((eL 3 eApiValue) r929), .d (eI r930)]) (σ' := [.row 1 (List.map eI y688) true]) (Wanted.free rfl) rfl rfl rfl rfl rfl cb12 rfl rfl (key_Decode_ok1 y688 p2 (List.take (w64 ((r904.length : Int) - (1 : Int))).toNat r904) _ hq931) rfl rfl (Nat.le_of_ble_eq_true rfl) rfl ?_
                    refine SO.op (Wanted.free rfl) rfl (A_move (v := .tuple [.d ((eL 3 eApiValue) r929), .d (eI r930)]) rfl rfl) ?_
                    refine SO.op (Wanted.free rfl) rfl (A_extract (v := .d ((eL 3 eApiValue) r929)) rfl rfl rfl) ?_
                    refine SO.op (Wanted.free rfl) rfl (A_extract (v := .d (eI r930)) rfl rfl rfl) ?_
                    refine SO.op (Wanted.free rfl) rfl (A_assign (v := .d ((eL 3 eApiValue) r929)) rfl rfl) ?_
                    refine SO.op (Wanted.free rfl) rfl (A_assign (v := .d (eI r930)) rfl rfl) ?_
                    refine SO.nil ?_
                    change SC _ _ _ _ _
                    refine SC.seq ?_
                    refine SC.region ?_
                    refine SO.op (Wanted.free rfl) rfl (A_move (v := .d (eI r930)) rfl rfl) ?_
                    refine SO.op (Wanted.free rfl) rfl (A_bin (v := .d (eB (r930 == (2 : Int)))) rfl rfl rfl (fun X Y => b_i64_eql _ X Y r930 (2 : Int))) ?_
                    refine SO.op (Wanted.free rfl) rfl (A_assign (v := .d (eB (r930 == (2 : Int)))) rfl rfl) ?_
                    refine SO.nil ?_
                    change SC _ _ _ _ _
                    refine SC.ret ?_
                    have q := Option.some.inj h0; subst q
                    exact finR (Wk.trans (Wk.env (e' := [(6, .d (eB (r930 == (2 : Int))))]) (EW.cons (AW.refl _) EW.nil)) (Wk.canon (ι := []) (roots := []) (os := []) (e' := [(6, .d (eB (r930 == (2 : Int))))]) rfl rfl rfl)) (lresT rfl lresN) rfl
end Lv
