/- Part of the proof of a law: functions and their walks. -/
import Derived.Test.YtihhhgaaagefgaaDoorXPrims
namespace Lv
open Go Go.Proofs
set_option linter.unusedVariables false
set_option linter.unusedSimpArgs false
set_option linter.unusedSectionVars false
set_option maxRecDepth 100000
variable [BaseTab] [TabOk]
noncomputable def value_unhex (p0 : List UInt8) : Option ((List UInt8) × Bool) :=
 bif ((Int.tmod (p0.length : Int) (2 : Int)) != (0 : Int)) then
 some (([] : List UInt8), false)
 else
 bindE (Y := (List UInt8)) (E := (List UInt8) × Bool)
 (Option.bind (α := ((List UInt8)) ⊕ ((List UInt8) × Bool))
 (loop (Y := (List UInt8) × Int) (W := ((List UInt8)) ⊕ ((List UInt8) × Bool)) (fun (y188, y189) =>
 bif (decide (y189 < (p0.length : Int))) then
 Option.bind (getI p0 y189) fun v203 =>
 Option.bind (idxF ([48, 49, 50, 51, 52, 53, 54, 55, 56, 57, 97, 98, 99, 100, 101, 102] : List UInt8) v203) fun r205 =>
 Option.bind (getI p0 (w64 (y189 + (1 : Int)))) fun v206 =>
 Option.bind (idxF ([48, 49, 50, 51, 52, 53, 54, 55, 56, 57, 97, 98, 99, 100, 101, 102] : List UInt8) v206) fun r208 =>
 Option.bind (α := Bool)
 (bif (decide (r205 < (0 : Int))) then
 some true
 else
 some (decide (r208 < (0 : Int))))
 fun y209 =>
 bif y209 then
 some (Sum.inr (Sum.inr (([] : List UInt8), false)))
 else
 bif decide ((y188.length + [(u8i (orI (w64 (r205 * 2 ^ min ((4 : UInt64).toNat : Int).toNat 64)) r208))].length) * 1 ≤ room) then
 some (Sum.inl ((y188 ++ [(u8i (orI (w64 (r205 * 2 ^ min ((4 : UInt64).toNat : Int).toNat 64)) r208))]), (w64 (y189 + (2 : Int)))))
 else none
 else
 some (Sum.inr (Sum.inl y188))) (([] : List UInt8), (0 : Int)))
 (Sum.elim (fun e => some (Sum.inl e)) (fun e => some (Sum.inr e))))
 (fun y177 =>
 some (y177, true))
 (fun e => some e)
theorem value_unhex_ok (p0 : List UInt8) (r : (List UInt8) × Bool) (h0 : value_unhex p0 = some r) : CallAt Tryd.prog 46 [.d (eS p0)] [] (.tuple [.d (eS r.1), .d (eB r.2)]) [] := by
 unfold value_unhex at h0
 refine fn0 [0] Tryd.func46 rfl rfl rfl rfl rfl ?_
 refine sr (s1 (asg (v := .d (eS ([] : List UInt8))) rfl) (sa rfl (sn (sq (sr (sm rfl (s1 (len rfl rfl rfl (len_str un9)) (s1 (bi (v := .d (eI (Int.tmod (p0.length : Int) (2 : Int)))) rfl rfl (fun X Y => b_i64_rem _ X Y (p0.length : Int) (2 : Int) (by decide))) (s1 (bi rfl rfl q_i64_neq) ?_)))))))))
 refine sn (cB h0 rfl (fun h0 => ?_) (fun h0 => ?_))
 ·have q := si h0; subst q
  exact sr (s1 (asg (v := .d (eS ([] : List UInt8))) rfl) (sa rfl (sn (SC.ret (finR (Wk.refl _) (lresT rfl (lresT rfl lresN)) rfl)))))
 ·refine sk (sr (s1 (asg (v := .d .nils) rfl) (sn (SC.seqB h0 (fun y => ⟨mk 43 [(4, .slc 0 1 0 y.length none)], [.row 1 (List.map eU8 y) true]⟩) ?_ ?_))))
  ·intro u1_178 h1 h0
   obtain ⟨u2_202, h2, h1⟩ := ob h1
   refine sr (sa rfl (sn (SC.blk (SC.loopB h2 (fun y => ⟨mk 43 [(0, .d (eS p0)), (4, .slc 0 1 0 y.1.length none), (5, .d (eI y.2))], [.row 1 (List.map eU8 y.1) true]⟩) (Wk.trans (Wk.pushE (σ' := [.row 1 (List.map eU8 ([] : List UInt8)) true]) (.row 1 [] true) (fun _ hh => by cases hh) rfl) (Wk.trans (Wk.env (e' := [(0, .d (eS p0)), (4, .slc 0 1 0 (([] : List UInt8).length) none), (5, .d (eI (0 : Int)))]) (EW.cons (AW.refl _) (EW.cons (AW.slcn _ _ _) (EW.cons (AW.refl _) EW.nil)))) (wq rfl))) ?_))))
   intro n212
   rintro ⟨y188, y189⟩ w2_201 h3 hv3
   refine sq (sr (sm rfl (sm rfl (s1 (len rfl rfl rfl (len_str un9)) (s1 (bi rfl rfl q_i64_lss) (sn (cB h3 rfl (fun h3 => ?_) (fun h3 => ?_))))))))
   ·obtain ⟨v203, hv203, h3⟩ := ob h3; obtain ⟨r205, hq204, h3⟩ := ob h3; obtain ⟨v206, hv206, h3⟩ := ob h3; obtain ⟨r208, hq207, h3⟩ := ob h3
    refine sk (sq (SC.blk (sd (by kernel_rfl) (t1 ([], false) (mv rfl) rfl (t1 ([], false) (mv rfl) rfl (t1 ([], false) (ixs rfl rfl rfl rfl (ix_str un9 (getI_some hv203).1 (getI_some hv203).2)) rfl (tc0 (idx_ok ([48, 49, 50, 51, 52, 53, 54, 55, 56, 57, 97, 98, 99, 100, 101, 102] : List UInt8) v203 _ hq204) wf rfl rfl rfl cb64 rfl (fun _ => rfl) (fun _ => rfl) (t1 ([], false) (mv rfl) rfl (t1 ([], false) (mv rfl) rfl ?_)))))))))
    refine t1 ([], false) (bi rfl rfl q_i64_add) rfl (t1 ([], false) (ixs rfl rfl rfl rfl (ix_str un9 (getI_some hv206).1 (getI_some hv206).2)) rfl (tc0 (idx_ok ([48, 49, 50, 51, 52, 53, 54, 55, 56, 57, 97, 98, 99, 100, 101, 102] : List UInt8) v206 _ hq207) wf rfl rfl rfl cb64 rfl (fun _ => rfl) (fun _ => rfl) (t1 ([], false) (asg rfl) rfl (t1 ([], false) (asg rfl) rfl (tn (by decide +kernel) (sq (SC.seqP h3 (fun y => ⟨mk 43 [(0, .d (eS p0)), (4, .slc 0 1 0 y188.length none), (5, .d (eI y189)), (6, .d (eI r205)), (7, .d (eI r208)), (32, .d (eB y))], [.row 1 (List.map eU8 y188) true]⟩) ?_ ?_)))))))
    ·intro u4_210 h4
     refine SC.region (sm rfl (s1 (bi rfl rfl q_i64_lss) (sm rfl (sp h4 (fun h4 => ?_) (fun h4 => ?_)))))
     ·have q := si h4; subst q
      exact kw rfl (kw rfl (s1 (pkt rfl rfl) (SO.nil ((wq rfl)))))
     ·have q := si h4; subst q
      exact gw rfl (mv rfl) (gw rfl (bi rfl rfl q_i64_lss) (s1 (pkf rfl rfl) (SO.nil ((wq rfl)))))
    ·rintro y209 h3
     refine cB h3 rfl (fun h3 => ?_) (fun h3 => ?_)
     ·have q := si h3; subst q; have q : _ = _ := hv3; subst q; have q := si h1; subst q; have q := si h0; subst q
      exact sr (s1 (asg (v := .d (eS ([] : List UInt8))) rfl) (sa rfl (sn (SC.ret (finR (wc (e' := [(2, .d (eS ([] : List UInt8))), (3, .d (eB false))]) [] [] (by kernel_rfl) rfl (by kernel_rfl)) (lresT rfl (lresT rfl lresN)) rfl)))))
     ·obtain ⟨hg211, h3⟩ := gd h3
      refine sk (SC.region (sm rfl (sm rfl (s1 (bi (v := .d (eI (w64 (r205 * 2 ^ min ((4 : UInt64).toNat : Int).toNat 64)))) rfl rfl (fun X Y => b_i64_shl _ X Y r205 _ (by decide))) (sm rfl (s1 (bi rfl rfl q_i64_or) (s1 (cvo rfl (cv_i64_u8 un3 un5 (orI (w64 (r205 * 2 ^ min ((4 : UInt64).toNat : Int).toNat 64)) r208))) (s1 (bsn (k := 1) (ds := List.map eU8 [(u8i (orI (w64 (r205 * 2 ^ min ((4 : UInt64).toNat : Int).toNat 64)) r208))]) (off := 0) (l' := [(u8i (orI (w64 (r205 * 2 ^ min ((4 : UInt64).toNat : Int).toNat 64)) r208))].length) rfl un50 ei5 rfl rfl (by rfl) rfl rfl rfl) (s1 (app rfl rfl rfl rfl bc50 (aF (f := eU8) (xs := y188) (k := 2) rfl un50 ei5 rfl (el_full (xs := [(u8i (orI (w64 (r205 * 2 ^ min ((4 : UInt64).toNat : Int).toNat 64)) r208))]) rfl) hg211 rfl)) ?_)))))))))
      refine sa rfl (SO.nil ?_)
      change SC _ _ _ _ _
      have q := si h3; subst q
      exact SC.region (sm rfl (s1 (bi rfl rfl q_i64_add) (sa rfl (SO.nil (lf (wc [2] [2] (by kernel_rfl) rfl (by kernel_rfl)))))))
   ·have q := si h3; subst q; have q : _ = _ := hv3; subst q; have q := si h1; subst q
    exact SC.exit (lf (wq rfl))
  ·rintro y177 h0
   have q := si h0; subst q
   exact sr (sm rfl (s1 (cvo (v := .d (eS y177)) rfl (cv_bytes_str un50 un9 un5 (el_full (xs := y177) rfl) (fun _ hh => by cases hh))) (sa rfl (sa rfl (sn (SC.ret (finR (wc (e' := [(2, .d (eS y177)), (3, .d (eB true))]) [] [] (by kernel_rfl) rfl (by kernel_rfl)) (lresT rfl (lresT rfl lresN)) rfl)))))))
noncomputable def value_unquote (p0 : List UInt8) : Option ((List UInt8) × Bool) :=
 bindE (Y := (List UInt8)) (E := (List UInt8) × Bool)
 (Option.bind (α := ((List UInt8)) ⊕ ((List UInt8) × Bool))
 (loop (Y := (List UInt8) × Int) (W := ((List UInt8)) ⊕ ((List UInt8) × Bool)) (fun (y348, y349) =>
 bif (decide (y349 < (w64 ((p0.length : Int) - (1 : Int))))) then
 bindE (Y := (List UInt8) × Int) (E := (List UInt8) × Bool)
 (Option.bind (getI p0 y349) fun v384 =>
 bif (v384 != (92 : UInt8)) then
 Option.bind (getI p0 y349) fun v385 =>
 bif decide ((y348.length + [v385].length) * 1 ≤ room) then
 some (Sum.inl ((y348 ++ [v385]), y349))
 else none
 else
 bif (decide ((w64 (y349 + (3 : Int))) > (w64 ((p0.length : Int) - (1 : Int))))) then
 some (Sum.inr (([] : List UInt8), false))
 else
 bif decide (0 ≤ (w64 (y349 + (1 : Int))) ∧ (w64 (y349 + (1 : Int))) ≤ (w64 (y349 + (3 : Int))) ∧ (w64 (y349 + (3 : Int))) ≤ (p0.length : Int)) then
 Option.bind (value_unhex (subL p0 (w64 (y349 + (1 : Int))) (w64 (y349 + (3 : Int))))) fun (r389, r390) =>
 bif (!r390) then
 some (Sum.inr (([] : List UInt8), false))
 else
 bif decide ((y348.length + r389.length) * 1 ≤ room) then
 some (Sum.inl ((y348 ++ r389), (w64 (y349 + (2 : Int)))))
 else none
 else none)
 (fun (y381, y382) =>
 some (Sum.inl (y381, (w64 (y382 + (1 : Int))))))
 (fun e => some (Sum.inr (Sum.inr e)))
 else
 some (Sum.inr (Sum.inl y348))) (([] : List UInt8), (1 : Int)))
 (Sum.elim (fun e => some (Sum.inl e)) (fun e => some (Sum.inr e))))
 (fun y327 =>
 some (y327, true))
 (fun e => some e)
theorem value_unquote_ok (p0 : List UInt8) (r : (List UInt8) × Bool) (h0 : value_unquote p0 = some r) : CallAt Tryd.prog 47 [.d (eS p0)] [] (.tuple [.d (eS r.1), .d (eB r.2)]) [] := by
 unfold value_unquote at h0
 refine fn0 [0] Tryd.func47 rfl rfl rfl rfl rfl ?_
 refine sr (s1 (asg (v := .d (eS ([] : List UInt8))) rfl) (sa rfl (sn (sr (s1 (asg (v := .d .nils) rfl) (sn (SC.seqB h0 (fun y => ⟨mk 50 [(4, .slc 0 1 0 y.length none)], [.row 1 (List.map eU8 y) true]⟩) ?_ ?_)))))))
 ·intro u1_328 h1 h0
  obtain ⟨u2_372, h2, h1⟩ := ob h1
  refine sr (sa rfl (sn (SC.blk (SC.loopB h2 (fun y => ⟨mk 50 [(0, .d (eS p0)), (4, .slc 0 1 0 y.1.length none), (5, .d (eI y.2))], [.row 1 (List.map eU8 y.1) true]⟩) (Wk.trans (Wk.pushE (σ' := [.row 1 (List.map eU8 ([] : List UInt8)) true]) (.row 1 [] true) (fun _ hh => by cases hh) rfl) (Wk.trans (Wk.env (e' := [(0, .d (eS p0)), (4, .slc 0 1 0 (([] : List UInt8).length) none), (5, .d (eI (1 : Int)))]) (EW.cons (AW.refl _) (EW.cons (AW.slcn _ _ _) (EW.cons (AW.refl _) EW.nil)))) (wq rfl))) ?_))))
  intro n392
  rintro ⟨y348, y349⟩ w2_371 h3 hv3
  refine sq (sr (sm rfl (sm rfl (s1 (len rfl rfl rfl (len_str un9)) (s1 (bi rfl rfl q_i64_sub) (s1 (bi rfl rfl q_i64_lss) (sn (cB h3 rfl (fun h3 => ?_) (fun h3 => ?_)))))))))
  ·refine sk (SC.seqB h3 (fun y => ⟨mk 50 [(0, .d (eS p0)), (4, .slc 0 1 0 y.1.length none), (5, .d (eI y.2))], [.row 1 (List.map eU8 y.1) true]⟩) ?_ ?_)
   ·intro u4_383 h4 h3
    obtain ⟨v384, hv384, h4⟩ := ob h4
    refine SC.blk (sq (sr (sm rfl (sm rfl (s1 (ixs rfl rfl rfl rfl (ix_str un9 (getI_some hv384).1 (getI_some hv384).2)) (s1 (bi rfl rfl (q_u8_neq (b := (92 : UInt8)))) (sn (cB h4 rfl (fun h4 => ?_) (fun h4 => ?_)))))))))
    ·obtain ⟨v385, hv385, h4⟩ := ob h4; obtain ⟨hg386, h4⟩ := gd h4; have q := si h4; subst q
     refine sr (sm rfl (sm rfl (sm rfl (s1 (ixs rfl rfl rfl rfl (ix_str un9 (getI_some hv385).1 (getI_some hv385).2)) (s1 (bsn (k := 1) (ds := List.map eU8 [v385]) (off := 0) (l' := [v385].length) rfl un50 ei5 rfl rfl (by rfl) rfl rfl rfl) (s1 (app rfl rfl rfl rfl bc50 (aF (f := eU8) (xs := y348) (k := 2) rfl un50 ei5 rfl (el_full (xs := [v385]) rfl) hg386 rfl)) (sa rfl (sn (SC.exit ?_)))))))))
     exact lf (wc [2] [2] (by kernel_rfl) rfl (by kernel_rfl))
    ·refine sk (sq (sr (sm rfl (s1 (bi rfl rfl q_i64_add) (sm rfl (s1 (len rfl rfl rfl (len_str un9)) (s1 (bi rfl rfl q_i64_sub) (s1 (bi rfl rfl q_i64_gtr) (sn ?_)))))))))
     refine cB h4 rfl (fun h4 => ?_) (fun h4 => ?_)
     ·have q := si h4; subst q; have q := si h3; subst q; have q : _ = _ := hv3; subst q; have q := si h1; subst q; have q := si h0; subst q
      exact sr (s1 (asg (v := .d (eS ([] : List UInt8))) rfl) (sa rfl (sn (SC.ret (finR (wc (e' := [(2, .d (eS ([] : List UInt8))), (3, .d (eB false))]) [] [] (by kernel_rfl) rfl (by kernel_rfl)) (lresT rfl (lresT rfl lresN)) rfl)))))
     ·obtain ⟨hg387, h4⟩ := gd h4; obtain ⟨⟨r389, r390⟩, hq388, h4⟩ := ob h4
      refine sk (sr (sm rfl (sm rfl (s1 (bi rfl rfl q_i64_add) (sm rfl (s1 (bi rfl rfl q_i64_add) (s1 (slo rfl rfl rfl rfl (sl_str un9 hg387)) (c0 (value_unhex_ok (subL p0 (w64 (y349 + (1 : Int))) (w64 (y349 + (3 : Int)))) _ hq388) wf rfl rfl rfl cb46 rfl (fun _ => rfl) (fun _ => rfl) (sm rfl ?_)))))))))
      refine s1 (ext rfl rfl) (s1 (ext rfl rfl) (sa rfl (sa rfl (sn (sq (sr (sm rfl (s1 (nt rfl) (sn ?_)))))))))
      refine cB h4 rfl (fun h4 => ?_) (fun h4 => ?_)
      ·have q := si h4; subst q; have q := si h3; subst q; have q : _ = _ := hv3; subst q; have q := si h1; subst q; have q := si h0; subst q
       exact sr (s1 (asg (v := .d (eS ([] : List UInt8))) rfl) (sa rfl (sn (SC.ret (finR (wc (e' := [(2, .d (eS ([] : List UInt8))), (3, .d (eB false))]) [] [] (by kernel_rfl) rfl (by kernel_rfl)) (lresT rfl (lresT rfl lresN)) rfl)))))
      ·obtain ⟨hg391, h4⟩ := gd h4; have q := si h4; subst q
       refine sk (sr (sm rfl (sm rfl (s1 (app rfl rfl rfl rfl bc9 (aF (f := eU8) (xs := y348) (k := 1) rfl un50 ei5 rfl el_str hg391 rfl)) (sa rfl (sn (SC.region (sm rfl (s1 (bi rfl rfl q_i64_add) ?_)))))))))
       exact sa rfl (SO.nil (lf (wc [1] [1] (by kernel_rfl) rfl (by kernel_rfl))))
   ·rintro ⟨y381, y382⟩ h3
    have q := si h3; subst q
    exact SC.region (sm rfl (s1 (bi rfl rfl q_i64_add) (sa rfl (SO.nil (lf (wq rfl))))))
  ·have q := si h3; subst q; have q : _ = _ := hv3; subst q; have q := si h1; subst q
   exact SC.exit (lf (wq rfl))
 ·rintro y327 h0
  have q := si h0; subst q
  exact sr (sm rfl (s1 (cvo (v := .d (eS y327)) rfl (cv_bytes_str un50 un9 un5 (el_full (xs := y327) rfl) (fun _ hh => by cases hh))) (sa rfl (sa rfl (sn (SC.ret (finR (wc (e' := [(2, .d (eS y327)), (3, .d (eB true))]) [] [] (by kernel_rfl) rfl (by kernel_rfl)) (lresT rfl (lresT rfl lresN)) rfl)))))))
noncomputable def value_read_1 (p0 : List UInt8) : Option (Bool × ApiValue) :=
 bif (p0 == ([110, 117, 108, 108] : List UInt8)) then
 some (true, (ApiValue.mk (0 : Int) (0 : UInt64) ([] : List UInt8)))
 else
 bif (p0 == ([116, 114, 117, 101] : List UInt8)) then
 some (true, (ApiValue.mk (3 : Int) (1 : UInt64) ([] : List UInt8)))
 else
 bif (p0 == ([102, 97, 108, 115, 101] : List UInt8)) then
 some (true, (ApiValue.mk (3 : Int) (0 : UInt64) ([] : List UInt8)))
 else
 Option.bind (preF p0 ([120] : List UInt8)) fun r58 =>
 bif r58 then
 bif decide (0 ≤ (1 : Int) ∧ (1 : Int) ≤ (p0.length : Int)) then
 Option.bind (value_unhex (List.drop (1 : Int).toNat p0)) fun (r61, r62) =>
 some (r62, (ApiValue.mk (4 : Int) (0 : UInt64) r61))
 else none
 else
 Option.bind (α := Bool)
 (bif (decide ((p0.length : Int) > (1 : Int))) then
 Option.bind (getI p0 (0 : Int)) fun v67 =>
 bif (v67 == (34 : UInt8)) then
 Option.bind (getI p0 (w64 ((p0.length : Int) - (1 : Int)))) fun v68 =>
 some (v68 == (34 : UInt8))
 else
 some false
 else
 some false)
 fun y65 =>
 bif y65 then
 Option.bind (value_unquote p0) fun (r70, r71) =>
 some (r71, (ApiValue.mk (5 : Int) (0 : UInt64) r70))
 else
 Option.bind (sufF p0 ([117] : List UInt8)) fun r73 =>
 bif r73 then
 Option.bind (trimF p0 ([117] : List UInt8)) fun r75 =>
 Option.bind (parU r75 (10 : Int) (64 : Int)) fun r77 =>
 (Sum.elim (fun r78 =>
 some (true, (ApiValue.mk (2 : Int) r78 ([] : List UInt8)))) (fun r79 =>
 some (false, (ApiValue.mk (2 : Int) r79 ([] : List UInt8))))) r77
 else
 Option.bind (parI p0 (10 : Int) (64 : Int)) fun r81 =>
 (Sum.elim (fun r82 =>
 some (true, (ApiValue.mk (1 : Int) (u64i r82) ([] : List UInt8)))) (fun r83 =>
 some (false, (ApiValue.mk (1 : Int) (u64i r83) ([] : List UInt8))))) r81
theorem value_read_1_ok (p0 : List UInt8) (r : Bool × ApiValue) (h0 : value_read_1 p0 = some r) : CallAt Tryd.prog 28 [.d (eS p0)] [] (.tuple [.d (eApiValue r.2), .d (eB r.1)]) [.box (.d (eApiValue r.2))] := by
 unfold value_read_1 at h0
 refine fn0 [0] Tryd.func28 rfl rfl rfl rfl rfl ?_
 refine sr (s1 (alo (k := 0) zo24 rfl) (sa rfl (sn (sq (SC.blk (sr (sm rfl (s1 (bi rfl rfl (q_str_eql (b := ([110, 117, 108, 108] : List UInt8)))) (sa rfl ?_)))))))))
 refine sn (cB h0 rfl (fun h0 => ?_) (fun h0 => ?_))
 ·have q := si h0; subst q
  exact sr (s1 (bld rfl (bd24_ )) (s0 (sto rfl rfl (sB (d' := .d (eApiValue (ApiValue.mk (0 : Int) (0 : UInt64) ([] : List UInt8)))) ts24 rfl rfl rfl rfl rfl rfl rfl)) (sa rfl (sn (SC.ret (finR (Wk.refl _) (lresC rfl (ld_box ts24 ta24 rfl rfl) (lresT rfl lresN)) rfl))))))
 ·refine sr (sm rfl (s1 (bi rfl rfl (q_str_eql (b := ([116, 114, 117, 101] : List UInt8)))) (sa rfl (sn (cB h0 rfl (fun h0 => ?_) (fun h0 => ?_))))))
  ·have q := si h0; subst q
   exact sr (s1 (bld rfl (bd24_0_1 (3 : Int) (1 : UInt64))) (s0 (sto rfl rfl (sB (d' := .d (eApiValue (ApiValue.mk (3 : Int) (1 : UInt64) ([] : List UInt8)))) ts24 rfl rfl rfl rfl rfl rfl rfl)) (sa rfl (sn (SC.ret (finR (Wk.refl _) (lresC rfl (ld_box ts24 ta24 rfl rfl) (lresT rfl lresN)) rfl))))))
  ·refine sr (sm rfl (s1 (bi rfl rfl (q_str_eql (b := ([102, 97, 108, 115, 101] : List UInt8)))) (sa rfl (sn (cB h0 rfl (fun h0 => ?_) (fun h0 => ?_))))))
   ·have q := si h0; subst q
    exact sr (s1 (bld rfl (bd24_0 (3 : Int))) (s0 (sto rfl rfl (sB (d' := .d (eApiValue (ApiValue.mk (3 : Int) (0 : UInt64) ([] : List UInt8)))) ts24 rfl rfl rfl rfl rfl rfl rfl)) (sa rfl (sn (SC.ret (finR (Wk.refl _) (lresC rfl (ld_box ts24 ta24 rfl rfl) (lresT rfl lresN)) rfl))))))
   ·obtain ⟨r58, hq57, h0⟩ := ob h0
    refine sr (sm rfl (c0 (pre_ok p0 ([120] : List UInt8) _ hq57) wf rfl rfl rfl cb45 rfl (fun _ => rfl) (fun _ => rfl) (sa rfl (sn (cB h0 rfl (fun h0 => ?_) (fun h0 => ?_))))))
    ·obtain ⟨hg59, h0⟩ := gd h0; obtain ⟨⟨r61, r62⟩, hq60, h0⟩ := ob h0; have q := si h0; subst q
     refine sr (sm rfl (s1 (slo rfl rfl rfl rfl (sl_str_lo un9 hg59)) (c0 (value_unhex_ok (List.drop (1 : Int).toNat p0) _ hq60) wf rfl rfl rfl cb46 rfl (fun _ => rfl) (fun _ => rfl) (sm rfl (s1 (ext rfl rfl) (s1 (ext rfl rfl) (sa rfl (sa rfl (sn ?_)))))))))
     exact sr (sm rfl (s1 (bld rfl (bd24_0_2 (4 : Int) r61)) (sm rfl (s0 (sto rfl rfl (sB (d' := .d (eApiValue (ApiValue.mk (4 : Int) (0 : UInt64) r61))) ts24 rfl rfl rfl rfl rfl rfl rfl)) (sa rfl (sn (SC.ret (finR (Wk.refl _) (lresC rfl (ld_box ts24 ta24 rfl rfl) (lresT rfl lresN)) rfl))))))))
    ·refine SC.seqP h0 (fun y => ⟨mk 84 [(0, .d (eS p0)), (2, .ref 0 0 0), (36, .d (eB y))], [.box (.d (eApiValue (ApiValue.mk (0 : Int) (0 : UInt64) ([] : List UInt8))))]⟩) ?_ ?_
     ·intro u1_66 h1
      refine SC.region (sm rfl (s1 (len rfl rfl rfl (len_str un9)) (s1 (bi rfl rfl q_i64_gtr) (sm rfl (sp h1 (fun h1 => ?_) (fun h1 => ?_))))))
      ·obtain ⟨v67, hv67, h1⟩ := ob h1
       refine gw rfl (mv rfl) (gw rfl (ixs rfl rfl rfl rfl (ix_str un9 (getI_some hv67).1 (getI_some hv67).2)) (gw rfl (bi rfl rfl (q_u8_eql (b := (34 : UInt8)))) (s1 (pkt rfl rfl) (sm rfl (sp h1 (fun h1 => ?_) (fun h1 => ?_))))))
       ·obtain ⟨v68, hv68, h1⟩ := ob h1; have q := si h1; subst q
        exact gw rfl (mv rfl) (gw rfl (mv rfl) (gw rfl (len rfl rfl rfl (len_str un9)) (gw rfl (bi rfl rfl q_i64_sub) (gw rfl (ixs rfl rfl rfl rfl (ix_str un9 (getI_some hv68).1 (getI_some hv68).2)) (gw rfl (bi rfl rfl (q_u8_eql (b := (34 : UInt8)))) (s1 (pkt rfl rfl) (sa rfl (SO.nil ((wq rfl))))))))))
       ·have q := si h1; subst q
        exact kw rfl (kw rfl (kw rfl (kw rfl (kw rfl (kw rfl (s1 (pkf rfl rfl) (sa rfl (SO.nil ((wq rfl))))))))))
      ·have q := si h1; subst q
       refine kw rfl (kw rfl (kw rfl (s1 (pkf rfl rfl) (sm rfl (kw rfl (kw rfl (kw rfl (kw rfl (kw rfl ?_)))))))))
       exact kw rfl (s1 (pkf rfl rfl) (sa rfl (SO.nil ((wq rfl)))))
     ·rintro y65 h0
      refine cB h0 rfl (fun h0 => ?_) (fun h0 => ?_)
      ·obtain ⟨⟨r70, r71⟩, hq69, h0⟩ := ob h0; have q := si h0; subst q
       refine sr (sm rfl (c0 (value_unquote_ok p0 _ hq69) wf rfl rfl rfl cb47 rfl (fun _ => rfl) (fun _ => rfl) (sm rfl (s1 (ext rfl rfl) (s1 (ext rfl rfl) (sa rfl (sa rfl (sn (sr ?_)))))))))
       exact sm rfl (s1 (bld rfl (bd24_0_2 (5 : Int) r70)) (sm rfl (s0 (sto rfl rfl (sB (d' := .d (eApiValue (ApiValue.mk (5 : Int) (0 : UInt64) r70))) ts24 rfl rfl rfl rfl rfl rfl rfl)) (sa rfl (sn (SC.ret (finR (Wk.refl _) (lresC rfl (ld_box ts24 ta24 rfl rfl) (lresT rfl lresN)) rfl)))))))
      ·obtain ⟨r73, hq72, h0⟩ := ob h0
       refine sr (sm rfl (c0 (suf_ok p0 ([117] : List UInt8) _ hq72) wf rfl rfl rfl cb48 rfl (fun _ => rfl) (fun _ => rfl) (sa rfl (sn (cB h0 rfl (fun h0 => ?_) (fun h0 => ?_))))))
       ·obtain ⟨r75, hq74, h0⟩ := ob h0; obtain ⟨r77, hq76, h0⟩ := ob h0
        refine sr (sm rfl (c0 (trim_ok p0 ([117] : List UInt8) _ hq74) wf rfl rfl rfl cb50 rfl (fun _ => rfl) (fun _ => rfl) ?_))
        rcases r77 with r78 | r79
        ·have q := si h0; subst q
         refine c0 (parU_ok_a r75 (10 : Int) (64 : Int) _ hq76) wf rfl rfl rfl cb49 rfl (fun _ => rfl) (fun _ => rfl) (sm rfl (s1 (ext rfl rfl) (s1 (ext rfl rfl) (sa rfl (sa rfl (sn (sd (by kernel_rfl) (t1 ([], false) (mv rfl) rfl (t1 ([], false) (bld rfl (bd24_0_1 (2 : Int) r78)) rfl ?_)))))))))
         exact t1 ([], false) (mv rfl) rfl (t1 ([], false) (bi0 (v := .d (eB true)) rfl rfl (by kernel_rfl)) rfl (t0 ([0], true) (sto rfl rfl (sB (d' := .d (eApiValue (ApiValue.mk (2 : Int) r78 ([] : List UInt8)))) ts24 rfl rfl rfl rfl rfl rfl rfl)) rfl (t1 ([], false) (asg rfl) rfl (tn (by decide +kernel) (SC.ret (finR (Wk.refl _) (lresC rfl (ld_box ts24 ta24 rfl rfl) (lresT rfl lresN)) rfl))))))
        ·have q := si h0; subst q
         refine c0 (parU_ok_b r75 (10 : Int) (64 : Int) _ hq76) wf rfl rfl rfl cb49 rfl (fun _ => rfl) (fun _ => rfl) (sm rfl (s1 (ext rfl rfl) (s1 (ext rfl rfl) (sa rfl (sa rfl (sn (sd (by kernel_rfl) (t1 ([], false) (mv rfl) rfl (t1 ([], false) (bld rfl (bd24_0_1 (2 : Int) r79)) rfl ?_)))))))))
         exact t1 ([], false) (mv rfl) rfl (t1 ([], false) (bi (v := .d (eB false)) rfl rfl (fun _ _ => ifn_eql if61)) rfl (t0 ([0], true) (sto rfl rfl (sB (d' := .d (eApiValue (ApiValue.mk (2 : Int) r79 ([] : List UInt8)))) ts24 rfl rfl rfl rfl rfl rfl rfl)) rfl (t1 ([], false) (asg rfl) rfl (tn (by decide +kernel) (SC.ret (finR (Wk.refl _) (lresC rfl (ld_box ts24 ta24 rfl rfl) (lresT rfl lresN)) rfl))))))
       ·refine SC.skip ?_
        change SC _ _ _ _ _
        obtain ⟨r81, hq80, h0⟩ := ob h0
        refine sr (sm rfl ?_)
        rcases r81 with r82 | r83
        ·have q := si h0; subst q
         refine c0 (parI_ok_a p0 (10 : Int) (64 : Int) _ hq80) wf rfl rfl rfl cb51 rfl (fun _ => rfl) (fun _ => rfl) (sm rfl (s1 (ext rfl rfl) (s1 (ext rfl rfl) (sa rfl (sa rfl (sn (sd (by kernel_rfl) (t1 ([], false) (mv rfl) rfl (t1 ([], false) (cvo rfl (cv_i64_u64 un2 un22 r82)) rfl ?_)))))))))
         exact t1 ([], false) (bld rfl (bd24_0_1 (1 : Int) (u64i r82))) rfl (t1 ([], false) (mv rfl) rfl (t1 ([], false) (bi0 (v := .d (eB true)) rfl rfl (by kernel_rfl)) rfl (t0 ([0], true) (sto rfl rfl (sB (d' := .d (eApiValue (ApiValue.mk (1 : Int) (u64i r82) ([] : List UInt8)))) ts24 rfl rfl rfl rfl rfl rfl rfl)) rfl (t1 ([], false) (asg rfl) rfl (tn (by decide +kernel) (SC.ret (finR (Wk.refl _) (lresC rfl (ld_box ts24 ta24 rfl rfl) (lresT rfl lresN)) rfl)))))))
        ·have q := si h0; subst q
         refine c0 (parI_ok_b p0 (10 : Int) (64 : Int) _ hq80) wf rfl rfl rfl cb51 rfl (fun _ => rfl) (fun _ => rfl) (sm rfl (s1 (ext rfl rfl) (s1 (ext rfl rfl) (sa rfl (sa rfl (sn (sd (by kernel_rfl) (t1 ([], false) (mv rfl) rfl (t1 ([], false) (cvo rfl (cv_i64_u64 un2 un22 r83)) rfl ?_)))))))))
         exact t1 ([], false) (bld rfl (bd24_0_1 (1 : Int) (u64i r83))) rfl (t1 ([], false) (mv rfl) rfl (t1 ([], false) (bi (v := .d (eB false)) rfl rfl (fun _ _ => ifn_eql if61)) rfl (t0 ([0], true) (sto rfl rfl (sB (d' := .d (eApiValue (ApiValue.mk (1 : Int) (u64i r83) ([] : List UInt8)))) ts24 rfl rfl rfl rfl rfl rfl rfl)) rfl (t1 ([], false) (asg rfl) rfl (tn (by decide +kernel) (SC.ret (finR (Wk.refl _) (lresC rfl (ld_box ts24 ta24 rfl rfl) (lresT rfl lresN)) rfl)))))))
noncomputable def value_Valid (p0 : ApiValue) : Option Bool :=
 bif (p0.Kind == (0 : Int)) then
 some (eqApiValue p0 (ApiValue.mk (0 : Int) (0 : UInt64) ([] : List UInt8)))
 else
 Option.bind (α := Bool)
 (bif (p0.Kind == (1 : Int)) then
 some (p0.Kind == (1 : Int))
 else
 some (p0.Kind == (2 : Int)))
 fun y26 =>
 bif y26 then
 some (p0.S == ([] : List UInt8))
 else
 bif (p0.Kind == (3 : Int)) then
 Option.bind (α := Bool)
 (bif (decide (p0.N ≤ (1 : UInt64))) then
 some (p0.S == ([] : List UInt8))
 else
 some false)
 fun y28 =>
 some y28
 else
 bif (p0.Kind == (4 : Int)) then
 Option.bind (α := Bool)
 (bif (p0.N == (0 : UInt64)) then
 some (decide ((p0.S.length : Int) ≤ (64 : Int)))
 else
 some false)
 fun y30 =>
 some y30
 else
 bif (p0.Kind == (5 : Int)) then
 Option.bind (α := Bool)
 (bif (p0.N == (0 : UInt64)) then
 bif (decide ((p0.S.length : Int) ≤ (64 : Int))) then
 Option.bind (validF p0.S) fun r37 =>
 some r37
 else
 some false
 else
 some false)
 fun y34 =>
 some y34
 else
 some false
theorem value_Valid_ok (p0 : ApiValue) (r : Bool) (h0 : value_Valid p0 = some r) : CallAt Tryd.prog 13 [.d (eApiValue p0)] [] (.d (eB r)) [] := by
 unfold value_Valid at h0
 refine fn0 [0] Tryd.func13 rfl rfl rfl rfl rfl ?_
 refine sr (s1 (bxo (k := 0) rfl rfl rfl) (sa rfl (sn (sq (sr (s1 (far (k := 0) rfl fo24_0 ts3 rfl) (s1 (lod rfl (ld_box ts3 ta3 rfl rfl)) (sn (SC.blk ?_)))))))))
 refine sr (s1 (bi rfl rfl q_i64_eql) (sa rfl (sn (cB h0 rfl (fun h0 => ?_) (fun h0 => ?_)))))
 ·have q := si h0; subst q
  exact sr (s1 (lod (v := .d (eApiValue p0)) rfl (ld_box ts24 ta24 rfl rfl)) (s1 (bld rfl (bd24_ )) (s1 (bi (v := .d (eB (eqApiValue p0 (ApiValue.mk (0 : Int) (0 : UInt64) ([] : List UInt8))))) rfl rfl (fun X Y => eqApiValue_eql_24 X Y p0 (ApiValue.mk (0 : Int) (0 : UInt64) ([] : List UInt8)))) (sa rfl (sn (SC.ret (finR (wc (e' := [(2, .d (eB (eqApiValue p0 (ApiValue.mk (0 : Int) (0 : UInt64) ([] : List UInt8)))))]) [] [] (by kernel_rfl) rfl (by kernel_rfl)) (lresT rfl lresN) rfl)))))))
 ·refine SC.seqP h0 (fun y => ⟨mk 53 [(1, .ref 0 0 0), (4, .d (eI p0.Kind)), (10, .d (eB y))], [.box (.d (eApiValue p0))]⟩) ?_ ?_
  ·intro u1_27 h1
   refine sr (s1 (bi rfl rfl q_i64_eql) (sa rfl (sn (cB h1 rfl (fun h1 => ?_) (fun h1 => ?_)))))
   ·have q := si h1; subst q
    exact SC.skip ((wq rfl))
   ·have q := si h1; subst q
    exact SC.region (s1 (bi rfl rfl q_i64_eql) (sa rfl (SO.nil ((wq rfl)))))
  ·rintro y26 h0
   refine cB h0 rfl (fun h0 => ?_) (fun h0 => ?_)
   ·have q := si h0; subst q
    exact sr (s1 (far (k := 2) rfl fo24_2 ts9 rfl) (s1 (lod rfl (ld_box ts9 ta9 rfl rfl)) (s1 (bi rfl rfl (q_str_eql (b := ([] : List UInt8)))) (sa rfl (sn (SC.ret (finR (wc (e' := [(2, .d (eB (p0.S == ([] : List UInt8))))]) [] [] (by kernel_rfl) rfl (by kernel_rfl)) (lresT rfl lresN) rfl)))))))
   ·refine sr (s1 (bi rfl rfl q_i64_eql) (sa rfl (sn (cB h0 rfl (fun h0 => ?_) (fun h0 => ?_)))))
    ·refine SC.seqP h0 (fun y => ⟨mk 53 [(2, .d (eB y))], []⟩) ?_ ?_
     ·intro u1_29 h1
      refine SC.region (s1 (far (k := 1) rfl fo24_1 ts22 rfl) (s1 (lod rfl (ld_box ts22 ta22 rfl rfl)) (s1 (bi rfl rfl (q_u64_leq (b := (1 : UInt64)))) (sm rfl (sp h1 (fun h1 => ?_) (fun h1 => ?_))))))
      ·have q := si h1; subst q
       exact gw rfl (far (k := 2) rfl fo24_2 ts9 rfl) (gw rfl (lod rfl (ld_box ts9 ta9 rfl rfl)) (gw rfl (bi rfl rfl (q_str_eql (b := ([] : List UInt8)))) (s1 (pkt rfl rfl) (sa rfl (SO.nil ((wc [] [] (by kernel_rfl) rfl (by kernel_rfl))))))))
      ·have q := si h1; subst q
       exact kw rfl (kw rfl (kw rfl (s1 (pkf rfl rfl) (sa rfl (SO.nil ((wc [] [] (by kernel_rfl) rfl (by kernel_rfl))))))))
     ·rintro y28 h0
      have q := si h0; subst q
      exact SC.ret (finR (Wk.refl _) (lresT rfl lresN) rfl)
    ·refine sr (s1 (bi rfl rfl q_i64_eql) (sa rfl (sn (cB h0 rfl (fun h0 => ?_) (fun h0 => ?_)))))
     ·refine SC.seqP h0 (fun y => ⟨mk 53 [(2, .d (eB y))], []⟩) ?_ ?_
      ·intro u1_31 h1
       refine SC.region (s1 (far (k := 1) rfl fo24_1 ts22 rfl) (s1 (lod rfl (ld_box ts22 ta22 rfl rfl)) (s1 (bi rfl rfl (q_u64_eql (b := (0 : UInt64)))) (sm rfl (sp h1 (fun h1 => ?_) (fun h1 => ?_))))))
       ·have q := si h1; subst q
        exact gw rfl (far (k := 2) rfl fo24_2 ts9 rfl) (gw rfl (lod rfl (ld_box ts9 ta9 rfl rfl)) (gw rfl (len rfl rfl rfl (len_str un9)) (gw rfl (bi rfl rfl q_i64_leq) (s1 (pkt rfl rfl) (sa rfl (SO.nil ((wc [] [] (by kernel_rfl) rfl (by kernel_rfl)))))))))
       ·have q := si h1; subst q
        exact kw rfl (kw rfl (kw rfl (kw rfl (s1 (pkf rfl rfl) (sa rfl (SO.nil ((wc [] [] (by kernel_rfl) rfl (by kernel_rfl)))))))))
      ·rintro y30 h0
       have q := si h0; subst q
       exact SC.ret (finR (Wk.refl _) (lresT rfl lresN) rfl)
     ·refine sr (s1 (bi rfl rfl q_i64_eql) (sa rfl (sn (cB h0 rfl (fun h0 => ?_) (fun h0 => ?_)))))
      ·refine SC.seqP h0 (fun y => ⟨mk 53 [(2, .d (eB y))], []⟩) ?_ ?_
       ·intro u1_35 h1
        refine SC.region (s1 (far (k := 1) rfl fo24_1 ts22 rfl) (s1 (lod rfl (ld_box ts22 ta22 rfl rfl)) (s1 (bi rfl rfl (q_u64_eql (b := (0 : UInt64)))) (sm rfl (sp h1 (fun h1 => ?_) (fun h1 => ?_))))))
        ·refine gw rfl (far (k := 2) rfl fo24_2 ts9 rfl) (gw rfl (lod rfl (ld_box ts9 ta9 rfl rfl)) (gw rfl (len rfl rfl rfl (len_str un9)) (gw rfl (bi rfl rfl q_i64_leq) (s1 (pkt rfl rfl) (sm rfl (sp h1 (fun h1 => ?_) (fun h1 => ?_)))))))
         ·obtain ⟨r37, hq36, h1⟩ := ob h1; have q := si h1; subst q
          exact gw rfl (far (k := 2) rfl fo24_2 ts9 rfl) (gw rfl (lod rfl (ld_box ts9 ta9 rfl rfl)) (c0 (valid_ok p0.S _ hq36) (ww rfl) rfl rfl rfl cb31 rfl (fun _ => rfl) (fun _ => rfl) (s1 (pkt rfl rfl) (sa rfl (SO.nil ((wc [] [] (by kernel_rfl) rfl (by kernel_rfl))))))))
         ·have q := si h1; subst q
          exact kw rfl (kw rfl (kw rfl (s1 (pkf rfl rfl) (sa rfl (SO.nil ((wc [] [] (by kernel_rfl) rfl (by kernel_rfl))))))))
        ·have q := si h1; subst q
         refine kw rfl (kw rfl (kw rfl (kw rfl (s1 (pkf rfl rfl) (sm rfl (kw rfl (kw rfl (kw rfl (s1 (pkf rfl rfl) ?_)))))))))
         exact sa rfl (SO.nil ((wc [] [] (by kernel_rfl) rfl (by kernel_rfl))))
       ·rintro y34 h0
        have q := si h0; subst q
        exact SC.ret (finR (Wk.refl _) (lresT rfl lresN) rfl)
      ·refine SC.skip ?_
       change SC _ _ _ _ _
       have q := si h0; subst q
       exact sr (sa rfl (sn (SC.ret (finR (wc (e' := [(2, .d (eB false))]) [] [] (by kernel_rfl) rfl (by kernel_rfl)) (lresT rfl lresN) rfl))))
noncomputable def internal_strconv_FormatBool (p0 : Bool) : Option ((List UInt8)) :=
 bif p0 then
 some ([116, 114, 117, 101] : List UInt8)
 else
 some ([102, 97, 108, 115, 101] : List UInt8)
theorem internal_strconv_FormatBool_ok (p0 : Bool) (r : (List UInt8)) (h0 : internal_strconv_FormatBool p0 = some r) : CallAt Tryd.prog 41 [.d (eB p0)] [] (.d (eS r)) [] := by
 unfold internal_strconv_FormatBool at h0
 refine fn0 [0] Tryd.func41 rfl rfl rfl rfl rfl ?_
 refine sr (s1 (asg (v := .d (eS ([] : List UInt8))) rfl) (sn (sq (sr (sm rfl (sn (cB h0 rfl (fun h0 => ?_) (fun h0 => ?_))))))))
 ·have q := si h0; subst q
  exact sr (s1 (asg (v := .d (eS ([116, 114, 117, 101] : List UInt8))) rfl) (sn (SC.ret (finR (Wk.refl _) (lresT rfl lresN) rfl))))
 ·have q := si h0; subst q
  exact sk (sr (s1 (asg (v := .d (eS ([102, 97, 108, 115, 101] : List UInt8))) rfl) (sn (SC.ret (finR (Wk.refl _) (lresT rfl lresN) rfl)))))
noncomputable def strconv_FormatBool (p0 : Bool) : Option ((List UInt8)) :=
 Option.bind (internal_strconv_FormatBool p0) fun r7 =>
 some r7
theorem strconv_FormatBool_ok (p0 : Bool) (r : (List UInt8)) (h0 : strconv_FormatBool p0 = some r) : CallAt Tryd.prog 25 [.d (eB p0)] [] (.d (eS r)) [] := by
 unfold strconv_FormatBool at h0
 refine fn0 [0] Tryd.func25 rfl rfl rfl rfl rfl ?_
 obtain ⟨r7, hq6, h0⟩ := ob h0; have q := si h0; subst q
 exact sr (s1 (asg (v := .d (eS ([] : List UInt8))) rfl) (sn (sr (sm rfl (c0 (internal_strconv_FormatBool_ok p0 _ hq6) wf rfl rfl rfl cb41 rfl (fun _ => rfl) (fun _ => rfl) (sa rfl (sn (SC.ret (finR (Wk.refl _) (lresT rfl lresN) rfl)))))))))
noncomputable def value_Text (p0 : ApiValue) : Option ((List UInt8)) :=
 Option.bind (value_Valid p0) fun r31 =>
 bif (!r31) then
 some ([] : List UInt8)
 else
 bif (p0.Kind == (1 : Int)) then
 Option.bind (fmtI (i64u p0.N) (10 : Int)) fun r33 =>
 some r33
 else
 bif (p0.Kind == (2 : Int)) then
 Option.bind (fmtU p0.N (10 : Int)) fun r35 =>
 bif decide (r35.length + ([117] : List UInt8).length ≤ 9223372036854775807) then
 some (r35 ++ ([117] : List UInt8))
 else none
 else
 bif (p0.Kind == (3 : Int)) then
 Option.bind (strconv_FormatBool (p0.N == (1 : UInt64))) fun r38 =>
 some r38
 else
 bif (p0.Kind == (4 : Int)) then
 Option.bind (hexF p0.S) fun r40 =>
 bif decide (([120] : List UInt8).length + r40.length ≤ 9223372036854775807) then
 some (([120] : List UInt8) ++ r40)
 else none
 else
 bif (p0.Kind == (5 : Int)) then
 Option.bind (quoteF p0.S) fun r43 =>
 some r43
 else
 some ([110, 117, 108, 108] : List UInt8)
theorem value_Text_ok (p0 : ApiValue) (r : (List UInt8)) (h0 : value_Text p0 = some r) : CallAt Tryd.prog 9 [.d (eApiValue p0)] [] (.d (eS r)) [] := by
 unfold value_Text at h0
 refine fn0 [0] Tryd.func9 rfl rfl rfl rfl rfl ?_
 obtain ⟨r31, hq30, h0⟩ := ob h0
 refine sr (s1 (bxo (k := 0) rfl rfl rfl) (s1 (asg (v := .d (eS ([] : List UInt8))) rfl) (sn (sq (sr (s1 (lod (v := .d (eApiValue p0)) rfl (ld_box ts24 ta24 rfl rfl)) (c0 (value_Valid_ok p0 _ hq30) wf rfl rfl rfl cb13 rfl (fun _ => rfl) (fun _ => rfl) (s1 (nt rfl) (sn ?_)))))))))
 refine cB h0 rfl (fun h0 => ?_) (fun h0 => ?_)
 ·have q := si h0; subst q
  exact sr (s1 (asg (v := .d (eS ([] : List UInt8))) rfl) (sn (SC.ret (finR (wc (e' := [(2, .d (eS ([] : List UInt8)))]) [] [] (by kernel_rfl) rfl (by kernel_rfl)) (lresT rfl lresN) rfl))))
 ·refine sk (sq (sr (s1 (far (k := 0) rfl fo24_0 ts3 rfl) (s1 (lod rfl (ld_box ts3 ta3 rfl rfl)) (sn (SC.blk (sr (s1 (bi rfl rfl q_i64_eql) (sa rfl ?_)))))))))
  refine sn (cB h0 rfl (fun h0 => ?_) (fun h0 => ?_))
  ·obtain ⟨r33, hq32, h0⟩ := ob h0; have q := si h0; subst q
   exact sr (s1 (far (k := 1) rfl fo24_1 ts22 rfl) (s1 (lod rfl (ld_box ts22 ta22 rfl rfl)) (s1 (cvo rfl (cv_u64_i64 un22 un2 p0.N)) (c0 (fmtI_ok (i64u p0.N) (10 : Int) _ hq32) wf rfl rfl rfl cb23 rfl (fun _ => rfl) (fun _ => rfl) (sa rfl (sn (SC.ret (finR (wc (e' := [(2, .d (eS r33))]) [] [] (by kernel_rfl) rfl (by kernel_rfl)) (lresT rfl lresN) rfl))))))))
  ·refine sr (s1 (bi rfl rfl q_i64_eql) (sa rfl (sn (cB h0 rfl (fun h0 => ?_) (fun h0 => ?_)))))
   ·obtain ⟨r35, hq34, h0⟩ := ob h0; obtain ⟨hg36, h0⟩ := gd h0; have q := si h0; subst q
    exact sr (s1 (far (k := 1) rfl fo24_1 ts22 rfl) (s1 (lod rfl (ld_box ts22 ta22 rfl rfl)) (c0 (fmtU_ok p0.N (10 : Int) _ hq34) wf rfl rfl rfl cb24 rfl (fun _ => rfl) (fun _ => rfl) (s1 (bi (v := .d (eS (r35 ++ ([117] : List UInt8)))) rfl rfl (fun X Y => b_str_add _ X Y r35 ([117] : List UInt8) hg36)) (sa rfl (sn (SC.ret (finR (wc (e' := [(2, .d (eS (r35 ++ ([117] : List UInt8))))]) [] [] (by kernel_rfl) rfl (by kernel_rfl)) (lresT rfl lresN) rfl))))))))
   ·refine sr (s1 (bi rfl rfl q_i64_eql) (sa rfl (sn (cB h0 rfl (fun h0 => ?_) (fun h0 => ?_)))))
    ·obtain ⟨r38, hq37, h0⟩ := ob h0; have q := si h0; subst q
     exact sr (s1 (far (k := 1) rfl fo24_1 ts22 rfl) (s1 (lod rfl (ld_box ts22 ta22 rfl rfl)) (s1 (bi rfl rfl (q_u64_eql (b := (1 : UInt64)))) (c0 (strconv_FormatBool_ok (p0.N == (1 : UInt64)) _ hq37) wf rfl rfl rfl cb25 rfl (fun _ => rfl) (fun _ => rfl) (sa rfl (sn (SC.ret (finR (wc (e' := [(2, .d (eS r38))]) [] [] (by kernel_rfl) rfl (by kernel_rfl)) (lresT rfl lresN) rfl))))))))
    ·refine sr (s1 (bi rfl rfl q_i64_eql) (sa rfl (sn (cB h0 rfl (fun h0 => ?_) (fun h0 => ?_)))))
     ·obtain ⟨r40, hq39, h0⟩ := ob h0; obtain ⟨hg41, h0⟩ := gd h0; have q := si h0; subst q
      exact sr (s1 (far (k := 2) rfl fo24_2 ts9 rfl) (s1 (lod rfl (ld_box ts9 ta9 rfl rfl)) (c0 (hex_ok p0.S _ hq39) wf rfl rfl rfl cb26 rfl (fun _ => rfl) (fun _ => rfl) (s1 (bi (v := .d (eS (([120] : List UInt8) ++ r40))) rfl rfl (fun X Y => b_str_add _ X Y ([120] : List UInt8) r40 hg41)) (sa rfl (sn (SC.ret (finR (wc (e' := [(2, .d (eS (([120] : List UInt8) ++ r40)))]) [] [] (by kernel_rfl) rfl (by kernel_rfl)) (lresT rfl lresN) rfl))))))))
     ·refine sr (s1 (bi rfl rfl q_i64_eql) (sa rfl (sn (cB h0 rfl (fun h0 => ?_) (fun h0 => ?_)))))
      ·obtain ⟨r43, hq42, h0⟩ := ob h0; have q := si h0; subst q
       exact sr (s1 (far (k := 2) rfl fo24_2 ts9 rfl) (s1 (lod rfl (ld_box ts9 ta9 rfl rfl)) (c0 (quote_ok p0.S _ hq42) wf rfl rfl rfl cb27 rfl (fun _ => rfl) (fun _ => rfl) (sa rfl (sn (SC.ret (finR (wc (e' := [(2, .d (eS r43))]) [] [] (by kernel_rfl) rfl (by kernel_rfl)) (lresT rfl lresN) rfl)))))))
      ·refine SC.skip ?_
       change SC _ _ _ _ _
       have q := si h0; subst q
       exact sr (s1 (asg (v := .d (eS ([110, 117, 108, 108] : List UInt8))) rfl) (sn (SC.ret (finR (wc (e' := [(2, .d (eS ([110, 117, 108, 108] : List UInt8)))]) [] [] (by kernel_rfl) rfl (by kernel_rfl)) (lresT rfl lresN) rfl))))
noncomputable def value_Parse_1 (p0 : List UInt8) : Option (Int × ApiValue) :=
 Option.bind (value_read_1 p0) fun (r22, r23) =>
 Option.bind (α := Bool)
 (bif (!r22) then
 some true
 else
 Option.bind (value_Text r23) fun r29 =>
 some (r29 != p0))
 fun y26 =>
 bif y26 then
 some ((2 : Int), (ApiValue.mk (0 : Int) (0 : UInt64) ([] : List UInt8)))
 else
 some ((0 : Int), r23)
theorem value_Parse_1_ok (p0 : List UInt8) (r : Int × ApiValue) (h0 : value_Parse_1 p0 = some r) : CallAt Tryd.prog 10 [.d (eS p0)] [] (.tuple [.d (eApiValue r.2), .d (eI r.1)]) [.box (.d (eApiValue r.2))] := by
 unfold value_Parse_1 at h0
 refine fn0 [0] Tryd.func10 rfl rfl rfl rfl rfl ?_
 obtain ⟨⟨r22, r23⟩, hq21, h0⟩ := ob h0
 refine sr (s1 (alo (k := 0) zo24 rfl) (sa rfl (sn (sr (sm rfl (cq [] [1] (value_read_1_ok p0 _ hq21) wf rfl rfl rfl cb28 rfl rfl rfl rfl rfl rfl rfl rfl (sm rfl (s1 (ext rfl rfl) (s1 (ext rfl rfl) ?_)))))))))
 refine s1 (alo (k := 2) zo24 rfl) (s0 (sto rfl rfl (sB (d' := .d (eApiValue r23)) ts24 rfl rfl rfl rfl rfl rfl rfl)) (sa rfl (sn (sq (SC.seqP h0 (fun y => ⟨mk 21 [(2, .ref 0 0 0), (4, .ref 1 0 0), (18, .d (eB y))], [.box (.d (eApiValue (ApiValue.mk (0 : Int) (0 : UInt64) ([] : List UInt8)))), .box (.d (eApiValue r23))]⟩) ?_ ?_)))))
 ·intro u1_27 h1
  refine SC.region (sm rfl (s1 (nt rfl) (sm rfl (sp h1 (fun h1 => ?_) (fun h1 => ?_)))))
  ·have q := si h1; subst q
   exact kw rfl (kw rfl (kw rfl (kw rfl (s1 (pkt rfl rfl) (SO.nil ((wc [0, 2] [0, 2] (by kernel_rfl) rfl (by kernel_rfl))))))))
  ·obtain ⟨r29, hq28, h1⟩ := ob h1; have q := si h1; subst q
   exact gw rfl (lod (v := .d (eApiValue r23)) rfl (ld_box ts24 ta24 rfl rfl)) (c0 (value_Text_ok r23 _ hq28) (ww rfl) rfl rfl rfl cb9 rfl (fun _ => rfl) (fun _ => rfl) (gw rfl (mv rfl) (gw rfl (bi rfl rfl q_str_neq) (s1 (pkf rfl rfl) (SO.nil ((wc [0, 2] [0, 2] (by kernel_rfl) rfl (by kernel_rfl))))))))
 ·rintro y26 h0
  refine cB h0 rfl (fun h0 => ?_) (fun h0 => ?_)
  ·have q := si h0; subst q
   exact sr (s1 (bld rfl (bd24_ )) (s0 (sto rfl rfl (sB (d' := .d (eApiValue (ApiValue.mk (0 : Int) (0 : UInt64) ([] : List UInt8)))) ts24 rfl rfl rfl rfl rfl rfl rfl)) (sa rfl (sn (SC.ret (finR (wc (e' := [(2, .ref 0 0 0), (3, .d (eI (2 : Int)))]) [0] [0] (by kernel_rfl) rfl (by kernel_rfl)) (lresC rfl (ld_box ts24 ta24 rfl rfl) (lresT rfl lresN)) rfl))))))
  ·have q := si h0; subst q
   exact sk (sr (s1 (lod (v := .d (eApiValue r23)) rfl (ld_box ts24 ta24 rfl rfl)) (s0 (sto rfl rfl (sB (d' := .d (eApiValue r23)) ts24 rfl rfl rfl rfl rfl rfl rfl)) (sa rfl (sn (SC.ret (finR (wc (e' := [(2, .ref 0 0 0), (3, .d (eI (0 : Int)))]) [0] [0] (by kernel_rfl) rfl (by kernel_rfl)) (lresC rfl (ld_box ts24 ta24 rfl rfl) (lresT rfl lresN)) rfl)))))))
noncomputable def cmp_isNaN_int (p0 : Int) : Option Unit :=
 some ()
theorem cmp_isNaN_int_ok (p0 : Int) (r : Unit) (h0 : cmp_isNaN_int p0 = some r) : CallAt Tryd.prog 54 [.d (eI p0)] [] (.d (eB (p0 != p0))) [] := by
 unfold cmp_isNaN_int at h0
 refine fn0 [0] Tryd.func54 rfl rfl rfl rfl rfl ?_
 have q := si h0; subst q
 refine sr (sa rfl (sn (sr (sm rfl (sm rfl (s1 (bi rfl rfl q_i64_neq) (sa rfl (sn (SC.ret ?_)))))))))
 exact finR (Wk.refl _) (lresT rfl lresN) rfl
noncomputable def cmp_Compare_int (p0 : Int) (p1 : Int) : Option Int :=
 Option.bind (cmp_isNaN_int p0) fun _ =>
 Option.bind (cmp_isNaN_int p1) fun _ =>
 bif (p0 != p0) then
 bif (p1 != p1) then
 some (0 : Int)
 else
 some (-1 : Int)
 else
 bif (p1 != p1) then
 some (1 : Int)
 else
 bif (decide (p0 < p1)) then
 some (-1 : Int)
 else
 bif (decide (p0 > p1)) then
 some (1 : Int)
 else
 some (0 : Int)
theorem cmp_Compare_int_ok (p0 : Int) (p1 : Int) (r : Int) (h0 : cmp_Compare_int p0 p1 = some r) : CallAt Tryd.prog 32 [.d (eI p0), .d (eI p1)] [] (.d (eI r)) [] := by
 unfold cmp_Compare_int at h0
 refine fn0 [0, 1] Tryd.func32 rfl rfl rfl rfl rfl ?_
 obtain ⟨_, hq6, h0⟩ := ob h0; obtain ⟨_, hq7, h0⟩ := ob h0
 refine sr (sa rfl (sn (sr (sm rfl (c0 (cmp_isNaN_int_ok p0 _ hq6) wf rfl rfl rfl cb54 rfl (fun _ => rfl) (fun _ => rfl) (sa rfl (sn (sr (sm rfl ?_)))))))))
 refine c0 (cmp_isNaN_int_ok p1 _ hq7) wf rfl rfl rfl cb54 rfl (fun _ => rfl) (fun _ => rfl) (sa rfl (sn (sq (sr (sm rfl (sn (cB h0 rfl (fun h0 => ?_) (fun h0 => ?_))))))))
 ·refine sq (sr (sm rfl (sn (cB h0 rfl (fun h0 => ?_) (fun h0 => ?_)))))
  ·have q := si h0; subst q
   exact sr (sa rfl (sn (SC.ret (finR (Wk.refl _) (lresT rfl lresN) rfl))))
  ·have q := si h0; subst q
   exact sk (sr (sa rfl (sn (SC.ret (finR (Wk.refl _) (lresT rfl lresN) rfl)))))
 ·refine sk (sq (sr (sm rfl (sn (cB h0 rfl (fun h0 => ?_) (fun h0 => ?_))))))
  ·have q := si h0; subst q
   exact sr (sa rfl (sn (SC.ret (finR (Wk.refl _) (lresT rfl lresN) rfl))))
  ·refine sk (sq (sr (sm rfl (sm rfl (s1 (bi rfl rfl q_i64_lss) (sn (cB h0 rfl (fun h0 => ?_) (fun h0 => ?_))))))))
   ·have q := si h0; subst q
    exact sr (sa rfl (sn (SC.ret (finR (Wk.refl _) (lresT rfl lresN) rfl))))
   ·refine sk (sq (sr (sm rfl (sm rfl (s1 (bi rfl rfl q_i64_gtr) (sn (cB h0 rfl (fun h0 => ?_) (fun h0 => ?_))))))))
    ·have q := si h0; subst q
     exact sr (sa rfl (sn (SC.ret (finR (Wk.refl _) (lresT rfl lresN) rfl))))
    ·have q := si h0; subst q
     exact sk (sr (sa rfl (sn (SC.ret (finR (Wk.refl _) (lresT rfl lresN) rfl)))))
noncomputable def cmp_isNaN_int64 (p0 : Int) : Option Unit :=
 some ()
theorem cmp_isNaN_int64_ok (p0 : Int) (r : Unit) (h0 : cmp_isNaN_int64 p0 = some r) : CallAt Tryd.prog 55 [.d (eI p0)] [] (.d (eB (p0 != p0))) [] := by
 unfold cmp_isNaN_int64 at h0
 refine fn0 [0] Tryd.func55 rfl rfl rfl rfl rfl ?_
 have q := si h0; subst q
 refine sr (sa rfl (sn (sr (sm rfl (sm rfl (s1 (bi rfl rfl q_i64_neq) (sa rfl (sn (SC.ret ?_)))))))))
 exact finR (Wk.refl _) (lresT rfl lresN) rfl
noncomputable def cmp_Compare_int64 (p0 : Int) (p1 : Int) : Option Int :=
 Option.bind (cmp_isNaN_int64 p0) fun _ =>
 Option.bind (cmp_isNaN_int64 p1) fun _ =>
 bif (p0 != p0) then
 bif (p1 != p1) then
 some (0 : Int)
 else
 some (-1 : Int)
 else
 bif (p1 != p1) then
 some (1 : Int)
 else
 bif (decide (p0 < p1)) then
 some (-1 : Int)
 else
 bif (decide (p0 > p1)) then
 some (1 : Int)
 else
 some (0 : Int)
theorem cmp_Compare_int64_ok (p0 : Int) (p1 : Int) (r : Int) (h0 : cmp_Compare_int64 p0 p1 = some r) : CallAt Tryd.prog 33 [.d (eI p0), .d (eI p1)] [] (.d (eI r)) [] := by
 unfold cmp_Compare_int64 at h0
 refine fn0 [0, 1] Tryd.func33 rfl rfl rfl rfl rfl ?_
 obtain ⟨_, hq6, h0⟩ := ob h0; obtain ⟨_, hq7, h0⟩ := ob h0
 refine sr (sa rfl (sn (sr (sm rfl (c0 (cmp_isNaN_int64_ok p0 _ hq6) wf rfl rfl rfl cb55 rfl (fun _ => rfl) (fun _ => rfl) (sa rfl (sn (sr (sm rfl ?_)))))))))
 refine c0 (cmp_isNaN_int64_ok p1 _ hq7) wf rfl rfl rfl cb55 rfl (fun _ => rfl) (fun _ => rfl) (sa rfl (sn (sq (sr (sm rfl (sn (cB h0 rfl (fun h0 => ?_) (fun h0 => ?_))))))))
 ·refine sq (sr (sm rfl (sn (cB h0 rfl (fun h0 => ?_) (fun h0 => ?_)))))
  ·have q := si h0; subst q
   exact sr (sa rfl (sn (SC.ret (finR (Wk.refl _) (lresT rfl lresN) rfl))))
  ·have q := si h0; subst q
   exact sk (sr (sa rfl (sn (SC.ret (finR (Wk.refl _) (lresT rfl lresN) rfl)))))
 ·refine sk (sq (sr (sm rfl (sn (cB h0 rfl (fun h0 => ?_) (fun h0 => ?_))))))
  ·have q := si h0; subst q
   exact sr (sa rfl (sn (SC.ret (finR (Wk.refl _) (lresT rfl lresN) rfl))))
  ·refine sk (sq (sr (sm rfl (sm rfl (s1 (bi rfl rfl q_i64_lss) (sn (cB h0 rfl (fun h0 => ?_) (fun h0 => ?_))))))))
   ·have q := si h0; subst q
    exact sr (sa rfl (sn (SC.ret (finR (Wk.refl _) (lresT rfl lresN) rfl))))
   ·refine sk (sq (sr (sm rfl (sm rfl (s1 (bi rfl rfl q_i64_gtr) (sn (cB h0 rfl (fun h0 => ?_) (fun h0 => ?_))))))))
    ·have q := si h0; subst q
     exact sr (sa rfl (sn (SC.ret (finR (Wk.refl _) (lresT rfl lresN) rfl))))
    ·have q := si h0; subst q
     exact sk (sr (sa rfl (sn (SC.ret (finR (Wk.refl _) (lresT rfl lresN) rfl)))))
noncomputable def cmp_isNaN_uint64 (p0 : UInt64) : Option Unit :=
 some ()
theorem cmp_isNaN_uint64_ok (p0 : UInt64) (r : Unit) (h0 : cmp_isNaN_uint64 p0 = some r) : CallAt Tryd.prog 56 [.d (eU64 p0)] [] (.d (eB (p0 != p0))) [] := by
 unfold cmp_isNaN_uint64 at h0
 refine fn0 [0] Tryd.func56 rfl rfl rfl rfl rfl ?_
 have q := si h0; subst q
 refine sr (sa rfl (sn (sr (sm rfl (sm rfl (s1 (bi rfl rfl q_u64_neq) (sa rfl (sn (SC.ret ?_)))))))))
 exact finR (Wk.refl _) (lresT rfl lresN) rfl
noncomputable def cmp_Compare_uint64 (p0 : UInt64) (p1 : UInt64) : Option Int :=
 Option.bind (cmp_isNaN_uint64 p0) fun _ =>
 Option.bind (cmp_isNaN_uint64 p1) fun _ =>
 bif (p0 != p0) then
 bif (p1 != p1) then
 some (0 : Int)
 else
 some (-1 : Int)
 else
 bif (p1 != p1) then
 some (1 : Int)
 else
 bif (decide (p0 < p1)) then
 some (-1 : Int)
 else
 bif (decide (p1 < p0)) then
 some (1 : Int)
 else
 some (0 : Int)
theorem cmp_Compare_uint64_ok (p0 : UInt64) (p1 : UInt64) (r : Int) (h0 : cmp_Compare_uint64 p0 p1 = some r) : CallAt Tryd.prog 35 [.d (eU64 p0), .d (eU64 p1)] [] (.d (eI r)) [] := by
 unfold cmp_Compare_uint64 at h0
 refine fn0 [0, 1] Tryd.func35 rfl rfl rfl rfl rfl ?_
 obtain ⟨_, hq6, h0⟩ := ob h0; obtain ⟨_, hq7, h0⟩ := ob h0
 refine sr (sa rfl (sn (sr (sm rfl (c0 (cmp_isNaN_uint64_ok p0 _ hq6) wf rfl rfl rfl cb56 rfl (fun _ => rfl) (fun _ => rfl) (sa rfl (sn (sr (sm rfl ?_)))))))))
 refine c0 (cmp_isNaN_uint64_ok p1 _ hq7) wf rfl rfl rfl cb56 rfl (fun _ => rfl) (fun _ => rfl) (sa rfl (sn (sq (sr (sm rfl (sn (cB h0 rfl (fun h0 => ?_) (fun h0 => ?_))))))))
 ·refine sq (sr (sm rfl (sn (cB h0 rfl (fun h0 => ?_) (fun h0 => ?_)))))
  ·have q := si h0; subst q
   exact sr (sa rfl (sn (SC.ret (finR (Wk.refl _) (lresT rfl lresN) rfl))))
  ·have q := si h0; subst q
   exact sk (sr (sa rfl (sn (SC.ret (finR (Wk.refl _) (lresT rfl lresN) rfl)))))
 ·refine sk (sq (sr (sm rfl (sn (cB h0 rfl (fun h0 => ?_) (fun h0 => ?_))))))
  ·have q := si h0; subst q
   exact sr (sa rfl (sn (SC.ret (finR (Wk.refl _) (lresT rfl lresN) rfl))))
  ·refine sk (sq (sr (sm rfl (sm rfl (s1 (bi rfl rfl q_u64_lss) (sn (cB h0 rfl (fun h0 => ?_) (fun h0 => ?_))))))))
   ·have q := si h0; subst q
    exact sr (sa rfl (sn (SC.ret (finR (Wk.refl _) (lresT rfl lresN) rfl))))
   ·refine sk (sq (sr (sm rfl (sm rfl (s1 (bi rfl rfl q_u64_gtr) (sn (cB h0 rfl (fun h0 => ?_) (fun h0 => ?_))))))))
    ·have q := si h0; subst q
     exact sr (sa rfl (sn (SC.ret (finR (Wk.refl _) (lresT rfl lresN) rfl))))
    ·have q := si h0; subst q
     exact sk (sr (sa rfl (sn (SC.ret (finR (Wk.refl _) (lresT rfl lresN) rfl)))))
noncomputable def cmp_Or_int (p0 : List Int) : Option Int :=
 bindE (Y := Unit) (E := Int)
 (Option.bind (α := Unit ⊕ Int)
 (loop (Y := Int) (W := Unit ⊕ Int) (fun y46 =>
 bif (decide (y46 < (p0.length : Int))) then
 Option.bind (getI p0 y46) fun v51 =>
 bif (v51 != (0 : Int)) then
 some (Sum.inr (Sum.inr v51))
 else
 some (Sum.inl (w64 (y46 + (1 : Int))))
 else
 some (Sum.inr (Sum.inl ()))) (0 : Int))
 (Sum.elim (fun e => some (Sum.inl e)) (fun e => some (Sum.inr e))))
 (fun _ =>
 some (0 : Int))
 (fun e => some e)
theorem cmp_Or_int_ok (p0 : List Int) (r : Int) (h0 : cmp_Or_int p0 = some r) : CallAt Tryd.prog 34 [.d ((eL 1 eI) p0)] [] (.d (eI r)) [] := by
 unfold cmp_Or_int at h0
 refine fn0 [0] Tryd.func34 rfl rfl rfl rfl rfl ?_
 refine sr (sa rfl (sn (sr (sa rfl (sn (SC.seqB h0 (fun y => ⟨mk 18 [(3, .d (eI (0 : Int)))], []⟩) ?_ ?_))))))
 ·intro u1_44 h1 h0
  obtain ⟨u2_50, h2, h1⟩ := ob h1
  refine sr (sm rfl (s1 (len rfl rfl rfl (len_lst un82)) (sm rfl (sn (SC.blk (SC.loopB h2 (fun y => ⟨mk 18 [(3, .d (eI (0 : Int))), (6, .d ((eL 1 eI) p0)), (7, .d (eI (p0.length : Int))), (8, .d (eI y))], []⟩) (wq rfl) ?_))))))
  intro n52
  rintro y46 w2_49 h3 hv3
  refine sr (s1 (bi rfl rfl q_i64_lss) (sn (sq (cB h3 rfl (fun h3 => ?_) (fun h3 => ?_)))))
  ·obtain ⟨v51, hv51, h3⟩ := ob h3
   refine sk (sq (SC.blk (sr (s1 (ial rfl rfl un82 ts3 (getI_some hv51).1 (map_get (getI_some hv51).2) rfl) (s1 (lod rfl (ld_rop ts3 ta3 rfl)) (sa rfl (sn (sr (sm rfl ?_)))))))))
   refine sm rfl (s1 (bi rfl rfl q_i64_neq) (sn (cB h3 rfl (fun h3 => ?_) (fun h3 => ?_))))
   ·have q := si h3; subst q; have q : _ = _ := hv3; subst q; have q := si h1; subst q; have q := si h0; subst q
    exact sr (sm rfl (sa rfl (sn (SC.ret (finR (Wk.refl _) (lresT rfl lresN) rfl)))))
   ·refine SC.skip ?_
    change SC _ _ _ _ _
    have q := si h3; subst q
    exact SC.region (s1 (bi rfl rfl q_i64_add) (sm rfl (SO.nil (lf (wq rfl)))))
  ·have q := si h3; subst q; have q : _ = _ := hv3; subst q; have q := si h1; subst q
   exact SC.exit (lf (wq rfl))
 ·intro _ h0
  have q := si h0; subst q
  exact sr (sm rfl (sa rfl (sn (SC.ret (finR (Wk.refl _) (lresT rfl lresN) rfl)))))
noncomputable def value_Cmp_1 (p0 : ApiValue) (p1 : ApiValue) : Option Int :=
 Option.bind (cmp_Compare_int p0.Kind p1.Kind) fun r39 =>
 Option.bind (α := Int)
 (Option.bind (α := Bool)
 (bif (r39 == (0 : Int)) then
 some (p0.Kind == (1 : Int))
 else
 some false)
 fun y46 =>
 bif y46 then
 Option.bind (cmp_Compare_int64 (i64u p0.N) (i64u p1.N)) fun r49 =>
 some r49
 else
 some r39)
 fun y44 =>
 Option.bind (cmp_Compare_uint64 p0.N p1.N) fun r51 =>
 Option.bind (cmpF p0.S p1.S) fun r53 =>
 Option.bind (cmp_Or_int [y44, r51, r53]) fun r55 =>
 some r55
theorem value_Cmp_1_ok (p0 : ApiValue) (p1 : ApiValue) (r : Int) (h0 : value_Cmp_1 p0 p1 = some r) : CallAt Tryd.prog 14 [.d (eApiValue p0), .d (eApiValue p1)] [] (.d (eI r)) [] := by
 unfold value_Cmp_1 at h0
 refine fn0 [0, 1] Tryd.func14 rfl rfl rfl rfl rfl ?_
 obtain ⟨r39, hq38, h0⟩ := ob h0
 refine sr (s1 (bxo (k := 0) rfl rfl rfl) (s1 (bxo (k := 1) rfl rfl rfl) (sa rfl (sn (sr (s1 (far (k := 0) rfl fo24_0 ts3 rfl) (s1 (lod rfl (ld_box ts3 ta3 rfl rfl)) (s1 (far (k := 0) rfl fo24_0 ts3 rfl) (s1 (lod rfl (ld_box ts3 ta3 rfl rfl)) ?_)))))))))
 refine c0 (cmp_Compare_int_ok p0.Kind p1.Kind _ hq38) wf rfl rfl rfl cb32 rfl (fun _ => rfl) (fun _ => rfl) (sa rfl (sn (SC.seqP h0 (fun y => ⟨mk 38 [(2, .ref 0 0 0), (3, .ref 1 0 0), (5, .d (eI y))], [.box (.d (eApiValue p0)), .box (.d (eApiValue p1))]⟩) ?_ ?_)))
 ·intro u1_45 h1
  refine SC.seqP h1 (fun y => ⟨mk 38 [(2, .ref 0 0 0), (3, .ref 1 0 0), (5, .d (eI r39)), (17, .d (eB y))], [.box (.d (eApiValue p0)), .box (.d (eApiValue p1))]⟩) ?_ ?_
  ·intro u2_47 h2
   refine SC.region (sm rfl (s1 (bi rfl rfl q_i64_eql) (sm rfl (sp h2 (fun h2 => ?_) (fun h2 => ?_)))))
   ·have q := si h2; subst q
    exact gw rfl (far (k := 0) rfl fo24_0 ts3 rfl) (gw rfl (lod rfl (ld_box ts3 ta3 rfl rfl)) (gw rfl (bi rfl rfl q_i64_eql) (s1 (pkt rfl rfl) (SO.nil ((wq rfl))))))
   ·have q := si h2; subst q
    exact kw rfl (kw rfl (kw rfl (s1 (pkf rfl rfl) (SO.nil ((wq rfl))))))
  ·rintro y46 h1
   refine cB h1 rfl (fun h1 => ?_) (fun h1 => ?_)
   ·obtain ⟨r49, hq48, h1⟩ := ob h1; have q := si h1; subst q
    refine SC.region (s1 (far (k := 1) rfl fo24_1 ts22 rfl) (s1 (lod rfl (ld_box ts22 ta22 rfl rfl)) (s1 (cvo rfl (cv_u64_i64 un22 un2 p0.N)) (s1 (far (k := 1) rfl fo24_1 ts22 rfl) (s1 (lod rfl (ld_box ts22 ta22 rfl rfl)) (s1 (cvo rfl (cv_u64_i64 un22 un2 p1.N)) (c0 (cmp_Compare_int64_ok (i64u p0.N) (i64u p1.N) _ hq48) wf rfl rfl rfl cb33 rfl (fun _ => rfl) (fun _ => rfl) (sa rfl (SO.nil ?_)))))))))
    exact (wq rfl)
   ·have q := si h1; subst q
    exact SC.skip ((wq rfl))
 ·rintro y44 h0
  obtain ⟨r51, hq50, h0⟩ := ob h0; obtain ⟨r53, hq52, h0⟩ := ob h0; obtain ⟨r55, hq54, h0⟩ := ob h0; have q := si h0; subst q
  refine sd (by kernel_rfl) (t1 ([], false) (mv rfl) rfl (t1 ([], false) (far (k := 1) rfl fo24_1 ts22 rfl) rfl (t1 ([0], false) (lod rfl (ld_box ts22 ta22 rfl rfl)) rfl (t1 ([], false) (far (k := 1) rfl fo24_1 ts22 rfl) rfl (t1 ([1], false) (lod rfl (ld_box ts22 ta22 rfl rfl)) rfl (tc0 (cmp_Compare_uint64_ok p0.N p1.N _ hq50) wf rfl rfl rfl cb35 rfl (fun _ => rfl) (fun _ => rfl) (t1 ([], false) (far (k := 2) rfl fo24_2 ts9 rfl) rfl (t1 ([0], false) (lod rfl (ld_box ts9 ta9 rfl rfl)) rfl (t1 ([], false) (far (k := 2) rfl fo24_2 ts9 rfl) rfl ?_)))))))))
  exact t1 ([1], false) (lod rfl (ld_box ts9 ta9 rfl rfl)) rfl (tc0 (cmp_ok p0.S p1.S _ hq52) wf rfl rfl rfl cb36 rfl (fun _ => rfl) (fun _ => rfl) (t1 ([2], true) (bsn (k := 2) (ds := List.map eI [y44, r51, r53]) (off := 0) (l' := [y44, r51, r53].length) rfl un82 ei3 rfl rfl (by rfl) rfl rfl rfl) rfl (tq (args' := [.slc 0 1 0 ([y44, r51, r53].length) none]) (σc := [.row 1 (List.map eI [y44, r51, r53]) true]) [2] [] ([2], true) (CallAt.frz (ArgF.frz (fF rfl rfl rfl) (ArgF.nil _)) (fq [] [] (cmp_Or_int_ok [y44, r51, r53] _ hq54) rfl rfl rfl rfl rfl rfl rfl rfl)) wf rfl rfl rfl cb34 rfl rfl rfl rfl rfl rfl rfl rfl rfl (t1 ([], false) (asg rfl) rfl (tn (by decide +kernel) (SC.ret (finR (wc (e' := [(4, .d (eI r55))]) [] [] (by kernel_rfl) rfl (by kernel_rfl)) (lresT rfl lresN) rfl)))))))
noncomputable def value_Name (p0 : List UInt8) : Option Bool :=
 Option.bind (α := Bool)
 (bif (p0 == ([] : List UInt8)) then
 some true
 else
 some (decide ((p0.length : Int) > (16 : Int))))
 fun y88 =>
 bif y88 then
 some false
 else
 bindE (Y := Unit) (E := Bool)
 (Option.bind (α := Unit ⊕ Bool)
 (loop (Y := Int) (W := Unit ⊕ Bool) (fun y116 =>
 bif (decide (y116 < (p0.length : Int))) then
 Option.bind (getI p0 y116) fun v125 =>
 Option.bind (α := Bool)
 (bif (decide ((97 : UInt8) ≤ v125)) then
 some (decide (v125 ≤ (122 : UInt8)))
 else
 some false)
 fun y126 =>
 Option.bind (α := Bool)
 (bif (!y126) then
 bif (y116 == (0 : Int)) then
 some true
 else
 bif (v125 != (95 : UInt8)) then
 bif (decide (v125 < (48 : UInt8))) then
 some true
 else
 some (decide ((57 : UInt8) < v125))
 else
 some false
 else
 some false)
 fun y128 =>
 bif y128 then
 some (Sum.inr (Sum.inr false))
 else
 some (Sum.inl (w64 (y116 + (1 : Int))))
 else
 some (Sum.inr (Sum.inl ()))) (0 : Int))
 (Sum.elim (fun e => some (Sum.inl e)) (fun e => some (Sum.inr e))))
 (fun _ =>
 some true)
 (fun e => some e)
theorem value_Name_ok (p0 : List UInt8) (r : Bool) (h0 : value_Name p0 = some r) : CallAt Tryd.prog 18 [.d (eS p0)] [] (.d (eB r)) [] := by
 unfold value_Name at h0
 refine fn0 [0] Tryd.func18 rfl rfl rfl rfl rfl ?_
 refine sr (sa rfl (sn (sq (SC.seqP h0 (fun y => ⟨mk 46 [(0, .d (eS p0)), (12, .d (eB y))], []⟩) ?_ ?_))))
 ·intro u1_89 h1
  refine SC.region (sm rfl (s1 (bi rfl rfl (q_str_eql (b := ([] : List UInt8)))) (sm rfl (sp h1 (fun h1 => ?_) (fun h1 => ?_)))))
  ·have q := si h1; subst q
   exact kw rfl (kw rfl (kw rfl (s1 (pkt rfl rfl) (SO.nil ((wq rfl))))))
  ·have q := si h1; subst q
   exact gw rfl (mv rfl) (gw rfl (len rfl rfl rfl (len_str un9)) (gw rfl (bi rfl rfl q_i64_gtr) (s1 (pkf rfl rfl) (SO.nil ((wq rfl))))))
 ·rintro y88 h0
  refine cB h0 rfl (fun h0 => ?_) (fun h0 => ?_)
  ·have q := si h0; subst q
   exact sr (sa rfl (sn (SC.ret (finR (Wk.refl _) (lresT rfl lresN) rfl))))
  ·refine sk (SC.seqB h0 (fun y => ⟨mk 46 [], []⟩) ?_ ?_)
   ·intro u1_110 h1 h0
    obtain ⟨u2_124, h2, h1⟩ := ob h1
    refine sr (sm rfl (s1 (len rfl rfl rfl (len_str un9)) (sm rfl (sn (SC.blk (SC.loopB h2 (fun y => ⟨mk 46 [(0, .d (eS p0)), (14, .d (eI (p0.length : Int))), (15, .d (eI y))], []⟩) (wq rfl) ?_))))))
    intro n130
    rintro y116 w2_123 h3 hv3
    refine sr (s1 (bi rfl rfl q_i64_lss) (sn (sq (cB h3 rfl (fun h3 => ?_) (fun h3 => ?_)))))
    ·obtain ⟨v125, hv125, h3⟩ := ob h3
     refine sk (sq (SC.blk (sr (sm rfl (sa rfl (sn (sr (sm rfl (sm rfl ?_)))))))))
     refine s1 (ixs rfl rfl rfl rfl (ix_str un9 (getI_some hv125).1 (getI_some hv125).2)) (sa rfl (sn (SC.seqP h3 (fun y => ⟨mk 46 [(0, .d (eS p0)), (3, .d (eI y116)), (4, .d (eU8 v125)), (5, .d (eB y)), (14, .d (eI (p0.length : Int))), (15, .d (eI y116))], []⟩) ?_ ?_)))
     ·intro u4_127 h4
      refine SC.region (sm rfl (s1 (bi rfl rfl (q_u8_geq (b := (97 : UInt8)))) (sm rfl (sp h4 (fun h4 => ?_) (fun h4 => ?_)))))
      ·have q := si h4; subst q
       exact gw rfl (mv rfl) (gw rfl (bi rfl rfl (q_u8_leq (b := (122 : UInt8)))) (s1 (pkt rfl rfl) (sa rfl (SO.nil ((wq rfl))))))
      ·have q := si h4; subst q
       exact kw rfl (kw rfl (s1 (pkf rfl rfl) (sa rfl (SO.nil ((wq rfl))))))
     ·rintro y126 h3
      refine SC.seqP h3 (fun y => ⟨mk 46 [(0, .d (eS p0)), (14, .d (eI (p0.length : Int))), (15, .d (eI y116)), (44, .d (eB y))], []⟩) ?_ ?_
      ·intro u4_129 h4
       refine SC.region (sm rfl (s1 (nt rfl) (sm rfl (sp h4 (fun h4 => ?_) (fun h4 => ?_)))))
       ·refine gw rfl (mv rfl) (gw rfl (bi rfl rfl q_i64_eql) (gw rfl (mv rfl) (sp h4 (fun h4 => ?_) (fun h4 => ?_))))
        ·have q := si h4; subst q
         refine kw rfl (kw rfl (kw rfl (kw rfl (kw rfl (kw rfl (kw rfl (kw rfl (kw rfl (kw rfl ?_)))))))))
         exact gw rfl (pkt rfl rfl) (s1 (pkt rfl rfl) (SO.nil ((wq rfl))))
        ·refine gw rfl (mv rfl) (gw rfl (bi rfl rfl (q_u8_neq (b := (95 : UInt8)))) (gw rfl (mv rfl) (sp h4 (fun h4 => ?_) (fun h4 => ?_))))
         ·refine gw rfl (mv rfl) (gw rfl (bi rfl rfl (q_u8_lss (b := (48 : UInt8)))) (gw rfl (mv rfl) (sp h4 (fun h4 => ?_) (fun h4 => ?_))))
          ·have q := si h4; subst q
           exact kw rfl (kw rfl (gw rfl (pkt rfl rfl) (gw rfl (pkt rfl rfl) (gw rfl (pkf rfl rfl) (s1 (pkt rfl rfl) (SO.nil ((wq rfl))))))))
          ·have q := si h4; subst q
           exact gw rfl (mv rfl) (gw rfl (bi rfl rfl (q_u8_gtr (b := (57 : UInt8)))) (gw rfl (pkf rfl rfl) (gw rfl (pkt rfl rfl) (gw rfl (pkf rfl rfl) (s1 (pkt rfl rfl) (SO.nil ((wq rfl))))))))
         ·have q := si h4; subst q
          refine kw rfl (kw rfl (kw rfl (kw rfl (kw rfl (kw rfl (gw rfl (pkf rfl rfl) (gw rfl (pkf rfl rfl) (s1 (pkt rfl rfl) (SO.nil ?_)))))))))
          exact (wq rfl)
       ·have q := si h4; subst q
        refine kw rfl (kw rfl (kw rfl (kw rfl (kw rfl (kw rfl (kw rfl (kw rfl (kw rfl (kw rfl ?_)))))))))
        exact kw rfl (kw rfl (kw rfl (kw rfl (s1 (pkf rfl rfl) (SO.nil ((wq rfl)))))))
      ·rintro y128 h3
       refine cB h3 rfl (fun h3 => ?_) (fun h3 => ?_)
       ·have q := si h3; subst q; have q : _ = _ := hv3; subst q; have q := si h1; subst q; have q := si h0; subst q
        exact sr (sa rfl (sn (SC.ret (finR (Wk.refl _) (lresT rfl lresN) rfl))))
       ·refine SC.skip ?_
        change SC _ _ _ _ _
        have q := si h3; subst q
        exact SC.region (s1 (bi rfl rfl q_i64_add) (sm rfl (SO.nil (lf (wq rfl)))))
    ·have q := si h3; subst q; have q : _ = _ := hv3; subst q; have q := si h1; subst q
     exact SC.exit (lf (wq rfl))
   ·intro _ h0
    have q := si h0; subst q
    exact sr (sa rfl (sn (SC.ret (finR (Wk.refl _) (lresT rfl lresN) rfl))))
noncomputable def value_long (p0 : Int) : Option Bool :=
 Option.bind (α := Bool)
 (bif (p0 == (4 : Int)) then
 some true
 else
 some (p0 == (5 : Int)))
 fun y6 =>
 some y6
theorem value_long_ok (p0 : Int) (r : Bool) (h0 : value_long p0 = some r) : CallAt Tryd.prog 37 [.d (eI p0)] [] (.d (eB r)) [] := by
 unfold value_long at h0
 refine fn0 [0] Tryd.func37 rfl rfl rfl rfl rfl ?_
 refine sr (sa rfl (sn (SC.seqP h0 (fun y => ⟨mk 9 [(2, .d (eB y))], []⟩) ?_ ?_)))
 ·intro u1_7 h1
  refine SC.region (sm rfl (s1 (bi rfl rfl q_i64_eql) (sm rfl (sp h1 (fun h1 => ?_) (fun h1 => ?_)))))
  ·have q := si h1; subst q
   exact kw rfl (kw rfl (s1 (pkt rfl rfl) (sa rfl (SO.nil ((wq rfl))))))
  ·have q := si h1; subst q
   exact gw rfl (mv rfl) (gw rfl (bi rfl rfl q_i64_eql) (s1 (pkf rfl rfl) (sa rfl (SO.nil ((wq rfl))))))
 ·rintro y6 h0
  have q := si h0; subst q
  exact SC.ret (finR (Wk.refl _) (lresT rfl lresN) rfl)
noncomputable def value_Fits (p0 : ApiColumn) (p1 : ApiValue) : Option Int :=
 Option.bind (value_Valid p1) fun r19 =>
 bif (!r19) then
 some (8 : Int)
 else
 bif (p1.Kind == (0 : Int)) then
 bif p0.Nulls then
 some (0 : Int)
 else
 some (8 : Int)
 else
 bif (p1.Kind != p0.Kind) then
 some (8 : Int)
 else
 Option.bind (α := Bool)
 (Option.bind (value_long p1.Kind) fun r25 =>
 bif r25 then
 some (decide ((p1.S.length : Int) > p0.Max))
 else
 some false)
 fun y22 =>
 bif y22 then
 some (7 : Int)
 else
 some (0 : Int)
theorem value_Fits_ok (p0 : ApiColumn) (p1 : ApiValue) (r : Int) (h0 : value_Fits p0 p1 = some r) : CallAt Tryd.prog 15 [.d (eApiColumn p0), .d (eApiValue p1)] [] (.d (eI r)) [] := by
 unfold value_Fits at h0
 refine fn0 [0, 1] Tryd.func15 rfl rfl rfl rfl rfl ?_
 obtain ⟨r19, hq18, h0⟩ := ob h0
 refine sr (s1 (bxo (k := 0) rfl rfl rfl) (s1 (bxo (k := 1) rfl rfl rfl) (sa rfl (sn (sq (SC.blk (sr (s1 (lod (v := .d (eApiValue p1)) rfl (ld_box ts24 ta24 rfl rfl)) (c0 (value_Valid_ok p1 _ hq18) wf rfl rfl rfl cb13 rfl (fun _ => rfl) (fun _ => rfl) ?_)))))))))
 refine s1 (nt rfl) (sa rfl (sn (cB h0 rfl (fun h0 => ?_) (fun h0 => ?_))))
 ·have q := si h0; subst q
  exact sr (sa rfl (sn (SC.ret (finR (wc (e' := [(4, .d (eI (8 : Int)))]) [] [] (by kernel_rfl) rfl (by kernel_rfl)) (lresT rfl lresN) rfl))))
 ·refine sr (s1 (far (k := 0) rfl fo24_0 ts3 rfl) (s1 (lod rfl (ld_box ts3 ta3 rfl rfl)) (s1 (bi rfl rfl q_i64_eql) (sa rfl (sn (cB h0 rfl (fun h0 => ?_) (fun h0 => ?_)))))))
  ·refine sq (sr (s1 (far (k := 3) rfl fo35_3 ts4 rfl) (s1 (lod rfl (ld_box ts4 ta4 rfl rfl)) (sn (cB h0 rfl (fun h0 => ?_) (fun h0 => ?_))))))
   ·have q := si h0; subst q
    exact sr (sa rfl (sn (SC.ret (finR (wc (e' := [(4, .d (eI (0 : Int)))]) [] [] (by kernel_rfl) rfl (by kernel_rfl)) (lresT rfl lresN) rfl))))
   ·have q := si h0; subst q
    exact sk (sr (sa rfl (sn (SC.ret (finR (wc (e' := [(4, .d (eI (8 : Int)))]) [] [] (by kernel_rfl) rfl (by kernel_rfl)) (lresT rfl lresN) rfl)))))
  ·refine sr (s1 (far (k := 0) rfl fo24_0 ts3 rfl) (s1 (lod rfl (ld_box ts3 ta3 rfl rfl)) (s1 (far (k := 1) rfl fo35_1 ts3 rfl) (s1 (lod rfl (ld_box ts3 ta3 rfl rfl)) (s1 (bi rfl rfl q_i64_neq) (sa rfl (sn (cB h0 rfl (fun h0 => ?_) (fun h0 => ?_)))))))))
   ·have q := si h0; subst q
    exact sr (sa rfl (sn (SC.ret (finR (wc (e' := [(4, .d (eI (8 : Int)))]) [] [] (by kernel_rfl) rfl (by kernel_rfl)) (lresT rfl lresN) rfl))))
   ·refine SC.seqP h0 (fun y => ⟨mk 33 [(21, .d (eB y))], []⟩) ?_ ?_
    ·intro u1_23 h1
     obtain ⟨r25, hq24, h1⟩ := ob h1
     refine SC.region (s1 (far (k := 0) rfl fo24_0 ts3 rfl) (s1 (lod rfl (ld_box ts3 ta3 rfl rfl)) (c0 (value_long_ok p1.Kind _ hq24) wf rfl rfl rfl cb37 rfl (fun _ => rfl) (fun _ => rfl) (sm rfl (sp h1 (fun h1 => ?_) (fun h1 => ?_))))))
     ·have q := si h1; subst q
      exact gw rfl (far (k := 2) rfl fo24_2 ts9 rfl) (gw rfl (lod rfl (ld_box ts9 ta9 rfl rfl)) (gw rfl (len rfl rfl rfl (len_str un9)) (gw rfl (far (k := 2) rfl fo35_2 ts3 rfl) (gw rfl (lod rfl (ld_box ts3 ta3 rfl rfl)) (gw rfl (bi rfl rfl q_i64_gtr) (s1 (pkt rfl rfl) (sa rfl (SO.nil ((wc [] [] (by kernel_rfl) rfl (by kernel_rfl)))))))))))
     ·have q := si h1; subst q
      exact kw rfl (kw rfl (kw rfl (kw rfl (kw rfl (kw rfl (s1 (pkf rfl rfl) (sa rfl (SO.nil ((wc [] [] (by kernel_rfl) rfl (by kernel_rfl)))))))))))
    ·rintro y22 h0
     refine cB h0 rfl (fun h0 => ?_) (fun h0 => ?_)
     ·have q := si h0; subst q
      exact sr (sa rfl (sn (SC.ret (finR (Wk.refl _) (lresT rfl lresN) rfl))))
     ·refine SC.skip ?_
      change SC _ _ _ _ _
      have q := si h0; subst q
      exact sr (sa rfl (sn (SC.ret (finR (Wk.refl _) (lresT rfl lresN) rfl))))
noncomputable def law06_awake_1 : Option Bool :=
 Option.bind (value_Parse_1 ([53, 117] : List UInt8)) fun (r45, r46) =>
 Option.bind (α := Bool)
 (bif (r45 == (0 : Int)) then
 bif (eqApiValue r46 (ApiValue.mk (2 : Int) (5 : UInt64) ([] : List UInt8))) then
 Option.bind (value_Text (ApiValue.mk (5 : Int) (0 : UInt64) ([97, 32, 98] : List UInt8))) fun r58 =>
 bif (r58 == ([34, 97, 92, 50, 48, 98, 34] : List UInt8)) then
 Option.bind (value_Cmp_1 (ApiValue.mk (1 : Int) (1 : UInt64) ([] : List UInt8)) (ApiValue.mk (0 : Int) (0 : UInt64) ([] : List UInt8))) fun r60 =>
 bif (r60 == (1 : Int)) then
 Option.bind (value_Name ([97, 95, 49] : List UInt8)) fun r62 =>
 bif r62 then
 Option.bind (value_Fits (ApiColumn.mk ([] : List UInt8) (1 : Int) (0 : Int) false (ApiValue.mk (0 : Int) (0 : UInt64) ([] : List UInt8))) r46) fun r64 =>
 some (r64 == (8 : Int))
 else
 some false
 else
 some false
 else
 some false
 else
 some false
 else
 some false)
 fun y55 =>
 some y55
theorem law06_awake_1_ok (r : Bool) (h0 : law06_awake_1 = some r) : CallAt Tryd.prog 8 [] [] (.d (eB r)) [] := by
 unfold law06_awake_1 at h0
 refine fn0 [] Tryd.func8 rfl rfl rfl rfl rfl ?_
 obtain ⟨⟨r45, r46⟩, hq44, h0⟩ := ob h0
 refine sr (sa rfl (sn (sr (cq [] [0] (value_Parse_1_ok ([53, 117] : List UInt8) _ hq44) wf rfl rfl rfl cb10 rfl rfl rfl rfl rfl rfl rfl rfl (sm rfl (s1 (ext rfl rfl) (s1 (ext rfl rfl) (s1 (alo (k := 1) zo24 rfl) (s0 (sto rfl rfl (sB (d' := .d (eApiValue r46)) ts24 rfl rfl rfl rfl rfl rfl rfl)) ?_)))))))))
 refine sa rfl (sn (SC.seqP h0 (fun y => ⟨mk 34 [(0, .d (eB y))], []⟩) ?_ ?_))
 ·intro u1_56 h1
  refine SC.region (sm rfl (s1 (bi rfl rfl q_i64_eql) (sm rfl (sp h1 (fun h1 => ?_) (fun h1 => ?_)))))
  ·refine gw rfl (lod (v := .d (eApiValue r46)) rfl (ld_box ts24 ta24 rfl rfl)) (gw rfl (bld rfl (bd24_0_1 (2 : Int) (5 : UInt64))) (gw rfl (bi (v := .d (eB (eqApiValue r46 (ApiValue.mk (2 : Int) (5 : UInt64) ([] : List UInt8))))) rfl rfl (fun X Y => eqApiValue_eql_24 X Y r46 (ApiValue.mk (2 : Int) (5 : UInt64) ([] : List UInt8)))) (s1 (pkt rfl rfl) (sm rfl (sp h1 (fun h1 => ?_) (fun h1 => ?_))))))
   ·obtain ⟨r58, hq57, h1⟩ := ob h1
    refine gw rfl (bld rfl (bd24_0_2 (5 : Int) ([97, 32, 98] : List UInt8))) (c0 (value_Text_ok (ApiValue.mk (5 : Int) (0 : UInt64) ([97, 32, 98] : List UInt8)) _ hq57) (ww rfl) rfl rfl rfl cb9 rfl (fun _ => rfl) (fun _ => rfl) (gw rfl (bi rfl rfl (q_str_eql (b := ([34, 97, 92, 50, 48, 98, 34] : List UInt8)))) (s1 (pkt rfl rfl) (sm rfl (sp h1 (fun h1 => ?_) (fun h1 => ?_))))))
    ·obtain ⟨r60, hq59, h1⟩ := ob h1
     refine gw rfl (bld rfl (bd24_0_1 (1 : Int) (1 : UInt64))) (gw rfl (bld rfl (bd24_ )) (c0 (value_Cmp_1_ok (ApiValue.mk (1 : Int) (1 : UInt64) ([] : List UInt8)) (ApiValue.mk (0 : Int) (0 : UInt64) ([] : List UInt8)) _ hq59) (ww rfl) rfl rfl rfl cb14 rfl (fun _ => rfl) (fun _ => rfl) (gw rfl (bi rfl rfl q_i64_eql) (s1 (pkt rfl rfl) (sm rfl (sp h1 (fun h1 => ?_) (fun h1 => ?_)))))))
     ·obtain ⟨r62, hq61, h1⟩ := ob h1
      refine c0 (value_Name_ok ([97, 95, 49] : List UInt8) _ hq61) (ww rfl) rfl rfl rfl cb18 rfl (fun _ => rfl) (fun _ => rfl) (s1 (pkt rfl rfl) (sm rfl (sp h1 (fun h1 => ?_) (fun h1 => ?_))))
      ·obtain ⟨r64, hq63, h1⟩ := ob h1; have q := si h1; subst q
       exact gw rfl (bld rfl (bd35_1 (1 : Int))) (gw rfl (lod (v := .d (eApiValue r46)) rfl (ld_box ts24 ta24 rfl rfl)) (c0 (value_Fits_ok (ApiColumn.mk ([] : List UInt8) (1 : Int) (0 : Int) false (ApiValue.mk (0 : Int) (0 : UInt64) ([] : List UInt8))) r46 _ hq63) (ww rfl) rfl rfl rfl cb15 rfl (fun _ => rfl) (fun _ => rfl) (gw rfl (bi rfl rfl q_i64_eql) (s1 (pkt rfl rfl) (sa rfl (SO.nil ((wc [] [] (by kernel_rfl) rfl (by kernel_rfl)))))))))
      ·have q := si h1; subst q
       exact kw rfl (kw rfl (kw rfl (kw rfl (s1 (pkf rfl rfl) (sa rfl (SO.nil ((wc [] [] (by kernel_rfl) rfl (by kernel_rfl)))))))))
     ·have q := si h1; subst q
      refine kw rfl (s1 (pkf rfl rfl) (sm rfl (kw rfl (kw rfl (kw rfl (kw rfl (s1 (pkf rfl rfl) (sa rfl (SO.nil ?_)))))))))
      exact (wc [] [] (by kernel_rfl) rfl (by kernel_rfl))
    ·have q := si h1; subst q
     refine kw rfl (kw rfl (kw rfl (kw rfl (s1 (pkf rfl rfl) (sm rfl (kw rfl (s1 (pkf rfl rfl) (sm rfl (kw rfl ?_)))))))))
     exact kw rfl (kw rfl (kw rfl (s1 (pkf rfl rfl) (sa rfl (SO.nil ((wc [] [] (by kernel_rfl) rfl (by kernel_rfl))))))))
   ·have q := si h1; subst q
    refine kw rfl (kw rfl (kw rfl (s1 (pkf rfl rfl) (sm rfl (kw rfl (kw rfl (kw rfl (kw rfl (s1 (pkf rfl rfl) ?_)))))))))
    refine sm rfl (kw rfl (s1 (pkf rfl rfl) (sm rfl (kw rfl (kw rfl (kw rfl (kw rfl (s1 (pkf rfl rfl) (sa rfl ?_)))))))))
    exact SO.nil ((wc [] [] (by kernel_rfl) rfl (by kernel_rfl)))
  ·have q := si h1; subst q
   refine kw rfl (kw rfl (kw rfl (s1 (pkf rfl rfl) (sm rfl (kw rfl (kw rfl (kw rfl (s1 (pkf rfl rfl) (sm rfl ?_)))))))))
   refine kw rfl (kw rfl (kw rfl (kw rfl (s1 (pkf rfl rfl) (sm rfl (kw rfl (s1 (pkf rfl rfl) (sm rfl (kw rfl ?_)))))))))
   exact kw rfl (kw rfl (kw rfl (s1 (pkf rfl rfl) (sa rfl (SO.nil ((wc [] [] (by kernel_rfl) rfl (by kernel_rfl))))))))
 ·rintro y55 h0
  have q := si h0; subst q
  exact SC.ret (finR (Wk.refl _) (lresT rfl lresN) rfl)
noncomputable def ref06_half (p0 : UInt8) : Option Int :=
 bindE (Y := Unit) (E := Int)
 (Option.bind (α := Unit ⊕ Int)
 (loop (Y := Int) (W := Unit ⊕ Int) (fun y46 =>
 bif (decide (y46 < (16 : Int))) then
 Option.bind (getI ([48, 49, 50, 51, 52, 53, 54, 55, 56, 57, 97, 98, 99, 100, 101, 102] : List UInt8) y46) fun v51 =>
 bif (v51 == p0) then
 some (Sum.inr (Sum.inr y46))
 else
 some (Sum.inl (w64 (y46 + (1 : Int))))
 else
 some (Sum.inr (Sum.inl ()))) (0 : Int))
 (Sum.elim (fun e => some (Sum.inl e)) (fun e => some (Sum.inr e))))
 (fun _ =>
 some (16 : Int))
 (fun e => some e)
theorem ref06_half_ok (p0 : UInt8) (r : Int) (h0 : ref06_half p0 = some r) : CallAt Tryd.prog 52 [.d (eU8 p0)] [] (.d (eI r)) [] := by
 unfold ref06_half at h0
 refine fn0 [0] Tryd.func52 rfl rfl rfl rfl rfl ?_
 refine sr (sa rfl (sn (SC.seqB h0 (fun y => ⟨mk 13 [], []⟩) ?_ ?_)))
 ·intro u1_44 h1 h0
  obtain ⟨u2_50, h2, h1⟩ := ob h1
  refine sr (sa rfl (sn (SC.blk (SC.loopB h2 (fun y => ⟨mk 13 [(0, .d (eU8 p0)), (3, .d (eI y))], []⟩) (wq rfl) ?_))))
  intro n52
  rintro y46 w2_49 h3 hv3
  refine sq (sr (sm rfl (s1 (bi rfl rfl q_i64_lss) (sn (cB h3 rfl (fun h3 => ?_) (fun h3 => ?_))))))
  ·obtain ⟨v51, hv51, h3⟩ := ob h3
   refine sk (sq (SC.blk (sr (sm rfl (s1 (ixs rfl rfl rfl rfl (ix_str un9 (getI_some hv51).1 (getI_some hv51).2)) (sm rfl (s1 (bi rfl rfl q_u8_eql) (sn (cB h3 rfl (fun h3 => ?_) (fun h3 => ?_))))))))))
   ·have q := si h3; subst q; have q : _ = _ := hv3; subst q; have q := si h1; subst q; have q := si h0; subst q
    exact sr (sm rfl (sa rfl (sn (SC.ret (finR (Wk.refl _) (lresT rfl lresN) rfl)))))
   ·refine SC.skip ?_
    change SC _ _ _ _ _
    have q := si h3; subst q
    exact SC.region (sm rfl (s1 (bi rfl rfl q_i64_add) (sa rfl (SO.nil (lf (wq rfl))))))
  ·have q := si h3; subst q; have q : _ = _ := hv3; subst q; have q := si h1; subst q
   exact SC.exit (lf (wq rfl))
 ·intro _ h0
  have q := si h0; subst q
  exact sr (sa rfl (sn (SC.ret (finR (Wk.refl _) (lresT rfl lresN) rfl))))
noncomputable def ref06_guess (p0 : List UInt8) : Option ApiValue :=
 bindE (Y := Unit) (E := ApiValue)
 (Option.bind (α := Bool)
 (bif (p0 == ([116, 114, 117, 101] : List UInt8)) then
 some true
 else
 some (p0 == ([102, 97, 108, 115, 101] : List UInt8)))
 fun y1181 =>
 bif y1181 then
 Option.bind (α := ApiValue)
 (bif (p0 == ([116, 114, 117, 101] : List UInt8)) then
 some (ApiValue.mk (3 : Int) (1 : UInt64) ([] : List UInt8))
 else
 some (ApiValue.mk (3 : Int) (0 : UInt64) ([] : List UInt8)))
 fun y1183 =>
 some (Sum.inr y1183)
 else
 Option.bind (α := Bool)
 (bif (decide ((p0.length : Int) > (0 : Int))) then
 Option.bind (getI p0 (0 : Int)) fun v1188 =>
 some (v1188 == (120 : UInt8))
 else
 some false)
 fun y1186 =>
 bif y1186 then
 Option.bind (α := (List UInt8))
 (Option.bind (α := (List UInt8))
 (loop (Y := (List UInt8) × Int) (W := (List UInt8)) (fun (y1226, y1227) =>
 bif (decide ((w64 (y1227 + (1 : Int))) < (p0.length : Int))) then
 Option.bind (getI p0 y1227) fun v1239 =>
 Option.bind (ref06_half v1239) fun r1241 =>
 Option.bind (getI p0 (w64 (y1227 + (1 : Int)))) fun v1242 =>
 Option.bind (ref06_half v1242) fun r1244 =>
 bif decide ((y1226.length + [(u8i (w64 ((w64 (r1241 * (16 : Int))) + r1244)))].length) * 1 ≤ room) then
 some (Sum.inl ((y1226 ++ [(u8i (w64 ((w64 (r1241 * (16 : Int))) + r1244)))]), (w64 (y1227 + (2 : Int)))))
 else none
 else
 some (Sum.inr y1226)) (([] : List UInt8), (1 : Int)))
 (fun e => some e))
 fun y1217 =>
 some (Sum.inr (ApiValue.mk (4 : Int) (0 : UInt64) y1217))
 else
 Option.bind (α := Bool)
 (bif (decide ((p0.length : Int) > (1 : Int))) then
 Option.bind (getI p0 (0 : Int)) fun v1250 =>
 some (v1250 == (34 : UInt8))
 else
 some false)
 fun y1248 =>
 bif y1248 then
 Option.bind (α := (List UInt8))
 (Option.bind (α := (List UInt8))
 (loop (Y := (List UInt8) × Int) (W := (List UInt8)) (fun (y1344, y1345) =>
 bif (decide (y1345 < (w64 ((p0.length : Int) - (1 : Int))))) then
 Option.bind (getI p0 y1345) fun v1371 =>
 Option.bind (α := Int × UInt8)
 (Option.bind (α := Bool)
 (bif (v1371 == (92 : UInt8)) then
 some (decide ((w64 (y1345 + (2 : Int))) < (p0.length : Int)))
 else
 some false)
 fun y1383 =>
 bif y1383 then
 Option.bind (getI p0 (w64 (y1345 + (1 : Int)))) fun v1385 =>
 Option.bind (ref06_half v1385) fun r1387 =>
 Option.bind (getI p0 (w64 (y1345 + (2 : Int)))) fun v1388 =>
 Option.bind (ref06_half v1388) fun r1390 =>
 some ((w64 (y1345 + (2 : Int))), (u8i (w64 ((w64 (r1387 * (16 : Int))) + r1390))))
 else
 some (y1345, v1371))
 fun (y1380, y1381) =>
 bif decide ((y1344.length + [y1381].length) * 1 ≤ room) then
 some (Sum.inl ((y1344 ++ [y1381]), (w64 (y1380 + (1 : Int)))))
 else none
 else
 some (Sum.inr y1344)) (([] : List UInt8), (1 : Int)))
 (fun e => some e))
 fun y1321 =>
 some (Sum.inr (ApiValue.mk (5 : Int) (0 : UInt64) y1321))
 else
 bif (p0 == ([110, 117, 108, 108] : List UInt8)) then
 some (Sum.inr (ApiValue.mk (0 : Int) (0 : UInt64) ([] : List UInt8)))
 else
 some (Sum.inl ()))
 (fun _ =>
 Option.bind (α := (List UInt8) × Int × ApiValue)
 (Option.bind (α := Bool)
 (bif (decide ((p0.length : Int) > (0 : Int))) then
 Option.bind (getI p0 (w64 ((p0.length : Int) - (1 : Int)))) fun v1409 =>
 some (v1409 == (117 : UInt8))
 else
 some false)
 fun y1407 =>
 bif y1407 then
 bif decide (0 ≤ (w64 ((p0.length : Int) - (1 : Int))) ∧ (w64 ((p0.length : Int) - (1 : Int))) ≤ (p0.length : Int)) then
 some ((List.take (w64 ((p0.length : Int) - (1 : Int))).toNat p0), (0 : Int), (ApiValue.mk (2 : Int) (0 : UInt64) ([] : List UInt8)))
 else none
 else
 Option.bind (α := Bool)
 (bif (decide ((p0.length : Int) > (0 : Int))) then
 Option.bind (getI p0 (0 : Int)) fun v1414 =>
 some (v1414 == (45 : UInt8))
 else
 some false)
 fun y1412 =>
 bif y1412 then
 some (p0, (1 : Int), (ApiValue.mk (1 : Int) (0 : UInt64) ([] : List UInt8)))
 else
 some (p0, (0 : Int), (ApiValue.mk (1 : Int) (0 : UInt64) ([] : List UInt8))))
 fun (y1402, y1403, y1404) =>
 Option.bind (α := ApiValue)
 (Option.bind (α := ApiValue)
 (loop (Y := Int × ApiValue) (W := ApiValue) (fun (y1436, y1437) =>
 Option.bind (α := Bool)
 (bif (decide (y1436 < (y1402.length : Int))) then
 some (decide (y1436 < (30 : Int)))
 else
 some false)
 fun y1445 =>
 bif y1445 then
 Option.bind (getI y1402 y1436) fun v1447 =>
 some (Sum.inl ((w64 (y1436 + (1 : Int))), (ApiValue.mk y1437.Kind (((y1437.N * (10 : UInt64)) + (v1447.toUInt64)) - (48 : UInt64)) y1437.S)))
 else
 some (Sum.inr y1437)) (y1403, y1404))
 (fun e => some e))
 fun y1431 =>
 Option.bind (α := ApiValue)
 (bif (y1403 == (1 : Int)) then
 some (ApiValue.mk y1431.Kind (0 - y1431.N) y1431.S)
 else
 some y1431)
 fun y1449 =>
 some y1449)
 (fun e => some e)
theorem ref06_guess_ok (p0 : List UInt8) (r : ApiValue) (h0 : ref06_guess p0 = some r) : CallAt Tryd.prog 29 [.d (eS p0)] [] (.d (eApiValue r)) [.box (.d (eApiValue r))] := by
 unfold ref06_guess at h0
 refine fn0 [0] Tryd.func29 rfl rfl rfl rfl rfl ?_
 refine sr (s1 (alo (k := 0) zo24 rfl) (sn (SC.seqB h0 (fun y => ⟨mk 166 [(0, .d (eS p0)), (2, .ref 0 0 0)], [.box (.d (eApiValue (ApiValue.mk (0 : Int) (0 : UInt64) ([] : List UInt8))))]⟩) ?_ ?_)))
 ·intro u1_1180 h1 h0
  refine SC.blk (SC.seqP h1 (fun y => ⟨mk 166 [(0, .d (eS p0)), (2, .ref 0 0 0), (12, .d (eB y))], [.box (.d (eApiValue (ApiValue.mk (0 : Int) (0 : UInt64) ([] : List UInt8))))]⟩) ?_ ?_)
  ·intro u2_1182 h2
   refine SC.region (sm rfl (s1 (bi rfl rfl (q_str_eql (b := ([116, 114, 117, 101] : List UInt8)))) (sm rfl (sp h2 (fun h2 => ?_) (fun h2 => ?_)))))
   ·have q := si h2; subst q
    exact kw rfl (kw rfl (s1 (pkt rfl rfl) (sa rfl (SO.nil ((wq rfl))))))
   ·have q := si h2; subst q
    exact gw rfl (mv rfl) (gw rfl (bi rfl rfl (q_str_eql (b := ([102, 97, 108, 115, 101] : List UInt8)))) (s1 (pkf rfl rfl) (sa rfl (SO.nil ((wq rfl))))))
  ·rintro y1181 h1
   refine cB h1 rfl (fun h1 => ?_) (fun h1 => ?_)
   ·refine sr (s1 (bld rfl (bd24_0 (3 : Int))) (s1 (alo (k := 1) zo24 rfl) (s0 (sto rfl rfl (sB (d' := .d (eApiValue (ApiValue.mk (3 : Int) (0 : UInt64) ([] : List UInt8)))) ts24 rfl rfl rfl rfl rfl rfl rfl)) (sn (SC.seqP h1 (fun y => ⟨mk 166 [(2, .ref 0 0 0), (3, .ref 1 0 0)], [.box (.d (eApiValue (ApiValue.mk (0 : Int) (0 : UInt64) ([] : List UInt8)))), .box (.d (eApiValue y))]⟩) ?_ ?_)))))
    ·intro u2_1184 h2
     refine sr (sm rfl (s1 (bi rfl rfl (q_str_eql (b := ([116, 114, 117, 101] : List UInt8)))) (sn (cB h2 rfl (fun h2 => ?_) (fun h2 => ?_)))))
     ·have q := si h2; subst q
      exact SC.region (s1 (far (k := 1) rfl fo24_1 ts22 rfl) (s0 (sto (b := .d (eU64 (1 : UInt64))) rfl rfl (sB (d' := .d (eApiValue (ApiValue.mk (3 : Int) (1 : UInt64) ([] : List UInt8)))) ts22 rfl rfl rfl rfl rfl rfl rfl)) (SO.nil ((wq rfl)))))
     ·have q := si h2; subst q
      exact SC.skip ((wq rfl))
    ·rintro y1183 h1
     have q := si h1; subst q; have q := si h0; subst q
     exact sr (s1 (lod (v := .d (eApiValue y1183)) rfl (ld_box ts24 ta24 rfl rfl)) (s0 (sto rfl rfl (sB (d' := .d (eApiValue y1183)) ts24 rfl rfl rfl rfl rfl rfl rfl)) (sn (SC.ret (finR (wc (e' := [(2, .ref 0 0 0)]) [0] [0] (by kernel_rfl) rfl (by kernel_rfl)) (lresC rfl (ld_box ts24 ta24 rfl rfl) lresN) rfl)))))
   ·refine SC.seqP h1 (fun y => ⟨mk 166 [(0, .d (eS p0)), (2, .ref 0 0 0), (24, .d (eB y))], [.box (.d (eApiValue (ApiValue.mk (0 : Int) (0 : UInt64) ([] : List UInt8))))]⟩) ?_ ?_
    ·intro u2_1187 h2
     refine SC.region (sm rfl (s1 (len rfl rfl rfl (len_str un9)) (s1 (bi rfl rfl q_i64_gtr) (sm rfl (sp h2 (fun h2 => ?_) (fun h2 => ?_))))))
     ·obtain ⟨v1188, hv1188, h2⟩ := ob h2; have q := si h2; subst q
      exact gw rfl (mv rfl) (gw rfl (ixs rfl rfl rfl rfl (ix_str un9 (getI_some hv1188).1 (getI_some hv1188).2)) (gw rfl (bi rfl rfl (q_u8_eql (b := (120 : UInt8)))) (s1 (pkt rfl rfl) (sa rfl (SO.nil ((wq rfl)))))))
     ·have q := si h2; subst q
      exact kw rfl (kw rfl (kw rfl (s1 (pkf rfl rfl) (sa rfl (SO.nil ((wq rfl)))))))
    ·rintro y1186 h1
     refine cB h1 rfl (fun h1 => ?_) (fun h1 => ?_)
     ·refine sr (s1 (asg (v := .d .nils) rfl) (sn (SC.seqP h1 (fun y => ⟨mk 166 [(2, .ref 0 0 0), (4, .slc 1 1 0 y.length none)], [.box (.d (eApiValue (ApiValue.mk (0 : Int) (0 : UInt64) ([] : List UInt8)))), .row 1 (List.map eU8 y) true]⟩) ?_ ?_)))
      ·intro u2_1218 h2
       obtain ⟨u3_1238, h3, h2⟩ := ob h2
       refine sr (sa rfl (sn (SC.blk (SC.loopB h3 (fun y => ⟨mk 166 [(0, .d (eS p0)), (2, .ref 0 0 0), (4, .slc 1 1 0 y.1.length none), (5, .d (eI y.2))], [.box (.d (eApiValue (ApiValue.mk (0 : Int) (0 : UInt64) ([] : List UInt8)))), .row 1 (List.map eU8 y.1) true]⟩) (Wk.trans (Wk.pushE (σ' := [.box (.d (eApiValue (ApiValue.mk (0 : Int) (0 : UInt64) ([] : List UInt8)))), .row 1 (List.map eU8 ([] : List UInt8)) true]) (.row 1 [] true) (fun _ hh => by cases hh) rfl) (Wk.trans (Wk.env (e' := [(0, .d (eS p0)), (2, .ref 0 0 0), (4, .slc 1 1 0 (([] : List UInt8).length) none), (5, .d (eI (1 : Int)))]) (EW.cons (AW.refl _) (EW.cons (AW.refl _) (EW.cons (AW.slcn _ _ _) (EW.cons (AW.refl _) EW.nil))))) (wq rfl))) ?_))))
       intro n1246
       rintro ⟨y1226, y1227⟩ w3_1237 h4 hv4
       refine sq (sr (sm rfl (s1 (bi rfl rfl q_i64_add) (sm rfl (s1 (len rfl rfl rfl (len_str un9)) (s1 (bi rfl rfl q_i64_lss) (sn (cB h4 rfl (fun h4 => ?_) (fun h4 => ?_)))))))))
       ·obtain ⟨v1239, hv1239, h4⟩ := ob h4; obtain ⟨r1241, hq1240, h4⟩ := ob h4; obtain ⟨v1242, hv1242, h4⟩ := ob h4; obtain ⟨r1244, hq1243, h4⟩ := ob h4; obtain ⟨hg1245, h4⟩ := gd h4
        refine sk (sq (SC.blk (SC.draws (by kernel_rfl) (t1 ([], false) (mv rfl) rfl (t1 ([], false) (mv rfl) rfl (t1 ([], false) (mv rfl) rfl (t1 ([], false) (ixs rfl rfl rfl rfl (ix_str un9 (getI_some hv1239).1 (getI_some hv1239).2)) rfl (tc0 (ref06_half_ok v1239 _ hq1240) wf rfl rfl rfl cb52 rfl (fun _ => rfl) (fun _ => rfl) (t1 ([], false) (bi rfl rfl q_i64_mul) rfl ?_)))))))))
        refine t1 ([], false) (mv rfl) rfl (t1 ([], false) (mv rfl) rfl (t1 ([], false) (bi rfl rfl q_i64_add) rfl (t1 ([], false) (ixs rfl rfl rfl rfl (ix_str un9 (getI_some hv1242).1 (getI_some hv1242).2)) rfl (tc0 (ref06_half_ok v1242 _ hq1243) wf rfl rfl rfl cb52 rfl (fun _ => rfl) (fun _ => rfl) (t1 ([], false) (bi rfl rfl q_i64_add) rfl (t1 ([], false) (cvo rfl (cv_i64_u8 un3 un5 (w64 ((w64 (r1241 * (16 : Int))) + r1244)))) rfl (t1 ([2], true) (bsn (k := 2) (ds := List.map eU8 [(u8i (w64 ((w64 (r1241 * (16 : Int))) + r1244)))]) (off := 0) (l' := [(u8i (w64 ((w64 (r1241 * (16 : Int))) + r1244)))].length) rfl un50 ei5 rfl rfl (by rfl) rfl rfl rfl) rfl (t1 ([1, 2, 3], true) (app rfl rfl rfl rfl bc50 (aF (f := eU8) (xs := y1226) (k := 3) rfl un50 ei5 rfl (el_full (xs := [(u8i (w64 ((w64 (r1241 * (16 : Int))) + r1244)))]) rfl) hg1245 rfl)) rfl (t1 ([], false) (asg rfl) rfl ?_)))))))))
        refine ST.nil (And.intro (by decide +kernel) ?_)
        change SC _ _ _ _ _
        have q := si h4; subst q
        exact SC.region (sm rfl (s1 (bi rfl rfl q_i64_add) (sa rfl (SO.nil (lf (wc [0, 3] [0, 3] (by kernel_rfl) rfl (by kernel_rfl)))))))
       ·have q := si h4; subst q; have q : _ = _ := hv4; subst q; have q := si h2; subst q
        exact SC.exit ((wq rfl))
      ·rintro y1217 h1
       have q := si h1; subst q; have q := si h0; subst q
       exact sr (sm rfl (s1 (cvo (v := .d (eS y1217)) rfl (cv_bytes_str un50 un9 un5 (el_full (xs := y1217) rfl) (fun _ hh => by cases hh))) (s1 (bld rfl (bd24_0_2 (4 : Int) y1217)) (s0 (sto rfl rfl (sB (d' := .d (eApiValue (ApiValue.mk (4 : Int) (0 : UInt64) y1217))) ts24 rfl rfl rfl rfl rfl rfl rfl)) (sn (SC.ret (finR (wc (e' := [(2, .ref 0 0 0)]) [0] [0] (by kernel_rfl) rfl (by kernel_rfl)) (lresC rfl (ld_box ts24 ta24 rfl rfl) lresN) rfl)))))))
     ·refine SC.seqP h1 (fun y => ⟨mk 166 [(0, .d (eS p0)), (2, .ref 0 0 0), (58, .d (eB y))], [.box (.d (eApiValue (ApiValue.mk (0 : Int) (0 : UInt64) ([] : List UInt8))))]⟩) ?_ ?_
      ·intro u2_1249 h2
       refine SC.region (sm rfl (s1 (len rfl rfl rfl (len_str un9)) (s1 (bi rfl rfl q_i64_gtr) (sm rfl (sp h2 (fun h2 => ?_) (fun h2 => ?_))))))
       ·obtain ⟨v1250, hv1250, h2⟩ := ob h2; have q := si h2; subst q
        exact gw rfl (mv rfl) (gw rfl (ixs rfl rfl rfl rfl (ix_str un9 (getI_some hv1250).1 (getI_some hv1250).2)) (gw rfl (bi rfl rfl (q_u8_eql (b := (34 : UInt8)))) (s1 (pkt rfl rfl) (sa rfl (SO.nil ((wq rfl)))))))
       ·have q := si h2; subst q
        exact kw rfl (kw rfl (kw rfl (s1 (pkf rfl rfl) (sa rfl (SO.nil ((wq rfl)))))))
      ·rintro y1248 h1
       refine cB h1 rfl (fun h1 => ?_) (fun h1 => ?_)
       ·refine sr (s1 (asg (v := .d .nils) rfl) (sn (SC.seqP h1 (fun y => ⟨mk 166 [(2, .ref 0 0 0), (6, .slc 1 1 0 y.length none)], [.box (.d (eApiValue (ApiValue.mk (0 : Int) (0 : UInt64) ([] : List UInt8)))), .row 1 (List.map eU8 y) true]⟩) ?_ ?_)))
        ·intro u2_1322 h2
         obtain ⟨u3_1370, h3, h2⟩ := ob h2
         refine sr (sa rfl (sn (SC.blk (SC.loopB h3 (fun y => ⟨mk 166 [(0, .d (eS p0)), (2, .ref 0 0 0), (6, .slc 1 1 0 y.1.length none), (7, .d (eI y.2))], [.box (.d (eApiValue (ApiValue.mk (0 : Int) (0 : UInt64) ([] : List UInt8)))), .row 1 (List.map eU8 y.1) true]⟩) (Wk.trans (Wk.pushE (σ' := [.box (.d (eApiValue (ApiValue.mk (0 : Int) (0 : UInt64) ([] : List UInt8)))), .row 1 (List.map eU8 ([] : List UInt8)) true]) (.row 1 [] true) (fun _ hh => by cases hh) rfl) (Wk.trans (Wk.env (e' := [(0, .d (eS p0)), (2, .ref 0 0 0), (6, .slc 1 1 0 (([] : List UInt8).length) none), (7, .d (eI (1 : Int)))]) (EW.cons (AW.refl _) (EW.cons (AW.refl _) (EW.cons (AW.slcn _ _ _) (EW.cons (AW.refl _) EW.nil))))) (wq rfl))) ?_))))
         intro n1392
         rintro ⟨y1344, y1345⟩ w3_1369 h4 hv4
         refine sq (sr (sm rfl (sm rfl (s1 (len rfl rfl rfl (len_str un9)) (s1 (bi rfl rfl q_i64_sub) (s1 (bi rfl rfl q_i64_lss) (sn (cB h4 rfl (fun h4 => ?_) (fun h4 => ?_)))))))))
         ·obtain ⟨v1371, hv1371, h4⟩ := ob h4
          refine sk (sq (SC.blk (sr (sm rfl (sm rfl (s1 (ixs rfl rfl rfl rfl (ix_str un9 (getI_some hv1371).1 (getI_some hv1371).2)) (sa rfl (sn (SC.seqP h4 (fun y => ⟨mk 166 [(0, .d (eS p0)), (2, .ref 0 0 0), (6, .slc 1 1 0 y1344.length none), (7, .d (eI y.1)), (8, .d (eU8 y.2))], [.box (.d (eApiValue (ApiValue.mk (0 : Int) (0 : UInt64) ([] : List UInt8)))), .row 1 (List.map eU8 y1344) true]⟩) ?_ ?_)))))))))
          ·intro u5_1382 h5
           refine SC.seqP h5 (fun y => ⟨mk 166 [(0, .d (eS p0)), (2, .ref 0 0 0), (6, .slc 1 1 0 y1344.length none), (7, .d (eI y1345)), (8, .d (eU8 v1371)), (85, .d (eB y))], [.box (.d (eApiValue (ApiValue.mk (0 : Int) (0 : UInt64) ([] : List UInt8)))), .row 1 (List.map eU8 y1344) true]⟩) ?_ ?_
           ·intro u6_1384 h6
            refine SC.region (sm rfl (s1 (bi rfl rfl (q_u8_eql (b := (92 : UInt8)))) (sm rfl (sp h6 (fun h6 => ?_) (fun h6 => ?_)))))
            ·have q := si h6; subst q
             exact gw rfl (mv rfl) (gw rfl (bi rfl rfl q_i64_add) (gw rfl (mv rfl) (gw rfl (len rfl rfl rfl (len_str un9)) (gw rfl (bi rfl rfl q_i64_lss) (s1 (pkt rfl rfl) (SO.nil ((wq rfl))))))))
            ·have q := si h6; subst q
             exact kw rfl (kw rfl (kw rfl (kw rfl (kw rfl (s1 (pkf rfl rfl) (SO.nil ((wq rfl))))))))
           ·rintro y1383 h5
            refine cB h5 rfl (fun h5 => ?_) (fun h5 => ?_)
            ·obtain ⟨v1385, hv1385, h5⟩ := ob h5; obtain ⟨r1387, hq1386, h5⟩ := ob h5; obtain ⟨v1388, hv1388, h5⟩ := ob h5; obtain ⟨r1390, hq1389, h5⟩ := ob h5; have q := si h5; subst q
             refine sd (by kernel_rfl) (t1 ([], false) (mv rfl) rfl (t1 ([], false) (mv rfl) rfl (t1 ([], false) (bi rfl rfl q_i64_add) rfl (t1 ([], false) (ixs rfl rfl rfl rfl (ix_str un9 (getI_some hv1385).1 (getI_some hv1385).2)) rfl (tc0 (ref06_half_ok v1385 _ hq1386) wf rfl rfl rfl cb52 rfl (fun _ => rfl) (fun _ => rfl) (t1 ([], false) (bi rfl rfl q_i64_mul) rfl (t1 ([], false) (mv rfl) rfl (t1 ([], false) (mv rfl) rfl (t1 ([], false) (bi rfl rfl q_i64_add) rfl ?_)))))))))
             refine t1 ([], false) (ixs rfl rfl rfl rfl (ix_str un9 (getI_some hv1388).1 (getI_some hv1388).2)) rfl (tc0 (ref06_half_ok v1388 _ hq1389) wf rfl rfl rfl cb52 rfl (fun _ => rfl) (fun _ => rfl) (t1 ([], false) (bi rfl rfl q_i64_add) rfl (t1 ([], false) (cvo rfl (cv_i64_u8 un3 un5 (w64 ((w64 (r1387 * (16 : Int))) + r1390)))) rfl (t1 ([], false) (asg rfl) rfl (tn (by decide +kernel) (SC.region (sm rfl (s1 (bi rfl rfl q_i64_add) (sa rfl ?_)))))))))
             exact SO.nil ((wq rfl))
            ·have q := si h5; subst q
             exact SC.skip ((wq rfl))
          ·rintro ⟨y1380, y1381⟩ h4
           obtain ⟨hg1391, h4⟩ := gd h4
           refine SC.region (sm rfl (sm rfl (s1 (bsn (k := 2) (ds := List.map eU8 [y1381]) (off := 0) (l' := [y1381].length) rfl un50 ei5 rfl rfl (by rfl) rfl rfl rfl) (s1 (app rfl rfl rfl rfl bc50 (aF (f := eU8) (xs := y1344) (k := 3) rfl un50 ei5 rfl (el_full (xs := [y1381]) rfl) hg1391 rfl)) (sa rfl (SO.nil ?_))))))
           change SC _ _ _ _ _
           have q := si h4; subst q
           exact SC.region (sm rfl (s1 (bi rfl rfl q_i64_add) (sa rfl (SO.nil (lf (wc [0, 3] [0, 3] (by kernel_rfl) rfl (by kernel_rfl)))))))
         ·have q := si h4; subst q; have q : _ = _ := hv4; subst q; have q := si h2; subst q
          exact SC.exit ((wq rfl))
        ·rintro y1321 h1
         have q := si h1; subst q; have q := si h0; subst q
         exact sr (sm rfl (s1 (cvo (v := .d (eS y1321)) rfl (cv_bytes_str un50 un9 un5 (el_full (xs := y1321) rfl) (fun _ hh => by cases hh))) (s1 (bld rfl (bd24_0_2 (5 : Int) y1321)) (s0 (sto rfl rfl (sB (d' := .d (eApiValue (ApiValue.mk (5 : Int) (0 : UInt64) y1321))) ts24 rfl rfl rfl rfl rfl rfl rfl)) (sn (SC.ret (finR (wc (e' := [(2, .ref 0 0 0)]) [0] [0] (by kernel_rfl) rfl (by kernel_rfl)) (lresC rfl (ld_box ts24 ta24 rfl rfl) lresN) rfl)))))))
       ·refine sr (sm rfl (s1 (bi rfl rfl (q_str_eql (b := ([110, 117, 108, 108] : List UInt8)))) (sa rfl (sn (cB h1 rfl (fun h1 => ?_) (fun h1 => ?_))))))
        ·have q := si h1; subst q; have q := si h0; subst q
         exact sr (s1 (bld rfl (bd24_ )) (s0 (sto rfl rfl (sB (d' := .d (eApiValue (ApiValue.mk (0 : Int) (0 : UInt64) ([] : List UInt8)))) ts24 rfl rfl rfl rfl rfl rfl rfl)) (sn (SC.ret (finR (Wk.refl _) (lresC rfl (ld_box ts24 ta24 rfl rfl) lresN) rfl)))))
        ·have q := si h1; subst q
         exact SC.skip (lf (wq rfl))
 ·intro _ h0
  refine sr (s1 (bld rfl (bd24_0 (1 : Int))) (s1 (alo (k := 1) zo24 rfl) (s0 (sto rfl rfl (sB (d' := .d (eApiValue (ApiValue.mk (1 : Int) (0 : UInt64) ([] : List UInt8)))) ts24 rfl rfl rfl rfl rfl rfl rfl)) (sn (sr (sa rfl (sn (SC.seqP h0 (fun y => ⟨mk 166 [(0, .d (eS y.1)), (2, .ref 0 0 0), (9, .ref 1 0 0), (10, .d (eI y.2.1))], [.box (.d (eApiValue (ApiValue.mk (0 : Int) (0 : UInt64) ([] : List UInt8)))), .box (.d (eApiValue y.2.2))]⟩) ?_ ?_))))))))
  ·intro u1_1405 h1
   refine SC.seqP h1 (fun y => ⟨mk 166 [(0, .d (eS p0)), (2, .ref 0 0 0), (9, .ref 1 0 0), (10, .d (eI (0 : Int))), (123, .d (eB y))], [.box (.d (eApiValue (ApiValue.mk (0 : Int) (0 : UInt64) ([] : List UInt8)))), .box (.d (eApiValue (ApiValue.mk (1 : Int) (0 : UInt64) ([] : List UInt8))))]⟩) ?_ ?_
   ·intro u2_1408 h2
    refine SC.region (sm rfl (s1 (len rfl rfl rfl (len_str un9)) (s1 (bi rfl rfl q_i64_gtr) (sm rfl (sp h2 (fun h2 => ?_) (fun h2 => ?_))))))
    ·obtain ⟨v1409, hv1409, h2⟩ := ob h2; have q := si h2; subst q
     exact gw rfl (mv rfl) (gw rfl (mv rfl) (gw rfl (len rfl rfl rfl (len_str un9)) (gw rfl (bi rfl rfl q_i64_sub) (gw rfl (ixs rfl rfl rfl rfl (ix_str un9 (getI_some hv1409).1 (getI_some hv1409).2)) (gw rfl (bi rfl rfl (q_u8_eql (b := (117 : UInt8)))) (s1 (pkt rfl rfl) (SO.nil ((wq rfl)))))))))
    ·have q := si h2; subst q
     exact kw rfl (kw rfl (kw rfl (kw rfl (kw rfl (kw rfl (s1 (pkf rfl rfl) (SO.nil ((wq rfl)))))))))
   ·rintro y1407 h1
    refine cB h1 rfl (fun h1 => ?_) (fun h1 => ?_)
    ·obtain ⟨hg1410, h1⟩ := gd h1; have q := si h1; subst q
     refine sr (s1 (far (k := 0) rfl fo24_0 ts3 rfl) (s0 (sto (b := .d (eI (2 : Int))) rfl rfl (sB (d' := .d (eApiValue (ApiValue.mk (2 : Int) (0 : UInt64) ([] : List UInt8)))) ts3 rfl rfl rfl rfl rfl rfl rfl)) (sn (SC.region (sm rfl (sm rfl (s1 (len rfl rfl rfl (len_str un9)) (s1 (bi rfl rfl q_i64_sub) (s1 (slo rfl rfl rfl rfl (sl_str_hi un9 hg1410)) ?_)))))))))
     exact sa rfl (SO.nil ((wq rfl)))
    ·refine SC.seqP h1 (fun y => ⟨mk 166 [(0, .d (eS p0)), (2, .ref 0 0 0), (9, .ref 1 0 0), (10, .d (eI (0 : Int))), (137, .d (eB y))], [.box (.d (eApiValue (ApiValue.mk (0 : Int) (0 : UInt64) ([] : List UInt8)))), .box (.d (eApiValue (ApiValue.mk (1 : Int) (0 : UInt64) ([] : List UInt8))))]⟩) ?_ ?_
     ·intro u2_1413 h2
      refine SC.region (sm rfl (s1 (len rfl rfl rfl (len_str un9)) (s1 (bi rfl rfl q_i64_gtr) (sm rfl (sp h2 (fun h2 => ?_) (fun h2 => ?_))))))
      ·obtain ⟨v1414, hv1414, h2⟩ := ob h2; have q := si h2; subst q
       exact gw rfl (mv rfl) (gw rfl (ixs rfl rfl rfl rfl (ix_str un9 (getI_some hv1414).1 (getI_some hv1414).2)) (gw rfl (bi rfl rfl (q_u8_eql (b := (45 : UInt8)))) (s1 (pkt rfl rfl) (SO.nil ((wq rfl))))))
      ·have q := si h2; subst q
       exact kw rfl (kw rfl (kw rfl (s1 (pkf rfl rfl) (SO.nil ((wq rfl))))))
     ·rintro y1412 h1
      refine cB h1 rfl (fun h1 => ?_) (fun h1 => ?_)
      ·have q := si h1; subst q
       exact SC.region (sa rfl (SO.nil ((wq rfl))))
      ·have q := si h1; subst q
       exact SC.skip ((wq rfl))
  ·rintro ⟨y1402, y1403, y1404⟩ h0
   refine SC.seqP h0 (fun y => ⟨mk 166 [(2, .ref 0 0 0), (9, .ref 1 0 0), (10, .d (eI y1403))], [.box (.d (eApiValue (ApiValue.mk (0 : Int) (0 : UInt64) ([] : List UInt8)))), .box (.d (eApiValue y))]⟩) ?_ ?_
   ·intro u1_1432 h1
    obtain ⟨u2_1444, h2, h1⟩ := ob h1
    refine sr (sm rfl (sa rfl (sn (SC.blk (SC.loopB h2 (fun y => ⟨mk 166 [(0, .d (eS y1402)), (2, .ref 0 0 0), (9, .ref 1 0 0), (10, .d (eI y1403)), (11, .d (eI y.1))], [.box (.d (eApiValue (ApiValue.mk (0 : Int) (0 : UInt64) ([] : List UInt8)))), .box (.d (eApiValue y.2))]⟩) (wq rfl) ?_)))))
    intro n1448
    rintro ⟨y1436, y1437⟩ w2_1443 h3 hv3
    refine sq (SC.seqP h3 (fun y => ⟨mk 166 [(0, .d (eS y1402)), (2, .ref 0 0 0), (9, .ref 1 0 0), (10, .d (eI y1403)), (11, .d (eI y1436)), (146, .d (eB y))], [.box (.d (eApiValue (ApiValue.mk (0 : Int) (0 : UInt64) ([] : List UInt8)))), .box (.d (eApiValue y1437))]⟩) ?_ ?_)
    ·intro u4_1446 h4
     refine SC.region (sm rfl (sm rfl (s1 (len rfl rfl rfl (len_str un9)) (s1 (bi rfl rfl q_i64_lss) (sm rfl (sp h4 (fun h4 => ?_) (fun h4 => ?_)))))))
     ·have q := si h4; subst q
      exact gw rfl (mv rfl) (gw rfl (bi rfl rfl q_i64_lss) (s1 (pkt rfl rfl) (SO.nil ((wq rfl)))))
     ·have q := si h4; subst q
      exact kw rfl (kw rfl (s1 (pkf rfl rfl) (SO.nil ((wq rfl)))))
    ·rintro y1445 h3
     refine cB h3 rfl (fun h3 => ?_) (fun h3 => ?_)
     ·obtain ⟨v1447, hv1447, h3⟩ := ob h3
      refine sk (sq (SC.blk (SC.draws (by kernel_rfl) (t1 ([], false) (far (k := 1) rfl fo24_1 ts22 rfl) rfl (t1 ([1], false) (lod rfl (ld_box ts22 ta22 rfl rfl)) rfl (t1 ([], false) (bi rfl rfl (q_u64_mul (b := (10 : UInt64)))) rfl (t1 ([], false) (mv rfl) rfl (t1 ([], false) (mv rfl) rfl (t1 ([], false) (ixs rfl rfl rfl rfl (ix_str un9 (getI_some hv1447).1 (getI_some hv1447).2)) rfl ?_)))))))))
      refine t1 ([], false) (cvo rfl (cv_u8_u64 un5 un22 v1447)) rfl (t1 ([], false) (bi rfl rfl q_u64_add) rfl (t1 ([], false) (bi rfl rfl (q_u64_sub (b := (48 : UInt64)))) rfl (t1 ([], false) (far (k := 1) rfl fo24_1 ts22 rfl) rfl (t0 ([1], true) (sto rfl rfl (sB (d' := .d (eApiValue (ApiValue.mk y1437.Kind (((y1437.N * (10 : UInt64)) + (v1447.toUInt64)) - (48 : UInt64)) y1437.S))) ts22 rfl rfl rfl rfl rfl rfl rfl)) rfl (ST.nil (And.intro (by decide +kernel) ?_))))))
      change SC _ _ _ _ _
      have q := si h3; subst q
      exact SC.region (sm rfl (s1 (bi rfl rfl q_i64_add) (sa rfl (SO.nil (lf (wq rfl))))))
     ·have q := si h3; subst q; have q : _ = _ := hv3; subst q; have q := si h1; subst q
      exact SC.exit ((wq rfl))
   ·rintro y1431 h0
    refine SC.seqP h0 (fun y => ⟨mk 166 [(2, .ref 0 0 0), (9, .ref 1 0 0)], [.box (.d (eApiValue (ApiValue.mk (0 : Int) (0 : UInt64) ([] : List UInt8)))), .box (.d (eApiValue y))]⟩) ?_ ?_
    ·intro u1_1450 h1
     refine sr (sm rfl (s1 (bi rfl rfl q_i64_eql) (sn (cB h1 rfl (fun h1 => ?_) (fun h1 => ?_)))))
     ·have q := si h1; subst q
      exact SC.region (s1 (far (k := 1) rfl fo24_1 ts22 rfl) (s1 (lod rfl (ld_box ts22 ta22 rfl rfl)) (s1 (uo rfl rfl (un_u64_neg y1431.N)) (s1 (far (k := 1) rfl fo24_1 ts22 rfl) (s0 (sto rfl rfl (sB (d' := .d (eApiValue (ApiValue.mk y1431.Kind (0 - y1431.N) y1431.S))) ts22 rfl rfl rfl rfl rfl rfl rfl)) (SO.nil ((wq rfl))))))))
     ·have q := si h1; subst q
      exact SC.skip ((wq rfl))
    ·rintro y1449 h0
     have q := si h0; subst q
     exact sr (s1 (lod (v := .d (eApiValue y1449)) rfl (ld_box ts24 ta24 rfl rfl)) (s0 (sto rfl rfl (sB (d' := .d (eApiValue y1449)) ts24 rfl rfl rfl rfl rfl rfl rfl)) (sn (SC.ret (finR (wc (e' := [(2, .ref 0 0 0)]) [0] [0] (by kernel_rfl) rfl (by kernel_rfl)) (lresC rfl (ld_box ts24 ta24 rfl rfl) lresN) rfl)))))
noncomputable def ref06_utf8 (p0 : List UInt8) : Option Bool :=
 bindE (Y := Unit) (E := Bool)
 (Option.bind (α := Unit ⊕ Bool)
 (loop (Y := Int) (W := Unit ⊕ Bool) (fun y878 =>
 bif (decide (y878 < (p0.length : Int))) then
 Option.bind (getI p0 y878) fun v935 =>
 bindE (Y := Int × Int × Int) (E := Bool)
 (bif (decide ((v935.toNat : Int) < (128 : Int))) then
 some (Sum.inl ((1 : Int), (0 : Int), (v935.toNat : Int)))
 else
 Option.bind (α := Bool)
 (bif (decide ((v935.toNat : Int) ≥ (194 : Int))) then
 some (decide ((v935.toNat : Int) < (224 : Int)))
 else
 some false)
 fun y946 =>
 bif y946 then
 some (Sum.inl ((2 : Int), (128 : Int), (w64 ((v935.toNat : Int) - (192 : Int)))))
 else
 Option.bind (α := Bool)
 (bif (decide ((v935.toNat : Int) ≥ (224 : Int))) then
 some (decide ((v935.toNat : Int) < (240 : Int)))
 else
 some false)
 fun y948 =>
 bif y948 then
 some (Sum.inl ((3 : Int), (2048 : Int), (w64 ((v935.toNat : Int) - (224 : Int)))))
 else
 Option.bind (α := Bool)
 (bif (decide ((v935.toNat : Int) ≥ (240 : Int))) then
 some (decide ((v935.toNat : Int) < (245 : Int)))
 else
 some false)
 fun y950 =>
 bif y950 then
 some (Sum.inl ((4 : Int), (65536 : Int), (w64 ((v935.toNat : Int) - (240 : Int)))))
 else
 some (Sum.inr false))
 (fun (y942, y943, y944) =>
 bif (decide ((w64 (y878 + y942)) > (p0.length : Int))) then
 some (Sum.inr (Sum.inr false))
 else
 bindE (Y := Int) (E := Bool)
 (Option.bind (α := Int ⊕ Bool)
 (loop (Y := Int × Int) (W := Int ⊕ Bool) (fun (y973, y974) =>
 bif (decide (y974 < y942)) then
 Option.bind (getI p0 (w64 (y878 + y974))) fun v982 =>
 Option.bind (α := Bool)
 (bif (decide ((v982.toNat : Int) < (128 : Int))) then
 some true
 else
 some (decide ((v982.toNat : Int) ≥ (192 : Int))))
 fun y983 =>
 bif y983 then
 some (Sum.inr (Sum.inr false))
 else
 some (Sum.inl ((w64 ((w64 ((w64 (y973 * (64 : Int))) + (v982.toNat : Int))) - (128 : Int))), (w64 (y974 + (1 : Int)))))
 else
 some (Sum.inr (Sum.inl y973))) (y944, (1 : Int)))
 (Sum.elim (fun e => some (Sum.inl e)) (fun e => some (Sum.inr e))))
 (fun y968 =>
 Option.bind (α := Bool)
 (bif (decide (y968 < y943)) then
 some true
 else
 bif (decide (y968 > (1114111 : Int))) then
 some true
 else
 bif (decide (y968 ≥ (55296 : Int))) then
 some (decide (y968 < (57344 : Int)))
 else
 some false)
 fun y986 =>
 bif y986 then
 some (Sum.inr (Sum.inr false))
 else
 some (Sum.inl (w64 (y878 + y942))))
 (fun e => some (Sum.inr (Sum.inr e))))
 (fun e => some (Sum.inr (Sum.inr e)))
 else
 some (Sum.inr (Sum.inl ()))) (0 : Int))
 (Sum.elim (fun e => some (Sum.inl e)) (fun e => some (Sum.inr e))))
 (fun _ =>
 some true)
 (fun e => some e)
theorem ref06_utf8_ok (p0 : List UInt8) (r : Bool) (h0 : ref06_utf8 p0 = some r) : CallAt Tryd.prog 38 [.d (eS p0)] [] (.d (eB r)) [] := by
 unfold ref06_utf8 at h0
 refine fn0 [0] Tryd.func38 rfl rfl rfl rfl rfl ?_
 refine sr (sa rfl (sn (SC.seqB h0 (fun y => ⟨mk 95 [], []⟩) ?_ ?_)))
 ·intro u1_824 h1 h0
  obtain ⟨u2_934, h2, h1⟩ := ob h1
  refine sr (sa rfl (sn (SC.blk (SC.loopB h2 (fun y => ⟨mk 95 [(0, .d (eS p0)), (3, .d (eI y))], []⟩) (wq rfl) ?_))))
  intro n988
  rintro y878 w2_933 h3 hv3
  refine sq (sr (sm rfl (sm rfl (s1 (len rfl rfl rfl (len_str un9)) (s1 (bi rfl rfl q_i64_lss) (sn (cB h3 rfl (fun h3 => ?_) (fun h3 => ?_))))))))
  ·obtain ⟨v935, hv935, h3⟩ := ob h3
   refine sk (SC.blk (sr (sm rfl (sm rfl (s1 (ixs rfl rfl rfl rfl (ix_str un9 (getI_some hv935).1 (getI_some hv935).2)) (s1 (cvo rfl (cv_u8_i64 un5 un3 v935)) (sa rfl (sn (sr ?_)))))))))
   refine sa rfl (sn (sr (sa rfl (sn (sr (sm rfl (sa rfl (sn (SC.seqB h3 (fun y => ⟨mk 95 [(0, .d (eS p0)), (3, .d (eI y878)), (5, .d (eI y.1)), (6, .d (eI y.2.1)), (7, .d (eI y.2.2))], []⟩) ?_ ?_)))))))))
   ·intro u4_945 h4 h3
    refine SC.blk (sr (sm rfl (s1 (bi rfl rfl q_i64_lss) (sa rfl (sn (cB h4 rfl (fun h4 => ?_) (fun h4 => ?_)))))))
    ·have q := si h4; subst q
     exact SC.skip (lf (wq rfl))
    ·refine SC.seqP h4 (fun y => ⟨mk 95 [(0, .d (eS p0)), (3, .d (eI y878)), (4, .d (eI (v935.toNat : Int))), (22, .d (eB y))], []⟩) ?_ ?_
     ·intro u5_947 h5
      refine SC.region (sm rfl (s1 (bi rfl rfl q_i64_geq) (sm rfl (sp h5 (fun h5 => ?_) (fun h5 => ?_)))))
      ·have q := si h5; subst q
       exact gw rfl (mv rfl) (gw rfl (bi rfl rfl q_i64_lss) (s1 (pkt rfl rfl) (sa rfl (SO.nil ((wq rfl))))))
      ·have q := si h5; subst q
       exact kw rfl (kw rfl (s1 (pkf rfl rfl) (sa rfl (SO.nil ((wq rfl))))))
     ·rintro y946 h4
      refine cB h4 rfl (fun h4 => ?_) (fun h4 => ?_)
      ·have q := si h4; subst q
       exact SC.region (sm rfl (s1 (bi rfl rfl q_i64_sub) (sa rfl (sa rfl (sa rfl (SO.nil (lf (wq rfl))))))))
      ·refine SC.seqP h4 (fun y => ⟨mk 95 [(0, .d (eS p0)), (3, .d (eI y878)), (4, .d (eI (v935.toNat : Int))), (31, .d (eB y))], []⟩) ?_ ?_
       ·intro u5_949 h5
        refine SC.region (sm rfl (s1 (bi rfl rfl q_i64_geq) (sm rfl (sp h5 (fun h5 => ?_) (fun h5 => ?_)))))
        ·have q := si h5; subst q
         exact gw rfl (mv rfl) (gw rfl (bi rfl rfl q_i64_lss) (s1 (pkt rfl rfl) (sa rfl (SO.nil ((wq rfl))))))
        ·have q := si h5; subst q
         exact kw rfl (kw rfl (s1 (pkf rfl rfl) (sa rfl (SO.nil ((wq rfl))))))
       ·rintro y948 h4
        refine cB h4 rfl (fun h4 => ?_) (fun h4 => ?_)
        ·have q := si h4; subst q
         exact SC.region (sm rfl (s1 (bi rfl rfl q_i64_sub) (sa rfl (sa rfl (sa rfl (SO.nil (lf (wq rfl))))))))
        ·refine SC.seqP h4 (fun y => ⟨mk 95 [(0, .d (eS p0)), (3, .d (eI y878)), (4, .d (eI (v935.toNat : Int))), (40, .d (eB y))], []⟩) ?_ ?_
         ·intro u5_951 h5
          refine SC.region (sm rfl (s1 (bi rfl rfl q_i64_geq) (sm rfl (sp h5 (fun h5 => ?_) (fun h5 => ?_)))))
          ·have q := si h5; subst q
           exact gw rfl (mv rfl) (gw rfl (bi rfl rfl q_i64_lss) (s1 (pkt rfl rfl) (sa rfl (SO.nil ((wq rfl))))))
          ·have q := si h5; subst q
           exact kw rfl (kw rfl (s1 (pkf rfl rfl) (sa rfl (SO.nil ((wq rfl))))))
         ·rintro y950 h4
          refine cB h4 rfl (fun h4 => ?_) (fun h4 => ?_)
          ·have q := si h4; subst q
           exact SC.region (sm rfl (s1 (bi rfl rfl q_i64_sub) (sa rfl (sa rfl (sa rfl (SO.nil (lf (wq rfl))))))))
          ·have q := si h4; subst q; have q := si h3; subst q; have q : _ = _ := hv3; subst q; have q := si h1; subst q; have q := si h0; subst q
           exact sr (sa rfl (sn (SC.ret (finR (Wk.refl _) (lresT rfl lresN) rfl))))
   ·rintro ⟨y942, y943, y944⟩ h3
    refine sq (sr (sm rfl (sm rfl (s1 (bi rfl rfl q_i64_add) (sm rfl (s1 (len rfl rfl rfl (len_str un9)) (s1 (bi rfl rfl q_i64_gtr) (sn (cB h3 rfl (fun h3 => ?_) (fun h3 => ?_))))))))))
    ·have q := si h3; subst q; have q : _ = _ := hv3; subst q; have q := si h1; subst q; have q := si h0; subst q
     exact sr (sa rfl (sn (SC.ret (finR (Wk.refl _) (lresT rfl lresN) rfl))))
    ·refine sk (SC.seqB h3 (fun y => ⟨mk 95 [(0, .d (eS p0)), (3, .d (eI y878)), (5, .d (eI y942)), (6, .d (eI y943)), (7, .d (eI y))], []⟩) ?_ ?_)
     ·intro u4_969 h4 h3
      obtain ⟨u5_981, h5, h4⟩ := ob h4
      refine sr (sa rfl (sn (SC.blk (SC.loopB h5 (fun y => ⟨mk 95 [(0, .d (eS p0)), (3, .d (eI y878)), (5, .d (eI y942)), (6, .d (eI y943)), (7, .d (eI y.1)), (8, .d (eI y.2))], []⟩) (wq rfl) ?_))))
      intro n985
      rintro ⟨y973, y974⟩ w5_980 h6 hv6
      refine sq (sr (sm rfl (sm rfl (s1 (bi rfl rfl q_i64_lss) (sn (cB h6 rfl (fun h6 => ?_) (fun h6 => ?_)))))))
      ·obtain ⟨v982, hv982, h6⟩ := ob h6
       refine sk (sq (SC.blk (sr (sm rfl (sm rfl (sm rfl (s1 (bi rfl rfl q_i64_add) (s1 (ixs rfl rfl rfl rfl (ix_str un9 (getI_some hv982).1 (getI_some hv982).2)) (s1 (cvo rfl (cv_u8_i64 un5 un3 v982)) ?_)))))))))
       refine sa rfl (sn (sq (SC.seqP h6 (fun y => ⟨mk 95 [(0, .d (eS p0)), (3, .d (eI y878)), (5, .d (eI y942)), (6, .d (eI y943)), (7, .d (eI y973)), (8, .d (eI y974)), (9, .d (eI (v982.toNat : Int))), (71, .d (eB y))], []⟩) ?_ ?_)))
       ·intro u7_984 h7
        refine SC.region (sm rfl (s1 (bi rfl rfl q_i64_lss) (sm rfl (sp h7 (fun h7 => ?_) (fun h7 => ?_)))))
        ·have q := si h7; subst q
         exact kw rfl (kw rfl (s1 (pkt rfl rfl) (SO.nil ((wq rfl)))))
        ·have q := si h7; subst q
         exact gw rfl (mv rfl) (gw rfl (bi rfl rfl q_i64_geq) (s1 (pkf rfl rfl) (SO.nil ((wq rfl)))))
       ·rintro y983 h6
        refine cB h6 rfl (fun h6 => ?_) (fun h6 => ?_)
        ·have q := si h6; subst q; have q : _ = _ := hv6; subst q; have q := si h4; subst q; have q := si h3; subst q; have q : _ = _ := hv3; subst q; have q := si h1; subst q; have q := si h0; subst q
         exact sr (sa rfl (sn (SC.ret (finR (Wk.refl _) (lresT rfl lresN) rfl))))
        ·refine sk (SC.region (sm rfl (s1 (bi rfl rfl q_i64_mul) (sm rfl (s1 (bi rfl rfl q_i64_add) (s1 (bi rfl rfl q_i64_sub) (sa rfl (SO.nil ?_))))))))
         change SC _ _ _ _ _
         have q := si h6; subst q
         exact SC.region (sm rfl (s1 (bi rfl rfl q_i64_add) (sa rfl (SO.nil (lf (wq rfl))))))
      ·have q := si h6; subst q; have q : _ = _ := hv6; subst q; have q := si h4; subst q
       exact SC.exit (lf (wq rfl))
     ·rintro y968 h3
      refine sq (SC.seqP h3 (fun y => ⟨mk 95 [(0, .d (eS p0)), (3, .d (eI y878)), (5, .d (eI y942)), (91, .d (eB y))], []⟩) ?_ ?_)
      ·intro u4_987 h4
       refine SC.region (sm rfl (sm rfl (s1 (bi rfl rfl q_i64_lss) (sm rfl (sp h4 (fun h4 => ?_) (fun h4 => ?_))))))
       ·have q := si h4; subst q
        refine kw rfl (kw rfl (s1 (pkt rfl rfl) (sm rfl (kw rfl (kw rfl (kw rfl (kw rfl (kw rfl (kw rfl ?_)))))))))
        exact s1 (pkt rfl rfl) (SO.nil ((wq rfl)))
       ·refine gw rfl (mv rfl) (gw rfl (bi rfl rfl q_i64_gtr) (s1 (pkf rfl rfl) (sm rfl (sp h4 (fun h4 => ?_) (fun h4 => ?_)))))
        ·have q := si h4; subst q
         exact kw rfl (kw rfl (kw rfl (kw rfl (kw rfl (kw rfl (s1 (pkt rfl rfl) (SO.nil ((wq rfl)))))))))
        ·refine gw rfl (mv rfl) (gw rfl (bi rfl rfl q_i64_geq) (gw rfl (mv rfl) (sp h4 (fun h4 => ?_) (fun h4 => ?_))))
         ·have q := si h4; subst q
          exact gw rfl (mv rfl) (gw rfl (bi rfl rfl q_i64_lss) (gw rfl (pkt rfl rfl) (s1 (pkf rfl rfl) (SO.nil ((wq rfl))))))
         ·have q := si h4; subst q
          exact kw rfl (kw rfl (gw rfl (pkf rfl rfl) (s1 (pkf rfl rfl) (SO.nil ((wq rfl))))))
      ·rintro y986 h3
       refine cB h3 rfl (fun h3 => ?_) (fun h3 => ?_)
       ·have q := si h3; subst q; have q : _ = _ := hv3; subst q; have q := si h1; subst q; have q := si h0; subst q
        exact sr (sa rfl (sn (SC.ret (finR (Wk.refl _) (lresT rfl lresN) rfl))))
       ·have q := si h3; subst q
        exact sk (SC.region (sm rfl (sm rfl (s1 (bi rfl rfl q_i64_add) (sa rfl (SO.nil (lf (wq rfl))))))))
  ·have q := si h3; subst q; have q : _ = _ := hv3; subst q; have q := si h1; subst q
   exact SC.exit (lf (wq rfl))
 ·intro _ h0
  have q := si h0; subst q
  exact sr (sa rfl (sn (SC.ret (finR (Wk.refl _) (lresT rfl lresN) rfl))))
noncomputable def ref06_Valid (p0 : ApiValue) : Option Bool :=
 bif (p0.Kind == (0 : Int)) then
 Option.bind (α := Bool)
 (bif (p0.N == (0 : UInt64)) then
 some (p0.S == ([] : List UInt8))
 else
 some false)
 fun y30 =>
 some y30
 else
 Option.bind (α := Bool)
 (bif (p0.Kind == (1 : Int)) then
 some (p0.Kind == (1 : Int))
 else
 some (p0.Kind == (2 : Int)))
 fun y32 =>
 bif y32 then
 some (p0.S == ([] : List UInt8))
 else
 bif (p0.Kind == (3 : Int)) then
 Option.bind (α := Bool)
 (bif (decide (p0.N < (2 : UInt64))) then
 some (p0.S == ([] : List UInt8))
 else
 some false)
 fun y34 =>
 some y34
 else
 bif (p0.Kind == (4 : Int)) then
 Option.bind (α := Bool)
 (bif (p0.N == (0 : UInt64)) then
 some (decide ((p0.S.length : Int) ≤ (64 : Int)))
 else
 some false)
 fun y36 =>
 some y36
 else
 bif (p0.Kind == (5 : Int)) then
 Option.bind (α := Bool)
 (bif (p0.N == (0 : UInt64)) then
 bif (decide ((p0.S.length : Int) ≤ (64 : Int))) then
 Option.bind (ref06_utf8 p0.S) fun r43 =>
 some r43
 else
 some false
 else
 some false)
 fun y40 =>
 some y40
 else
 some false
theorem ref06_Valid_ok (p0 : ApiValue) (r : Bool) (h0 : ref06_Valid p0 = some r) : CallAt Tryd.prog 16 [.d (eApiValue p0)] [] (.d (eB r)) [] := by
 unfold ref06_Valid at h0
 refine fn0 [0] Tryd.func16 rfl rfl rfl rfl rfl ?_
 refine sr (s1 (bxo (k := 0) rfl rfl rfl) (sa rfl (sn (sq (sr (s1 (far (k := 0) rfl fo24_0 ts3 rfl) (s1 (lod rfl (ld_box ts3 ta3 rfl rfl)) (sn (SC.blk ?_)))))))))
 refine sr (s1 (bi rfl rfl q_i64_eql) (sa rfl (sn (cB h0 rfl (fun h0 => ?_) (fun h0 => ?_)))))
 ·refine SC.seqP h0 (fun y => ⟨mk 58 [(2, .d (eB y))], []⟩) ?_ ?_
  ·intro u1_31 h1
   refine SC.region (s1 (far (k := 1) rfl fo24_1 ts22 rfl) (s1 (lod rfl (ld_box ts22 ta22 rfl rfl)) (s1 (bi rfl rfl (q_u64_eql (b := (0 : UInt64)))) (sm rfl (sp h1 (fun h1 => ?_) (fun h1 => ?_))))))
   ·have q := si h1; subst q
    exact gw rfl (far (k := 2) rfl fo24_2 ts9 rfl) (gw rfl (lod rfl (ld_box ts9 ta9 rfl rfl)) (gw rfl (bi rfl rfl (q_str_eql (b := ([] : List UInt8)))) (s1 (pkt rfl rfl) (sa rfl (SO.nil ((wc [] [] (by kernel_rfl) rfl (by kernel_rfl))))))))
   ·have q := si h1; subst q
    exact kw rfl (kw rfl (kw rfl (s1 (pkf rfl rfl) (sa rfl (SO.nil ((wc [] [] (by kernel_rfl) rfl (by kernel_rfl))))))))
  ·rintro y30 h0
   have q := si h0; subst q
   exact SC.ret (finR (Wk.refl _) (lresT rfl lresN) rfl)
 ·refine SC.seqP h0 (fun y => ⟨mk 58 [(1, .ref 0 0 0), (4, .d (eI p0.Kind)), (15, .d (eB y))], [.box (.d (eApiValue p0))]⟩) ?_ ?_
  ·intro u1_33 h1
   refine sr (s1 (bi rfl rfl q_i64_eql) (sa rfl (sn (cB h1 rfl (fun h1 => ?_) (fun h1 => ?_)))))
   ·have q := si h1; subst q
    exact SC.skip ((wq rfl))
   ·have q := si h1; subst q
    exact SC.region (s1 (bi rfl rfl q_i64_eql) (sa rfl (SO.nil ((wq rfl)))))
  ·rintro y32 h0
   refine cB h0 rfl (fun h0 => ?_) (fun h0 => ?_)
   ·have q := si h0; subst q
    exact sr (s1 (far (k := 2) rfl fo24_2 ts9 rfl) (s1 (lod rfl (ld_box ts9 ta9 rfl rfl)) (s1 (bi rfl rfl (q_str_eql (b := ([] : List UInt8)))) (sa rfl (sn (SC.ret (finR (wc (e' := [(2, .d (eB (p0.S == ([] : List UInt8))))]) [] [] (by kernel_rfl) rfl (by kernel_rfl)) (lresT rfl lresN) rfl)))))))
   ·refine sr (s1 (bi rfl rfl q_i64_eql) (sa rfl (sn (cB h0 rfl (fun h0 => ?_) (fun h0 => ?_)))))
    ·refine SC.seqP h0 (fun y => ⟨mk 58 [(2, .d (eB y))], []⟩) ?_ ?_
     ·intro u1_35 h1
      refine SC.region (s1 (far (k := 1) rfl fo24_1 ts22 rfl) (s1 (lod rfl (ld_box ts22 ta22 rfl rfl)) (s1 (bi rfl rfl (q_u64_lss (b := (2 : UInt64)))) (sm rfl (sp h1 (fun h1 => ?_) (fun h1 => ?_))))))
      ·have q := si h1; subst q
       exact gw rfl (far (k := 2) rfl fo24_2 ts9 rfl) (gw rfl (lod rfl (ld_box ts9 ta9 rfl rfl)) (gw rfl (bi rfl rfl (q_str_eql (b := ([] : List UInt8)))) (s1 (pkt rfl rfl) (sa rfl (SO.nil ((wc [] [] (by kernel_rfl) rfl (by kernel_rfl))))))))
      ·have q := si h1; subst q
       exact kw rfl (kw rfl (kw rfl (s1 (pkf rfl rfl) (sa rfl (SO.nil ((wc [] [] (by kernel_rfl) rfl (by kernel_rfl))))))))
     ·rintro y34 h0
      have q := si h0; subst q
      exact SC.ret (finR (Wk.refl _) (lresT rfl lresN) rfl)
    ·refine sr (s1 (bi rfl rfl q_i64_eql) (sa rfl (sn (cB h0 rfl (fun h0 => ?_) (fun h0 => ?_)))))
     ·refine SC.seqP h0 (fun y => ⟨mk 58 [(2, .d (eB y))], []⟩) ?_ ?_
      ·intro u1_37 h1
       refine SC.region (s1 (far (k := 1) rfl fo24_1 ts22 rfl) (s1 (lod rfl (ld_box ts22 ta22 rfl rfl)) (s1 (bi rfl rfl (q_u64_eql (b := (0 : UInt64)))) (sm rfl (sp h1 (fun h1 => ?_) (fun h1 => ?_))))))
       ·have q := si h1; subst q
        exact gw rfl (far (k := 2) rfl fo24_2 ts9 rfl) (gw rfl (lod rfl (ld_box ts9 ta9 rfl rfl)) (gw rfl (len rfl rfl rfl (len_str un9)) (gw rfl (bi rfl rfl q_i64_leq) (s1 (pkt rfl rfl) (sa rfl (SO.nil ((wc [] [] (by kernel_rfl) rfl (by kernel_rfl)))))))))
       ·have q := si h1; subst q
        exact kw rfl (kw rfl (kw rfl (kw rfl (s1 (pkf rfl rfl) (sa rfl (SO.nil ((wc [] [] (by kernel_rfl) rfl (by kernel_rfl)))))))))
      ·rintro y36 h0
       have q := si h0; subst q
       exact SC.ret (finR (Wk.refl _) (lresT rfl lresN) rfl)
     ·refine sr (s1 (bi rfl rfl q_i64_eql) (sa rfl (sn (cB h0 rfl (fun h0 => ?_) (fun h0 => ?_)))))
      ·refine SC.seqP h0 (fun y => ⟨mk 58 [(2, .d (eB y))], []⟩) ?_ ?_
       ·intro u1_41 h1
        refine SC.region (s1 (far (k := 1) rfl fo24_1 ts22 rfl) (s1 (lod rfl (ld_box ts22 ta22 rfl rfl)) (s1 (bi rfl rfl (q_u64_eql (b := (0 : UInt64)))) (sm rfl (sp h1 (fun h1 => ?_) (fun h1 => ?_))))))
        ·refine gw rfl (far (k := 2) rfl fo24_2 ts9 rfl) (gw rfl (lod rfl (ld_box ts9 ta9 rfl rfl)) (gw rfl (len rfl rfl rfl (len_str un9)) (gw rfl (bi rfl rfl q_i64_leq) (s1 (pkt rfl rfl) (sm rfl (sp h1 (fun h1 => ?_) (fun h1 => ?_)))))))
         ·obtain ⟨r43, hq42, h1⟩ := ob h1; have q := si h1; subst q
          exact gw rfl (far (k := 2) rfl fo24_2 ts9 rfl) (gw rfl (lod rfl (ld_box ts9 ta9 rfl rfl)) (c0 (ref06_utf8_ok p0.S _ hq42) (ww rfl) rfl rfl rfl cb38 rfl (fun _ => rfl) (fun _ => rfl) (s1 (pkt rfl rfl) (sa rfl (SO.nil ((wc [] [] (by kernel_rfl) rfl (by kernel_rfl))))))))
         ·have q := si h1; subst q
          exact kw rfl (kw rfl (kw rfl (s1 (pkf rfl rfl) (sa rfl (SO.nil ((wc [] [] (by kernel_rfl) rfl (by kernel_rfl))))))))
        ·have q := si h1; subst q
         refine kw rfl (kw rfl (kw rfl (kw rfl (s1 (pkf rfl rfl) (sm rfl (kw rfl (kw rfl (kw rfl (s1 (pkf rfl rfl) ?_)))))))))
         exact sa rfl (SO.nil ((wc [] [] (by kernel_rfl) rfl (by kernel_rfl))))
       ·rintro y40 h0
        have q := si h0; subst q
        exact SC.ret (finR (Wk.refl _) (lresT rfl lresN) rfl)
      ·refine SC.skip ?_
       change SC _ _ _ _ _
       have q := si h0; subst q
       exact sr (sa rfl (sn (SC.ret (finR (wc (e' := [(2, .d (eB false))]) [] [] (by kernel_rfl) rfl (by kernel_rfl)) (lresT rfl lresN) rfl))))
noncomputable def ref06_digits : Nat → UInt64 → Option ((List UInt8))
 | 0, _ => none
 | n + 1, p0 =>
  bif (decide (p0 < (10 : UInt64))) then
   some [(((48 : UInt64) + p0).toUInt8)]
  else
   Option.bind (ref06_digits n (p0 / (10 : UInt64))) fun r13 =>
   bif decide (r13.length + [(((48 : UInt64) + (p0 % (10 : UInt64))).toUInt8)].length ≤ 9223372036854775807) then
   some (r13 ++ [(((48 : UInt64) + (p0 % (10 : UInt64))).toUInt8)])
   else none
theorem ref06_digits_ok : ∀ (n : Nat) (p0 : UInt64) (r : (List UInt8)) (h0 : ref06_digits n p0 = some r), CallAt Tryd.prog 30 [.d (eU64 p0)] [] (.d (eS r)) []
 | 0, _, _, h0 => by cases h0
 | n + 1, p0, r, h0 => by
  unfold ref06_digits at h0
  refine fn0 [0] Tryd.func30 rfl rfl rfl rfl rfl ?_
  refine sr (s1 (asg (v := .d (eS ([] : List UInt8))) rfl) (sn (sq (sr (sm rfl (s1 (bi rfl rfl (q_u64_lss (b := (10 : UInt64)))) (sn (cB h0 rfl (fun h0 => ?_) (fun h0 => ?_)))))))))
  ·have q := si h0; subst q
   exact sr (sm rfl (s1 (bi rfl rfl (q_u64_add (a := (48 : UInt64)))) (s1 (cvo rfl (cv_u64_u8 un22 un5 ((48 : UInt64) + p0))) (s1 (bsn (k := 0) (ds := List.map eU8 [(((48 : UInt64) + p0).toUInt8)]) (off := 0) (l' := [(((48 : UInt64) + p0).toUInt8)].length) rfl un50 ei5 rfl rfl (by rfl) rfl rfl rfl) (s1 (cvo (v := .d (eS [(((48 : UInt64) + p0).toUInt8)])) rfl (cv_bytes_str un50 un9 un5 (el_full (xs := [(((48 : UInt64) + p0).toUInt8)]) rfl) (fun _ hh => by cases hh))) (sa rfl (sn (SC.ret (finR (wc (e' := [(2, .d (eS [(((48 : UInt64) + p0).toUInt8)]))]) [] [] (by kernel_rfl) rfl (by kernel_rfl)) (lresT rfl lresN) rfl)))))))))
  ·obtain ⟨r13, hq12, h0⟩ := ob h0; obtain ⟨hg14, h0⟩ := gd h0; have q := si h0; subst q
   refine sk (sd (by kernel_rfl) (t1 ([], false) (mv rfl) rfl (t1 ([], false) (bi (v := .d (eU64 (p0 / (10 : UInt64)))) rfl rfl (fun X Y => b_u64_quo _ X Y p0 (10 : UInt64) (by decide))) rfl (tc0 (ref06_digits_ok n (p0 / (10 : UInt64)) _ hq12) wf rfl rfl rfl cb30 rfl (fun _ => rfl) (fun _ => rfl) (t1 ([], false) (mv rfl) rfl (t1 ([], false) (bi (v := .d (eU64 (p0 % (10 : UInt64)))) rfl rfl (fun X Y => b_u64_rem _ X Y p0 (10 : UInt64) (by decide))) rfl (t1 ([], false) (bi rfl rfl (q_u64_add (a := (48 : UInt64)))) rfl (t1 ([], false) (cvo rfl (cv_u64_u8 un22 un5 ((48 : UInt64) + (p0 % (10 : UInt64))))) rfl (t1 ([0], true) (bsn (k := 0) (ds := List.map eU8 [(((48 : UInt64) + (p0 % (10 : UInt64))).toUInt8)]) (off := 0) (l' := [(((48 : UInt64) + (p0 % (10 : UInt64))).toUInt8)].length) rfl un50 ei5 rfl rfl (by rfl) rfl rfl rfl) rfl ?_)))))))))
   exact t1 ([0], false) (cvo (v := .d (eS [(((48 : UInt64) + (p0 % (10 : UInt64))).toUInt8)])) rfl (cv_bytes_str un50 un9 un5 (el_full (xs := [(((48 : UInt64) + (p0 % (10 : UInt64))).toUInt8)]) rfl) (fun _ hh => by cases hh))) rfl (t1 ([], false) (bi (v := .d (eS (r13 ++ [(((48 : UInt64) + (p0 % (10 : UInt64))).toUInt8)]))) rfl rfl (fun X Y => b_str_add _ X Y r13 [(((48 : UInt64) + (p0 % (10 : UInt64))).toUInt8)] hg14)) rfl (t1 ([], false) (asg rfl) rfl (tn (by decide +kernel) (SC.ret (finR (wc (e' := [(2, .d (eS (r13 ++ [(((48 : UInt64) + (p0 % (10 : UInt64))).toUInt8)])))]) [] [] (by kernel_rfl) rfl (by kernel_rfl)) (lresT rfl lresN) rfl)))))
end Lv
