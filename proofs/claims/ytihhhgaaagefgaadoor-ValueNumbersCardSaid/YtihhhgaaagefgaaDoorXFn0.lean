/- Part of the proof of a law: functions and their walks. -/
import Derived.Test.YtihhhgaaagefgaaDoorXPrims
namespace Lv
open Go Go.Proofs
set_option linter.unusedVariables false
set_option linter.unusedSimpArgs false
set_option linter.unusedSectionVars false
set_option maxRecDepth 100000
variable [BaseTab] [TabOk]
noncomputable def value_unhex (p0 : List UInt8) : Option ((List UInt8) × Bool) :=
 bif ((Int.tmod (p0.length : Int) (2 : Int)) != (0 : Int)) then
 some (([] : List UInt8), false)
 else
 bindE (Y := (List UInt8)) (E := (List UInt8) × Bool)
 (Option.bind (α := ((List UInt8)) ⊕ ((List UInt8) × Bool))
 (loop (Y := (List UInt8) × Int) (W := ((List UInt8)) ⊕ ((List UInt8) × Bool)) (fun (y118, y119) =>
 bif (decide (y119 < (p0.length : Int))) then
 Option.bind (getI p0 y119) fun v133 =>
 Option.bind (idxF ([48, 49, 50, 51, 52, 53, 54, 55, 56, 57, 97, 98, 99, 100, 101, 102] : List UInt8) v133) fun r134 =>
 Option.bind (getI p0 (w64 (y119 + (1 : Int)))) fun v136 =>
 Option.bind (idxF ([48, 49, 50, 51, 52, 53, 54, 55, 56, 57, 97, 98, 99, 100, 101, 102] : List UInt8) v136) fun r137 =>
 Option.bind (α := Bool)
 (bif (decide (r134 < (0 : Int))) then
 some true
 else
 some (decide (r137 < (0 : Int))))
 fun y139 =>
 bif y139 then
 some (Sum.inr (Sum.inr (([] : List UInt8), false)))
 else
 bif decide ((y118.length + [(u8i (orI (w64 (r134 * 2 ^ min ((4 : UInt64).toNat : Int).toNat 64)) r137))].length) * 1 ≤ room) then
 some (Sum.inl ((y118 ++ [(u8i (orI (w64 (r134 * 2 ^ min ((4 : UInt64).toNat : Int).toNat 64)) r137))]), (w64 (y119 + (2 : Int)))))
 else none
 else
 some (Sum.inr (Sum.inl y118))) (([] : List UInt8), (0 : Int)))
 (Sum.elim (fun e => some (Sum.inl e)) (fun e => some (Sum.inr e))))
 (fun y107 =>
 some (y107, true))
 (fun e => some e)
theorem value_unhex_ok (p0 : List UInt8) (r : (List UInt8) × Bool) (h0 : value_unhex p0 = some r) : CallAt Tryd.prog 46 [.d (eS p0)] [] (.tuple [.d (eS r.1), .d (eB r.2)]) [] := by
 unfold value_unhex at h0
 refine fn0 [0] Tryd.func46 rfl rfl rfl rfl rfl ?_
 refine sr (s1 (asg (v := .d (eS ([] : List UInt8))) rfl) (sa rfl (sn (sq (sr (sm rfl (s1 (len rfl rfl rfl (len_str un9)) (s1 (bi (v := .d (eI (Int.tmod (p0.length : Int) (2 : Int)))) rfl rfl (fun X Y => b_i64_rem _ X Y (p0.length : Int) (2 : Int) (by decide))) (s1 (bi rfl rfl q_i64_neq) ?_)))))))))
 refine sn (cB h0 rfl (fun h0 => ?_) (fun h0 => ?_))
 ·have q := si h0; subst q
  exact sr (s1 (asg (v := .d (eS ([] : List UInt8))) rfl) (sa rfl (sn (SC.ret (finR (Wk.refl _) (lresT rfl (lresT rfl lresN)) rfl)))))
 ·refine sk (sr (s1 (asg (v := .d .nils) rfl) (sn (SC.seqB h0 (fun y => ⟨mk 43 [(4, .slc 0 1 0 y.length none)], [.row 1 (List.map eU8 y) true]⟩) ?_ ?_))))
  ·intro u1_108 h1 h0
   obtain ⟨u2_132, h2, h1⟩ := ob h1
   refine sr (sa rfl (sn (SC.blk (SC.loopB h2 (fun y => ⟨mk 43 [(0, .d (eS p0)), (4, .slc 0 1 0 y.1.length none), (5, .d (eI y.2))], [.row 1 (List.map eU8 y.1) true]⟩) (Wk.trans (Wk.pushE (σ' := [.row 1 (List.map eU8 ([] : List UInt8)) true]) (.row 1 [] true) (fun _ hh => by cases hh) rfl) (Wk.trans (Wk.env (e' := [(0, .d (eS p0)), (4, .slc 0 1 0 (([] : List UInt8).length) none), (5, .d (eI (0 : Int)))]) (EW.cons (AW.refl _) (EW.cons (AW.slcn _ _ _) (EW.cons (AW.refl _) EW.nil)))) (wq rfl))) ?_))))
   intro n142
   rintro ⟨y118, y119⟩ w2_131 h3 hv3
   refine sq (sr (sm rfl (sm rfl (s1 (len rfl rfl rfl (len_str un9)) (s1 (bi rfl rfl q_i64_lss) (sn (cB h3 rfl (fun h3 => ?_) (fun h3 => ?_))))))))
   ·obtain ⟨v133, hv133, h3⟩ := ob h3; obtain ⟨r134, hq135, h3⟩ := ob h3; obtain ⟨v136, hv136, h3⟩ := ob h3; obtain ⟨r137, hq138, h3⟩ := ob h3
    refine sk (sq (SC.blk (sd (by kernel_rfl) (t1 ([], false) (mv rfl) rfl (t1 ([], false) (mv rfl) rfl (t1 ([], false) (ixs rfl rfl rfl rfl (ix_str un9 (getI_some hv133).1 (getI_some hv133).2)) rfl (tc0 (idx_ok ([48, 49, 50, 51, 52, 53, 54, 55, 56, 57, 97, 98, 99, 100, 101, 102] : List UInt8) v133 _ hq135) wf rfl rfl rfl cb64 rfl (fun _ => rfl) (fun _ => rfl) (t1 ([], false) (mv rfl) rfl (t1 ([], false) (mv rfl) rfl ?_)))))))))
    refine t1 ([], false) (bi rfl rfl q_i64_add) rfl (t1 ([], false) (ixs rfl rfl rfl rfl (ix_str un9 (getI_some hv136).1 (getI_some hv136).2)) rfl (tc0 (idx_ok ([48, 49, 50, 51, 52, 53, 54, 55, 56, 57, 97, 98, 99, 100, 101, 102] : List UInt8) v136 _ hq138) wf rfl rfl rfl cb64 rfl (fun _ => rfl) (fun _ => rfl) (t1 ([], false) (asg rfl) rfl (t1 ([], false) (asg rfl) rfl (tn (by decide +kernel) (sq (SC.seqP h3 (fun y => ⟨mk 43 [(0, .d (eS p0)), (4, .slc 0 1 0 y118.length none), (5, .d (eI y119)), (6, .d (eI r134)), (7, .d (eI r137)), (32, .d (eB y))], [.row 1 (List.map eU8 y118) true]⟩) ?_ ?_)))))))
    ·intro u4_140 h4
     refine SC.region (sm rfl (s1 (bi rfl rfl q_i64_lss) (sm rfl (sp h4 (fun h4 => ?_) (fun h4 => ?_)))))
     ·have q := si h4; subst q
      exact kw rfl (kw rfl (s1 (pkt rfl rfl) (SO.nil ((wq rfl)))))
     ·have q := si h4; subst q
      exact gw rfl (mv rfl) (gw rfl (bi rfl rfl q_i64_lss) (s1 (pkf rfl rfl) (SO.nil ((wq rfl)))))
    ·rintro y139 h3
     refine cB h3 rfl (fun h3 => ?_) (fun h3 => ?_)
     ·have q := si h3; subst q; have q : _ = _ := hv3; subst q; have q := si h1; subst q; have q := si h0; subst q
      exact sr (s1 (asg (v := .d (eS ([] : List UInt8))) rfl) (sa rfl (sn (SC.ret (finR (wc (e' := [(2, .d (eS ([] : List UInt8))), (3, .d (eB false))]) [] [] (by kernel_rfl) rfl (by kernel_rfl)) (lresT rfl (lresT rfl lresN)) rfl)))))
     ·obtain ⟨hg141, h3⟩ := gd h3
      refine sk (SC.region (sm rfl (sm rfl (s1 (bi (v := .d (eI (w64 (r134 * 2 ^ min ((4 : UInt64).toNat : Int).toNat 64)))) rfl rfl (fun X Y => b_i64_shl _ X Y r134 _ (by decide))) (sm rfl (s1 (bi rfl rfl q_i64_or) (s1 (cvo rfl (cv_i64_u8 un3 un5 (orI (w64 (r134 * 2 ^ min ((4 : UInt64).toNat : Int).toNat 64)) r137))) (s1 (bsn (k := 1) (ds := List.map eU8 [(u8i (orI (w64 (r134 * 2 ^ min ((4 : UInt64).toNat : Int).toNat 64)) r137))]) (off := 0) (l' := [(u8i (orI (w64 (r134 * 2 ^ min ((4 : UInt64).toNat : Int).toNat 64)) r137))].length) rfl un50 ei5 rfl rfl (by rfl) rfl rfl rfl) (s1 (app rfl rfl rfl rfl bc50 (aF (f := eU8) (xs := y118) (k := 2) rfl un50 ei5 rfl (el_full (xs := [(u8i (orI (w64 (r134 * 2 ^ min ((4 : UInt64).toNat : Int).toNat 64)) r137))]) rfl) hg141 rfl)) ?_)))))))))
      refine sa rfl (SO.nil ?_)
      change SC _ _ _ _ _
      have q := si h3; subst q
      exact SC.region (sm rfl (s1 (bi rfl rfl q_i64_add) (sa rfl (SO.nil (lf (wc [2] [2] (by kernel_rfl) rfl (by kernel_rfl)))))))
   ·have q := si h3; subst q; have q : _ = _ := hv3; subst q; have q := si h1; subst q
    exact SC.exit (lf (wq rfl))
  ·rintro y107 h0
   have q := si h0; subst q
   exact sr (sm rfl (s1 (cvo (v := .d (eS y107)) rfl (cv_bytes_str un50 un9 un5 (el_full (xs := y107) rfl) (fun _ hh => by cases hh))) (sa rfl (sa rfl (sn (SC.ret (finR (wc (e' := [(2, .d (eS y107)), (3, .d (eB true))]) [] [] (by kernel_rfl) rfl (by kernel_rfl)) (lresT rfl (lresT rfl lresN)) rfl)))))))
noncomputable def value_unquote (p0 : List UInt8) : Option ((List UInt8) × Bool) :=
 bindE (Y := (List UInt8)) (E := (List UInt8) × Bool)
 (Option.bind (α := ((List UInt8)) ⊕ ((List UInt8) × Bool))
 (loop (Y := (List UInt8) × Int) (W := ((List UInt8)) ⊕ ((List UInt8) × Bool)) (fun (y218, y219) =>
 bif (decide (y219 < (w64 ((p0.length : Int) - (1 : Int))))) then
 bindE (Y := (List UInt8) × Int) (E := (List UInt8) × Bool)
 (Option.bind (getI p0 y219) fun v254 =>
 bif (v254 != (92 : UInt8)) then
 Option.bind (getI p0 y219) fun v255 =>
 bif decide ((y218.length + [v255].length) * 1 ≤ room) then
 some (Sum.inl ((y218 ++ [v255]), y219))
 else none
 else
 bif (decide ((w64 (y219 + (3 : Int))) > (w64 ((p0.length : Int) - (1 : Int))))) then
 some (Sum.inr (([] : List UInt8), false))
 else
 bif decide (0 ≤ (w64 (y219 + (1 : Int))) ∧ (w64 (y219 + (1 : Int))) ≤ (w64 (y219 + (3 : Int))) ∧ (w64 (y219 + (3 : Int))) ≤ (p0.length : Int)) then
 Option.bind (value_unhex (subL p0 (w64 (y219 + (1 : Int))) (w64 (y219 + (3 : Int))))) fun (r258, r259) =>
 bif (!r259) then
 some (Sum.inr (([] : List UInt8), false))
 else
 bif decide ((y218.length + r258.length) * 1 ≤ room) then
 some (Sum.inl ((y218 ++ r258), (w64 (y219 + (2 : Int)))))
 else none
 else none)
 (fun (y251, y252) =>
 some (Sum.inl (y251, (w64 (y252 + (1 : Int))))))
 (fun e => some (Sum.inr (Sum.inr e)))
 else
 some (Sum.inr (Sum.inl y218))) (([] : List UInt8), (1 : Int)))
 (Sum.elim (fun e => some (Sum.inl e)) (fun e => some (Sum.inr e))))
 (fun y197 =>
 some (y197, true))
 (fun e => some e)
theorem value_unquote_ok (p0 : List UInt8) (r : (List UInt8) × Bool) (h0 : value_unquote p0 = some r) : CallAt Tryd.prog 47 [.d (eS p0)] [] (.tuple [.d (eS r.1), .d (eB r.2)]) [] := by
 unfold value_unquote at h0
 refine fn0 [0] Tryd.func47 rfl rfl rfl rfl rfl ?_
 refine sr (s1 (asg (v := .d (eS ([] : List UInt8))) rfl) (sa rfl (sn (sr (s1 (asg (v := .d .nils) rfl) (sn (SC.seqB h0 (fun y => ⟨mk 50 [(4, .slc 0 1 0 y.length none)], [.row 1 (List.map eU8 y) true]⟩) ?_ ?_)))))))
 ·intro u1_198 h1 h0
  obtain ⟨u2_242, h2, h1⟩ := ob h1
  refine sr (sa rfl (sn (SC.blk (SC.loopB h2 (fun y => ⟨mk 50 [(0, .d (eS p0)), (4, .slc 0 1 0 y.1.length none), (5, .d (eI y.2))], [.row 1 (List.map eU8 y.1) true]⟩) (Wk.trans (Wk.pushE (σ' := [.row 1 (List.map eU8 ([] : List UInt8)) true]) (.row 1 [] true) (fun _ hh => by cases hh) rfl) (Wk.trans (Wk.env (e' := [(0, .d (eS p0)), (4, .slc 0 1 0 (([] : List UInt8).length) none), (5, .d (eI (1 : Int)))]) (EW.cons (AW.refl _) (EW.cons (AW.slcn _ _ _) (EW.cons (AW.refl _) EW.nil)))) (wq rfl))) ?_))))
  intro n262
  rintro ⟨y218, y219⟩ w2_241 h3 hv3
  refine sq (sr (sm rfl (sm rfl (s1 (len rfl rfl rfl (len_str un9)) (s1 (bi rfl rfl q_i64_sub) (s1 (bi rfl rfl q_i64_lss) (sn (cB h3 rfl (fun h3 => ?_) (fun h3 => ?_)))))))))
  ·refine sk (SC.seqB h3 (fun y => ⟨mk 50 [(0, .d (eS p0)), (4, .slc 0 1 0 y.1.length none), (5, .d (eI y.2))], [.row 1 (List.map eU8 y.1) true]⟩) ?_ ?_)
   ·intro u4_253 h4 h3
    obtain ⟨v254, hv254, h4⟩ := ob h4
    refine SC.blk (sq (sr (sm rfl (sm rfl (s1 (ixs rfl rfl rfl rfl (ix_str un9 (getI_some hv254).1 (getI_some hv254).2)) (s1 (bi rfl rfl (q_u8_neq (b := (92 : UInt8)))) (sn (cB h4 rfl (fun h4 => ?_) (fun h4 => ?_)))))))))
    ·obtain ⟨v255, hv255, h4⟩ := ob h4; obtain ⟨hg256, h4⟩ := gd h4; have q := si h4; subst q
     refine sr (sm rfl (sm rfl (sm rfl (s1 (ixs rfl rfl rfl rfl (ix_str un9 (getI_some hv255).1 (getI_some hv255).2)) (s1 (bsn (k := 1) (ds := List.map eU8 [v255]) (off := 0) (l' := [v255].length) rfl un50 ei5 rfl rfl (by rfl) rfl rfl rfl) (s1 (app rfl rfl rfl rfl bc50 (aF (f := eU8) (xs := y218) (k := 2) rfl un50 ei5 rfl (el_full (xs := [v255]) rfl) hg256 rfl)) (sa rfl (sn (SC.exit ?_)))))))))
     exact lf (wc [2] [2] (by kernel_rfl) rfl (by kernel_rfl))
    ·refine sk (sq (sr (sm rfl (s1 (bi rfl rfl q_i64_add) (sm rfl (s1 (len rfl rfl rfl (len_str un9)) (s1 (bi rfl rfl q_i64_sub) (s1 (bi rfl rfl q_i64_gtr) (sn ?_)))))))))
     refine cB h4 rfl (fun h4 => ?_) (fun h4 => ?_)
     ·have q := si h4; subst q; have q := si h3; subst q; have q : _ = _ := hv3; subst q; have q := si h1; subst q; have q := si h0; subst q
      exact sr (s1 (asg (v := .d (eS ([] : List UInt8))) rfl) (sa rfl (sn (SC.ret (finR (wc (e' := [(2, .d (eS ([] : List UInt8))), (3, .d (eB false))]) [] [] (by kernel_rfl) rfl (by kernel_rfl)) (lresT rfl (lresT rfl lresN)) rfl)))))
     ·obtain ⟨hg257, h4⟩ := gd h4; obtain ⟨⟨r258, r259⟩, hq260, h4⟩ := ob h4
      refine sk (sr (sm rfl (sm rfl (s1 (bi rfl rfl q_i64_add) (sm rfl (s1 (bi rfl rfl q_i64_add) (s1 (slo rfl rfl rfl rfl (sl_str un9 hg257)) (c0 (value_unhex_ok (subL p0 (w64 (y219 + (1 : Int))) (w64 (y219 + (3 : Int)))) _ hq260) wf rfl rfl rfl cb46 rfl (fun _ => rfl) (fun _ => rfl) (sm rfl ?_)))))))))
      refine s1 (ext rfl rfl) (s1 (ext rfl rfl) (sa rfl (sa rfl (sn (sq (sr (sm rfl (s1 (nt rfl) (sn ?_)))))))))
      refine cB h4 rfl (fun h4 => ?_) (fun h4 => ?_)
      ·have q := si h4; subst q; have q := si h3; subst q; have q : _ = _ := hv3; subst q; have q := si h1; subst q; have q := si h0; subst q
       exact sr (s1 (asg (v := .d (eS ([] : List UInt8))) rfl) (sa rfl (sn (SC.ret (finR (wc (e' := [(2, .d (eS ([] : List UInt8))), (3, .d (eB false))]) [] [] (by kernel_rfl) rfl (by kernel_rfl)) (lresT rfl (lresT rfl lresN)) rfl)))))
      ·obtain ⟨hg261, h4⟩ := gd h4; have q := si h4; subst q
       refine sk (sr (sm rfl (sm rfl (s1 (app rfl rfl rfl rfl bc9 (aF (f := eU8) (xs := y218) (k := 1) rfl un50 ei5 rfl el_str hg261 rfl)) (sa rfl (sn (SC.region (sm rfl (s1 (bi rfl rfl q_i64_add) ?_)))))))))
       exact sa rfl (SO.nil (lf (wc [1] [1] (by kernel_rfl) rfl (by kernel_rfl))))
   ·rintro ⟨y251, y252⟩ h3
    have q := si h3; subst q
    exact SC.region (sm rfl (s1 (bi rfl rfl q_i64_add) (sa rfl (SO.nil (lf (wq rfl))))))
  ·have q := si h3; subst q; have q : _ = _ := hv3; subst q; have q := si h1; subst q
   exact SC.exit (lf (wq rfl))
 ·rintro y197 h0
  have q := si h0; subst q
  exact sr (sm rfl (s1 (cvo (v := .d (eS y197)) rfl (cv_bytes_str un50 un9 un5 (el_full (xs := y197) rfl) (fun _ hh => by cases hh))) (sa rfl (sa rfl (sn (SC.ret (finR (wc (e' := [(2, .d (eS y197)), (3, .d (eB true))]) [] [] (by kernel_rfl) rfl (by kernel_rfl)) (lresT rfl (lresT rfl lresN)) rfl)))))))
noncomputable def value_read (p0 : List UInt8) : Option (Bool × ApiValue) :=
 bif (p0 == ([110, 117, 108, 108] : List UInt8)) then
 some (true, (ApiValue.mk (0 : Int) (0 : UInt64) ([] : List UInt8)))
 else
 bif (p0 == ([116, 114, 117, 101] : List UInt8)) then
 some (true, (ApiValue.mk (3 : Int) (1 : UInt64) ([] : List UInt8)))
 else
 bif (p0 == ([102, 97, 108, 115, 101] : List UInt8)) then
 some (true, (ApiValue.mk (3 : Int) (0 : UInt64) ([] : List UInt8)))
 else
 Option.bind (preF p0 ([120] : List UInt8)) fun r26 =>
 bif r26 then
 bif decide (0 ≤ (1 : Int) ∧ (1 : Int) ≤ (p0.length : Int)) then
 Option.bind (value_unhex (List.drop (1 : Int).toNat p0)) fun (r29, r30) =>
 some (r30, (ApiValue.mk (4 : Int) (0 : UInt64) r29))
 else none
 else
 Option.bind (α := Bool)
 (bif (decide ((p0.length : Int) > (1 : Int))) then
 Option.bind (getI p0 (0 : Int)) fun v36 =>
 bif (v36 == (34 : UInt8)) then
 Option.bind (getI p0 (w64 ((p0.length : Int) - (1 : Int)))) fun v37 =>
 some (v37 == (34 : UInt8))
 else
 some false
 else
 some false)
 fun y34 =>
 bif y34 then
 Option.bind (value_unquote p0) fun (r38, r39) =>
 some (r39, (ApiValue.mk (5 : Int) (0 : UInt64) r38))
 else
 Option.bind (sufF p0 ([117] : List UInt8)) fun r41 =>
 bif r41 then
 Option.bind (trimF p0 ([117] : List UInt8)) fun r43 =>
 Option.bind (parU r43 (10 : Int) (64 : Int)) fun r45 =>
 some (true, (ApiValue.mk (2 : Int) r45 ([] : List UInt8)))
 else
 Option.bind (parI p0 (10 : Int) (64 : Int)) fun r47 =>
 some (true, (ApiValue.mk (1 : Int) (u64i r47) ([] : List UInt8)))
theorem value_read_ok (p0 : List UInt8) (r : Bool × ApiValue) (h0 : value_read p0 = some r) : CallAt Tryd.prog 28 [.d (eS p0)] [] (.tuple [.d (eApiValue r.2), .d (eB r.1)]) [.box (.d (eApiValue r.2))] := by
 unfold value_read at h0
 refine fn0 [0] Tryd.func28 rfl rfl rfl rfl rfl ?_
 refine sr (s1 (alo (k := 0) zo24 rfl) (sa rfl (sn (sq (SC.blk (sr (sm rfl (s1 (bi rfl rfl (q_str_eql (b := ([110, 117, 108, 108] : List UInt8)))) (sa rfl ?_)))))))))
 refine sn (cB h0 rfl (fun h0 => ?_) (fun h0 => ?_))
 ·have q := si h0; subst q
  exact sr (s1 (bld rfl (bd24_ )) (s0 (sto rfl rfl (sB (d' := .d (eApiValue (ApiValue.mk (0 : Int) (0 : UInt64) ([] : List UInt8)))) ts24 rfl rfl rfl rfl rfl rfl rfl)) (sa rfl (sn (SC.ret (finR (Wk.refl _) (lresC rfl (ld_box ts24 ta24 rfl rfl) (lresT rfl lresN)) rfl))))))
 ·refine sr (sm rfl (s1 (bi rfl rfl (q_str_eql (b := ([116, 114, 117, 101] : List UInt8)))) (sa rfl (sn (cB h0 rfl (fun h0 => ?_) (fun h0 => ?_))))))
  ·have q := si h0; subst q
   exact sr (s1 (bld rfl (bd24_0_1 (3 : Int) (1 : UInt64))) (s0 (sto rfl rfl (sB (d' := .d (eApiValue (ApiValue.mk (3 : Int) (1 : UInt64) ([] : List UInt8)))) ts24 rfl rfl rfl rfl rfl rfl rfl)) (sa rfl (sn (SC.ret (finR (Wk.refl _) (lresC rfl (ld_box ts24 ta24 rfl rfl) (lresT rfl lresN)) rfl))))))
  ·refine sr (sm rfl (s1 (bi rfl rfl (q_str_eql (b := ([102, 97, 108, 115, 101] : List UInt8)))) (sa rfl (sn (cB h0 rfl (fun h0 => ?_) (fun h0 => ?_))))))
   ·have q := si h0; subst q
    exact sr (s1 (bld rfl (bd24_0 (3 : Int))) (s0 (sto rfl rfl (sB (d' := .d (eApiValue (ApiValue.mk (3 : Int) (0 : UInt64) ([] : List UInt8)))) ts24 rfl rfl rfl rfl rfl rfl rfl)) (sa rfl (sn (SC.ret (finR (Wk.refl _) (lresC rfl (ld_box ts24 ta24 rfl rfl) (lresT rfl lresN)) rfl))))))
   ·obtain ⟨r26, hq27, h0⟩ := ob h0
    refine sr (sm rfl (c0 (pre_ok p0 ([120] : List UInt8) _ hq27) wf rfl rfl rfl cb45 rfl (fun _ => rfl) (fun _ => rfl) (sa rfl (sn (cB h0 rfl (fun h0 => ?_) (fun h0 => ?_))))))
    ·obtain ⟨hg28, h0⟩ := gd h0; obtain ⟨⟨r29, r30⟩, hq31, h0⟩ := ob h0; have q := si h0; subst q
     refine sr (sm rfl (s1 (slo rfl rfl rfl rfl (sl_str_lo un9 hg28)) (c0 (value_unhex_ok (List.drop (1 : Int).toNat p0) _ hq31) wf rfl rfl rfl cb46 rfl (fun _ => rfl) (fun _ => rfl) (sm rfl (s1 (ext rfl rfl) (s1 (ext rfl rfl) (sa rfl (sa rfl (sn ?_)))))))))
     exact sr (sm rfl (s1 (bld rfl (bd24_0_2 (4 : Int) r29)) (sm rfl (s0 (sto rfl rfl (sB (d' := .d (eApiValue (ApiValue.mk (4 : Int) (0 : UInt64) r29))) ts24 rfl rfl rfl rfl rfl rfl rfl)) (sa rfl (sn (SC.ret (finR (Wk.refl _) (lresC rfl (ld_box ts24 ta24 rfl rfl) (lresT rfl lresN)) rfl))))))))
    ·refine SC.seqP h0 (fun y => ⟨mk 84 [(0, .d (eS p0)), (2, .ref 0 0 0), (36, .d (eB y))], [.box (.d (eApiValue (ApiValue.mk (0 : Int) (0 : UInt64) ([] : List UInt8))))]⟩) ?_ ?_
     ·intro u1_35 h1
      refine SC.region (sm rfl (s1 (len rfl rfl rfl (len_str un9)) (s1 (bi rfl rfl q_i64_gtr) (sm rfl (sp h1 (fun h1 => ?_) (fun h1 => ?_))))))
      ·obtain ⟨v36, hv36, h1⟩ := ob h1
       refine gw rfl (mv rfl) (gw rfl (ixs rfl rfl rfl rfl (ix_str un9 (getI_some hv36).1 (getI_some hv36).2)) (gw rfl (bi rfl rfl (q_u8_eql (b := (34 : UInt8)))) (s1 (pkt rfl rfl) (sm rfl (sp h1 (fun h1 => ?_) (fun h1 => ?_))))))
       ·obtain ⟨v37, hv37, h1⟩ := ob h1; have q := si h1; subst q
        exact gw rfl (mv rfl) (gw rfl (mv rfl) (gw rfl (len rfl rfl rfl (len_str un9)) (gw rfl (bi rfl rfl q_i64_sub) (gw rfl (ixs rfl rfl rfl rfl (ix_str un9 (getI_some hv37).1 (getI_some hv37).2)) (gw rfl (bi rfl rfl (q_u8_eql (b := (34 : UInt8)))) (s1 (pkt rfl rfl) (sa rfl (SO.nil ((wq rfl))))))))))
       ·have q := si h1; subst q
        exact kw rfl (kw rfl (kw rfl (kw rfl (kw rfl (kw rfl (s1 (pkf rfl rfl) (sa rfl (SO.nil ((wq rfl))))))))))
      ·have q := si h1; subst q
       refine kw rfl (kw rfl (kw rfl (s1 (pkf rfl rfl) (sm rfl (kw rfl (kw rfl (kw rfl (kw rfl (kw rfl ?_)))))))))
       exact kw rfl (s1 (pkf rfl rfl) (sa rfl (SO.nil ((wq rfl)))))
     ·rintro y34 h0
      refine cB h0 rfl (fun h0 => ?_) (fun h0 => ?_)
      ·obtain ⟨⟨r38, r39⟩, hq40, h0⟩ := ob h0; have q := si h0; subst q
       refine sr (sm rfl (c0 (value_unquote_ok p0 _ hq40) wf rfl rfl rfl cb47 rfl (fun _ => rfl) (fun _ => rfl) (sm rfl (s1 (ext rfl rfl) (s1 (ext rfl rfl) (sa rfl (sa rfl (sn (sr ?_)))))))))
       exact sm rfl (s1 (bld rfl (bd24_0_2 (5 : Int) r38)) (sm rfl (s0 (sto rfl rfl (sB (d' := .d (eApiValue (ApiValue.mk (5 : Int) (0 : UInt64) r38))) ts24 rfl rfl rfl rfl rfl rfl rfl)) (sa rfl (sn (SC.ret (finR (Wk.refl _) (lresC rfl (ld_box ts24 ta24 rfl rfl) (lresT rfl lresN)) rfl)))))))
      ·obtain ⟨r41, hq42, h0⟩ := ob h0
       refine sr (sm rfl (c0 (suf_ok p0 ([117] : List UInt8) _ hq42) wf rfl rfl rfl cb48 rfl (fun _ => rfl) (fun _ => rfl) (sa rfl (sn (cB h0 rfl (fun h0 => ?_) (fun h0 => ?_))))))
       ·obtain ⟨r43, hq44, h0⟩ := ob h0; obtain ⟨r45, hq46, h0⟩ := ob h0; have q := si h0; subst q
        refine sr (sm rfl (c0 (trim_ok p0 ([117] : List UInt8) _ hq44) wf rfl rfl rfl cb50 rfl (fun _ => rfl) (fun _ => rfl) (c0 (parU_ok r43 (10 : Int) (64 : Int) _ hq46) wf rfl rfl rfl cb49 rfl (fun _ => rfl) (fun _ => rfl) (sm rfl (s1 (ext rfl rfl) (s1 (ext rfl rfl) (sa rfl (sa rfl (sn ?_)))))))))
        exact sd (by kernel_rfl) (t1 ([], false) (mv rfl) rfl (t1 ([], false) (bld rfl (bd24_0_1 (2 : Int) r45)) rfl (t1 ([], false) (mv rfl) rfl (t1 ([], false) (bi0 (v := .d (eB true)) rfl rfl (by kernel_rfl)) rfl (t0 ([0], true) (sto rfl rfl (sB (d' := .d (eApiValue (ApiValue.mk (2 : Int) r45 ([] : List UInt8)))) ts24 rfl rfl rfl rfl rfl rfl rfl)) rfl (t1 ([], false) (asg rfl) rfl (tn (by decide +kernel) (SC.ret (finR (Wk.refl _) (lresC rfl (ld_box ts24 ta24 rfl rfl) (lresT rfl lresN)) rfl)))))))))
       ·refine SC.skip ?_
        change SC _ _ _ _ _
        obtain ⟨r47, hq48, h0⟩ := ob h0; have q := si h0; subst q
        refine sr (sm rfl (c0 (parI_ok p0 (10 : Int) (64 : Int) _ hq48) wf rfl rfl rfl cb51 rfl (fun _ => rfl) (fun _ => rfl) (sm rfl (s1 (ext rfl rfl) (s1 (ext rfl rfl) (sa rfl (sa rfl (sn (sd (by kernel_rfl) ?_)))))))))
        exact t1 ([], false) (mv rfl) rfl (t1 ([], false) (cvo rfl (cv_i64_u64 un2 un22 r47)) rfl (t1 ([], false) (bld rfl (bd24_0_1 (1 : Int) (u64i r47))) rfl (t1 ([], false) (mv rfl) rfl (t1 ([], false) (bi0 (v := .d (eB true)) rfl rfl (by kernel_rfl)) rfl (t0 ([0], true) (sto rfl rfl (sB (d' := .d (eApiValue (ApiValue.mk (1 : Int) (u64i r47) ([] : List UInt8)))) ts24 rfl rfl rfl rfl rfl rfl rfl)) rfl (t1 ([], false) (asg rfl) rfl (tn (by decide +kernel) (SC.ret (finR (Wk.refl _) (lresC rfl (ld_box ts24 ta24 rfl rfl) (lresT rfl lresN)) rfl)))))))))
noncomputable def value_Valid (p0 : ApiValue) : Option Bool :=
 bif (p0.Kind == (0 : Int)) then
 some (eqApiValue p0 (ApiValue.mk (0 : Int) (0 : UInt64) ([] : List UInt8)))
 else
 Option.bind (α := Bool)
 (bif (p0.Kind == (1 : Int)) then
 some (p0.Kind == (1 : Int))
 else
 some (p0.Kind == (2 : Int)))
 fun y14 =>
 bif y14 then
 some (p0.S == ([] : List UInt8))
 else
 bif (p0.Kind == (3 : Int)) then
 Option.bind (α := Bool)
 (bif (decide (p0.N ≤ (1 : UInt64))) then
 some (p0.S == ([] : List UInt8))
 else
 some false)
 fun y16 =>
 some y16
 else
 bif (p0.Kind == (4 : Int)) then
 Option.bind (α := Bool)
 (bif (p0.N == (0 : UInt64)) then
 some (decide ((p0.S.length : Int) ≤ (64 : Int)))
 else
 some false)
 fun y18 =>
 some y18
 else
 bif (p0.Kind == (5 : Int)) then
 Option.bind (α := Bool)
 (bif (p0.N == (0 : UInt64)) then
 bif (decide ((p0.S.length : Int) ≤ (64 : Int))) then
 Option.bind (validF p0.S) fun r24 =>
 some r24
 else
 some false
 else
 some false)
 fun y22 =>
 some y22
 else
 some false
theorem value_Valid_ok (p0 : ApiValue) (r : Bool) (h0 : value_Valid p0 = some r) : CallAt Tryd.prog 13 [.d (eApiValue p0)] [] (.d (eB r)) [] := by
 unfold value_Valid at h0
 refine fn0 [0] Tryd.func13 rfl rfl rfl rfl rfl ?_
 refine sr (s1 (bxo (k := 0) rfl rfl rfl) (sa rfl (sn (sq (sr (s1 (far (k := 0) rfl fo24_0 ts3 rfl) (s1 (lod rfl (ld_box ts3 ta3 rfl rfl)) (sn (SC.blk ?_)))))))))
 refine sr (s1 (bi rfl rfl q_i64_eql) (sa rfl (sn (cB h0 rfl (fun h0 => ?_) (fun h0 => ?_)))))
 ·have q := si h0; subst q
  exact sr (s1 (lod (v := .d (eApiValue p0)) rfl (ld_box ts24 ta24 rfl rfl)) (s1 (bld rfl (bd24_ )) (s1 (bi (v := .d (eB (eqApiValue p0 (ApiValue.mk (0 : Int) (0 : UInt64) ([] : List UInt8))))) rfl rfl (fun X Y => eqApiValue_eql_24 X Y p0 (ApiValue.mk (0 : Int) (0 : UInt64) ([] : List UInt8)))) (sa rfl (sn (SC.ret (finR (wc (e' := [(2, .d (eB (eqApiValue p0 (ApiValue.mk (0 : Int) (0 : UInt64) ([] : List UInt8)))))]) [] [] (by kernel_rfl) rfl (by kernel_rfl)) (lresT rfl lresN) rfl)))))))
 ·refine SC.seqP h0 (fun y => ⟨mk 53 [(1, .ref 0 0 0), (4, .d (eI p0.Kind)), (10, .d (eB y))], [.box (.d (eApiValue p0))]⟩) ?_ ?_
  ·intro u1_15 h1
   refine sr (s1 (bi rfl rfl q_i64_eql) (sa rfl (sn (cB h1 rfl (fun h1 => ?_) (fun h1 => ?_)))))
   ·have q := si h1; subst q
    exact SC.skip ((wq rfl))
   ·have q := si h1; subst q
    exact SC.region (s1 (bi rfl rfl q_i64_eql) (sa rfl (SO.nil ((wq rfl)))))
  ·rintro y14 h0
   refine cB h0 rfl (fun h0 => ?_) (fun h0 => ?_)
   ·have q := si h0; subst q
    exact sr (s1 (far (k := 2) rfl fo24_2 ts9 rfl) (s1 (lod rfl (ld_box ts9 ta9 rfl rfl)) (s1 (bi rfl rfl (q_str_eql (b := ([] : List UInt8)))) (sa rfl (sn (SC.ret (finR (wc (e' := [(2, .d (eB (p0.S == ([] : List UInt8))))]) [] [] (by kernel_rfl) rfl (by kernel_rfl)) (lresT rfl lresN) rfl)))))))
   ·refine sr (s1 (bi rfl rfl q_i64_eql) (sa rfl (sn (cB h0 rfl (fun h0 => ?_) (fun h0 => ?_)))))
    ·refine SC.seqP h0 (fun y => ⟨mk 53 [(2, .d (eB y))], []⟩) ?_ ?_
     ·intro u1_17 h1
      refine SC.region (s1 (far (k := 1) rfl fo24_1 ts22 rfl) (s1 (lod rfl (ld_box ts22 ta22 rfl rfl)) (s1 (bi rfl rfl (q_u64_leq (b := (1 : UInt64)))) (sm rfl (sp h1 (fun h1 => ?_) (fun h1 => ?_))))))
      ·have q := si h1; subst q
       exact gw rfl (far (k := 2) rfl fo24_2 ts9 rfl) (gw rfl (lod rfl (ld_box ts9 ta9 rfl rfl)) (gw rfl (bi rfl rfl (q_str_eql (b := ([] : List UInt8)))) (s1 (pkt rfl rfl) (sa rfl (SO.nil ((wc [] [] (by kernel_rfl) rfl (by kernel_rfl))))))))
      ·have q := si h1; subst q
       exact kw rfl (kw rfl (kw rfl (s1 (pkf rfl rfl) (sa rfl (SO.nil ((wc [] [] (by kernel_rfl) rfl (by kernel_rfl))))))))
     ·rintro y16 h0
      have q := si h0; subst q
      exact SC.ret (finR (Wk.refl _) (lresT rfl lresN) rfl)
    ·refine sr (s1 (bi rfl rfl q_i64_eql) (sa rfl (sn (cB h0 rfl (fun h0 => ?_) (fun h0 => ?_)))))
     ·refine SC.seqP h0 (fun y => ⟨mk 53 [(2, .d (eB y))], []⟩) ?_ ?_
      ·intro u1_19 h1
       refine SC.region (s1 (far (k := 1) rfl fo24_1 ts22 rfl) (s1 (lod rfl (ld_box ts22 ta22 rfl rfl)) (s1 (bi rfl rfl (q_u64_eql (b := (0 : UInt64)))) (sm rfl (sp h1 (fun h1 => ?_) (fun h1 => ?_))))))
       ·have q := si h1; subst q
        exact gw rfl (far (k := 2) rfl fo24_2 ts9 rfl) (gw rfl (lod rfl (ld_box ts9 ta9 rfl rfl)) (gw rfl (len rfl rfl rfl (len_str un9)) (gw rfl (bi rfl rfl q_i64_leq) (s1 (pkt rfl rfl) (sa rfl (SO.nil ((wc [] [] (by kernel_rfl) rfl (by kernel_rfl)))))))))
       ·have q := si h1; subst q
        exact kw rfl (kw rfl (kw rfl (kw rfl (s1 (pkf rfl rfl) (sa rfl (SO.nil ((wc [] [] (by kernel_rfl) rfl (by kernel_rfl)))))))))
      ·rintro y18 h0
       have q := si h0; subst q
       exact SC.ret (finR (Wk.refl _) (lresT rfl lresN) rfl)
     ·refine sr (s1 (bi rfl rfl q_i64_eql) (sa rfl (sn (cB h0 rfl (fun h0 => ?_) (fun h0 => ?_)))))
      ·refine SC.seqP h0 (fun y => ⟨mk 53 [(2, .d (eB y))], []⟩) ?_ ?_
       ·intro u1_23 h1
        refine SC.region (s1 (far (k := 1) rfl fo24_1 ts22 rfl) (s1 (lod rfl (ld_box ts22 ta22 rfl rfl)) (s1 (bi rfl rfl (q_u64_eql (b := (0 : UInt64)))) (sm rfl (sp h1 (fun h1 => ?_) (fun h1 => ?_))))))
        ·refine gw rfl (far (k := 2) rfl fo24_2 ts9 rfl) (gw rfl (lod rfl (ld_box ts9 ta9 rfl rfl)) (gw rfl (len rfl rfl rfl (len_str un9)) (gw rfl (bi rfl rfl q_i64_leq) (s1 (pkt rfl rfl) (sm rfl (sp h1 (fun h1 => ?_) (fun h1 => ?_)))))))
         ·obtain ⟨r24, hq25, h1⟩ := ob h1; have q := si h1; subst q
          exact gw rfl (far (k := 2) rfl fo24_2 ts9 rfl) (gw rfl (lod rfl (ld_box ts9 ta9 rfl rfl)) (c0 (valid_ok p0.S _ hq25) (ww rfl) rfl rfl rfl cb31 rfl (fun _ => rfl) (fun _ => rfl) (s1 (pkt rfl rfl) (sa rfl (SO.nil ((wc [] [] (by kernel_rfl) rfl (by kernel_rfl))))))))
         ·have q := si h1; subst q
          exact kw rfl (kw rfl (kw rfl (s1 (pkf rfl rfl) (sa rfl (SO.nil ((wc [] [] (by kernel_rfl) rfl (by kernel_rfl))))))))
        ·have q := si h1; subst q
         refine kw rfl (kw rfl (kw rfl (kw rfl (s1 (pkf rfl rfl) (sm rfl (kw rfl (kw rfl (kw rfl (s1 (pkf rfl rfl) ?_)))))))))
         exact sa rfl (SO.nil ((wc [] [] (by kernel_rfl) rfl (by kernel_rfl))))
       ·rintro y22 h0
        have q := si h0; subst q
        exact SC.ret (finR (Wk.refl _) (lresT rfl lresN) rfl)
      ·refine SC.skip ?_
       change SC _ _ _ _ _
       have q := si h0; subst q
       exact sr (sa rfl (sn (SC.ret (finR (wc (e' := [(2, .d (eB false))]) [] [] (by kernel_rfl) rfl (by kernel_rfl)) (lresT rfl lresN) rfl))))
noncomputable def internal_strconv_FormatBool (p0 : Bool) : Option ((List UInt8)) :=
 bif p0 then
 some ([116, 114, 117, 101] : List UInt8)
 else
 some ([102, 97, 108, 115, 101] : List UInt8)
theorem internal_strconv_FormatBool_ok (p0 : Bool) (r : (List UInt8)) (h0 : internal_strconv_FormatBool p0 = some r) : CallAt Tryd.prog 41 [.d (eB p0)] [] (.d (eS r)) [] := by
 unfold internal_strconv_FormatBool at h0
 refine fn0 [0] Tryd.func41 rfl rfl rfl rfl rfl ?_
 refine sr (s1 (asg (v := .d (eS ([] : List UInt8))) rfl) (sn (sq (sr (sm rfl (sn (cB h0 rfl (fun h0 => ?_) (fun h0 => ?_))))))))
 ·have q := si h0; subst q
  exact sr (s1 (asg (v := .d (eS ([116, 114, 117, 101] : List UInt8))) rfl) (sn (SC.ret (finR (Wk.refl _) (lresT rfl lresN) rfl))))
 ·have q := si h0; subst q
  exact sk (sr (s1 (asg (v := .d (eS ([102, 97, 108, 115, 101] : List UInt8))) rfl) (sn (SC.ret (finR (Wk.refl _) (lresT rfl lresN) rfl)))))
noncomputable def strconv_FormatBool (p0 : Bool) : Option ((List UInt8)) :=
 Option.bind (internal_strconv_FormatBool p0) fun r4 =>
 some r4
theorem strconv_FormatBool_ok (p0 : Bool) (r : (List UInt8)) (h0 : strconv_FormatBool p0 = some r) : CallAt Tryd.prog 25 [.d (eB p0)] [] (.d (eS r)) [] := by
 unfold strconv_FormatBool at h0
 refine fn0 [0] Tryd.func25 rfl rfl rfl rfl rfl ?_
 obtain ⟨r4, hq5, h0⟩ := ob h0; have q := si h0; subst q
 exact sr (s1 (asg (v := .d (eS ([] : List UInt8))) rfl) (sn (sr (sm rfl (c0 (internal_strconv_FormatBool_ok p0 _ hq5) wf rfl rfl rfl cb41 rfl (fun _ => rfl) (fun _ => rfl) (sa rfl (sn (SC.ret (finR (Wk.refl _) (lresT rfl lresN) rfl)))))))))
noncomputable def value_Text (p0 : ApiValue) : Option ((List UInt8)) :=
 Option.bind (value_Valid p0) fun r16 =>
 bif (!r16) then
 some ([] : List UInt8)
 else
 bif (p0.Kind == (1 : Int)) then
 Option.bind (fmtI (i64u p0.N) (10 : Int)) fun r18 =>
 some r18
 else
 bif (p0.Kind == (2 : Int)) then
 Option.bind (fmtU p0.N (10 : Int)) fun r20 =>
 bif decide (r20.length + ([117] : List UInt8).length ≤ 9223372036854775807) then
 some (r20 ++ ([117] : List UInt8))
 else none
 else
 bif (p0.Kind == (3 : Int)) then
 Option.bind (strconv_FormatBool (p0.N == (1 : UInt64))) fun r23 =>
 some r23
 else
 bif (p0.Kind == (4 : Int)) then
 Option.bind (hexF p0.S) fun r25 =>
 bif decide (([120] : List UInt8).length + r25.length ≤ 9223372036854775807) then
 some (([120] : List UInt8) ++ r25)
 else none
 else
 bif (p0.Kind == (5 : Int)) then
 Option.bind (quoteF p0.S) fun r28 =>
 some r28
 else
 some ([110, 117, 108, 108] : List UInt8)
theorem value_Text_ok (p0 : ApiValue) (r : (List UInt8)) (h0 : value_Text p0 = some r) : CallAt Tryd.prog 9 [.d (eApiValue p0)] [] (.d (eS r)) [] := by
 unfold value_Text at h0
 refine fn0 [0] Tryd.func9 rfl rfl rfl rfl rfl ?_
 obtain ⟨r16, hq17, h0⟩ := ob h0
 refine sr (s1 (bxo (k := 0) rfl rfl rfl) (s1 (asg (v := .d (eS ([] : List UInt8))) rfl) (sn (sq (sr (s1 (lod (v := .d (eApiValue p0)) rfl (ld_box ts24 ta24 rfl rfl)) (c0 (value_Valid_ok p0 _ hq17) wf rfl rfl rfl cb13 rfl (fun _ => rfl) (fun _ => rfl) (s1 (nt rfl) (sn ?_)))))))))
 refine cB h0 rfl (fun h0 => ?_) (fun h0 => ?_)
 ·have q := si h0; subst q
  exact sr (s1 (asg (v := .d (eS ([] : List UInt8))) rfl) (sn (SC.ret (finR (wc (e' := [(2, .d (eS ([] : List UInt8)))]) [] [] (by kernel_rfl) rfl (by kernel_rfl)) (lresT rfl lresN) rfl))))
 ·refine sk (sq (sr (s1 (far (k := 0) rfl fo24_0 ts3 rfl) (s1 (lod rfl (ld_box ts3 ta3 rfl rfl)) (sn (SC.blk (sr (s1 (bi rfl rfl q_i64_eql) (sa rfl ?_)))))))))
  refine sn (cB h0 rfl (fun h0 => ?_) (fun h0 => ?_))
  ·obtain ⟨r18, hq19, h0⟩ := ob h0; have q := si h0; subst q
   exact sr (s1 (far (k := 1) rfl fo24_1 ts22 rfl) (s1 (lod rfl (ld_box ts22 ta22 rfl rfl)) (s1 (cvo rfl (cv_u64_i64 un22 un2 p0.N)) (c0 (fmtI_ok (i64u p0.N) (10 : Int) _ hq19) wf rfl rfl rfl cb23 rfl (fun _ => rfl) (fun _ => rfl) (sa rfl (sn (SC.ret (finR (wc (e' := [(2, .d (eS r18))]) [] [] (by kernel_rfl) rfl (by kernel_rfl)) (lresT rfl lresN) rfl))))))))
  ·refine sr (s1 (bi rfl rfl q_i64_eql) (sa rfl (sn (cB h0 rfl (fun h0 => ?_) (fun h0 => ?_)))))
   ·obtain ⟨r20, hq21, h0⟩ := ob h0; obtain ⟨hg22, h0⟩ := gd h0; have q := si h0; subst q
    exact sr (s1 (far (k := 1) rfl fo24_1 ts22 rfl) (s1 (lod rfl (ld_box ts22 ta22 rfl rfl)) (c0 (fmtU_ok p0.N (10 : Int) _ hq21) wf rfl rfl rfl cb24 rfl (fun _ => rfl) (fun _ => rfl) (s1 (bi (v := .d (eS (r20 ++ ([117] : List UInt8)))) rfl rfl (fun X Y => b_str_add _ X Y r20 ([117] : List UInt8) hg22)) (sa rfl (sn (SC.ret (finR (wc (e' := [(2, .d (eS (r20 ++ ([117] : List UInt8))))]) [] [] (by kernel_rfl) rfl (by kernel_rfl)) (lresT rfl lresN) rfl))))))))
   ·refine sr (s1 (bi rfl rfl q_i64_eql) (sa rfl (sn (cB h0 rfl (fun h0 => ?_) (fun h0 => ?_)))))
    ·obtain ⟨r23, hq24, h0⟩ := ob h0; have q := si h0; subst q
     exact sr (s1 (far (k := 1) rfl fo24_1 ts22 rfl) (s1 (lod rfl (ld_box ts22 ta22 rfl rfl)) (s1 (bi rfl rfl (q_u64_eql (b := (1 : UInt64)))) (c0 (strconv_FormatBool_ok (p0.N == (1 : UInt64)) _ hq24) wf rfl rfl rfl cb25 rfl (fun _ => rfl) (fun _ => rfl) (sa rfl (sn (SC.ret (finR (wc (e' := [(2, .d (eS r23))]) [] [] (by kernel_rfl) rfl (by kernel_rfl)) (lresT rfl lresN) rfl))))))))
    ·refine sr (s1 (bi rfl rfl q_i64_eql) (sa rfl (sn (cB h0 rfl (fun h0 => ?_) (fun h0 => ?_)))))
     ·obtain ⟨r25, hq26, h0⟩ := ob h0; obtain ⟨hg27, h0⟩ := gd h0; have q := si h0; subst q
      exact sr (s1 (far (k := 2) rfl fo24_2 ts9 rfl) (s1 (lod rfl (ld_box ts9 ta9 rfl rfl)) (c0 (hex_ok p0.S _ hq26) wf rfl rfl rfl cb26 rfl (fun _ => rfl) (fun _ => rfl) (s1 (bi (v := .d (eS (([120] : List UInt8) ++ r25))) rfl rfl (fun X Y => b_str_add _ X Y ([120] : List UInt8) r25 hg27)) (sa rfl (sn (SC.ret (finR (wc (e' := [(2, .d (eS (([120] : List UInt8) ++ r25)))]) [] [] (by kernel_rfl) rfl (by kernel_rfl)) (lresT rfl lresN) rfl))))))))
     ·refine sr (s1 (bi rfl rfl q_i64_eql) (sa rfl (sn (cB h0 rfl (fun h0 => ?_) (fun h0 => ?_)))))
      ·obtain ⟨r28, hq29, h0⟩ := ob h0; have q := si h0; subst q
       exact sr (s1 (far (k := 2) rfl fo24_2 ts9 rfl) (s1 (lod rfl (ld_box ts9 ta9 rfl rfl)) (c0 (quote_ok p0.S _ hq29) wf rfl rfl rfl cb27 rfl (fun _ => rfl) (fun _ => rfl) (sa rfl (sn (SC.ret (finR (wc (e' := [(2, .d (eS r28))]) [] [] (by kernel_rfl) rfl (by kernel_rfl)) (lresT rfl lresN) rfl)))))))
      ·refine SC.skip ?_
       change SC _ _ _ _ _
       have q := si h0; subst q
       exact sr (s1 (asg (v := .d (eS ([110, 117, 108, 108] : List UInt8))) rfl) (sn (SC.ret (finR (wc (e' := [(2, .d (eS ([110, 117, 108, 108] : List UInt8)))]) [] [] (by kernel_rfl) rfl (by kernel_rfl)) (lresT rfl lresN) rfl))))
noncomputable def value_Parse (p0 : List UInt8) : Option (Int × ApiValue) :=
 Option.bind (value_read p0) fun (r12, r13) =>
 Option.bind (α := Bool)
 (bif (!r12) then
 some true
 else
 Option.bind (value_Text r13) fun r19 =>
 some (r19 != p0))
 fun y17 =>
 bif y17 then
 some ((2 : Int), (ApiValue.mk (0 : Int) (0 : UInt64) ([] : List UInt8)))
 else
 some ((0 : Int), r13)
theorem value_Parse_ok (p0 : List UInt8) (r : Int × ApiValue) (h0 : value_Parse p0 = some r) : CallAt Tryd.prog 10 [.d (eS p0)] [] (.tuple [.d (eApiValue r.2), .d (eI r.1)]) [.box (.d (eApiValue r.2))] := by
 unfold value_Parse at h0
 refine fn0 [0] Tryd.func10 rfl rfl rfl rfl rfl ?_
 obtain ⟨⟨r12, r13⟩, hq14, h0⟩ := ob h0
 refine sr (s1 (alo (k := 0) zo24 rfl) (sa rfl (sn (sr (sm rfl (cq [] [1] (value_read_ok p0 _ hq14) wf rfl rfl rfl cb28 rfl rfl rfl rfl rfl rfl rfl rfl (sm rfl (s1 (ext rfl rfl) (s1 (ext rfl rfl) ?_)))))))))
 refine s1 (alo (k := 2) zo24 rfl) (s0 (sto rfl rfl (sB (d' := .d (eApiValue r13)) ts24 rfl rfl rfl rfl rfl rfl rfl)) (sa rfl (sn (sq (SC.seqP h0 (fun y => ⟨mk 21 [(2, .ref 0 0 0), (4, .ref 1 0 0), (18, .d (eB y))], [.box (.d (eApiValue (ApiValue.mk (0 : Int) (0 : UInt64) ([] : List UInt8)))), .box (.d (eApiValue r13))]⟩) ?_ ?_)))))
 ·intro u1_18 h1
  refine SC.region (sm rfl (s1 (nt rfl) (sm rfl (sp h1 (fun h1 => ?_) (fun h1 => ?_)))))
  ·have q := si h1; subst q
   exact kw rfl (kw rfl (kw rfl (kw rfl (s1 (pkt rfl rfl) (SO.nil ((wc [0, 2] [0, 2] (by kernel_rfl) rfl (by kernel_rfl))))))))
  ·obtain ⟨r19, hq20, h1⟩ := ob h1; have q := si h1; subst q
   exact gw rfl (lod (v := .d (eApiValue r13)) rfl (ld_box ts24 ta24 rfl rfl)) (c0 (value_Text_ok r13 _ hq20) (ww rfl) rfl rfl rfl cb9 rfl (fun _ => rfl) (fun _ => rfl) (gw rfl (mv rfl) (gw rfl (bi rfl rfl q_str_neq) (s1 (pkf rfl rfl) (SO.nil ((wc [0, 2] [0, 2] (by kernel_rfl) rfl (by kernel_rfl))))))))
 ·rintro y17 h0
  refine cB h0 rfl (fun h0 => ?_) (fun h0 => ?_)
  ·have q := si h0; subst q
   exact sr (s1 (bld rfl (bd24_ )) (s0 (sto rfl rfl (sB (d' := .d (eApiValue (ApiValue.mk (0 : Int) (0 : UInt64) ([] : List UInt8)))) ts24 rfl rfl rfl rfl rfl rfl rfl)) (sa rfl (sn (SC.ret (finR (wc (e' := [(2, .ref 0 0 0), (3, .d (eI (2 : Int)))]) [0] [0] (by kernel_rfl) rfl (by kernel_rfl)) (lresC rfl (ld_box ts24 ta24 rfl rfl) (lresT rfl lresN)) rfl))))))
  ·have q := si h0; subst q
   exact sk (sr (s1 (lod (v := .d (eApiValue r13)) rfl (ld_box ts24 ta24 rfl rfl)) (s0 (sto rfl rfl (sB (d' := .d (eApiValue r13)) ts24 rfl rfl rfl rfl rfl rfl rfl)) (sa rfl (sn (SC.ret (finR (wc (e' := [(2, .ref 0 0 0), (3, .d (eI (0 : Int)))]) [0] [0] (by kernel_rfl) rfl (by kernel_rfl)) (lresC rfl (ld_box ts24 ta24 rfl rfl) (lresT rfl lresN)) rfl)))))))
noncomputable def cmp_isNaN_int (p0 : Int) : Option Unit :=
 some ()
theorem cmp_isNaN_int_ok (p0 : Int) (r : Unit) (h0 : cmp_isNaN_int p0 = some r) : CallAt Tryd.prog 54 [.d (eI p0)] [] (.d (eB (p0 != p0))) [] := by
 unfold cmp_isNaN_int at h0
 refine fn0 [0] Tryd.func54 rfl rfl rfl rfl rfl ?_
 have q := si h0; subst q
 refine sr (sa rfl (sn (sr (sm rfl (sm rfl (s1 (bi rfl rfl q_i64_neq) (sa rfl (sn (SC.ret ?_)))))))))
 exact finR (Wk.refl _) (lresT rfl lresN) rfl
noncomputable def cmp_Compare_int (p0 : Int) (p1 : Int) : Option Int :=
 Option.bind (cmp_isNaN_int p0) fun _ =>
 Option.bind (cmp_isNaN_int p1) fun _ =>
 bif (p0 != p0) then
 bif (p1 != p1) then
 some (0 : Int)
 else
 some (-1 : Int)
 else
 bif (p1 != p1) then
 some (1 : Int)
 else
 bif (decide (p0 < p1)) then
 some (-1 : Int)
 else
 bif (decide (p0 > p1)) then
 some (1 : Int)
 else
 some (0 : Int)
theorem cmp_Compare_int_ok (p0 : Int) (p1 : Int) (r : Int) (h0 : cmp_Compare_int p0 p1 = some r) : CallAt Tryd.prog 32 [.d (eI p0), .d (eI p1)] [] (.d (eI r)) [] := by
 unfold cmp_Compare_int at h0
 refine fn0 [0, 1] Tryd.func32 rfl rfl rfl rfl rfl ?_
 obtain ⟨_, hq4, h0⟩ := ob h0; obtain ⟨_, hq5, h0⟩ := ob h0
 refine sr (sa rfl (sn (sr (sm rfl (c0 (cmp_isNaN_int_ok p0 _ hq4) wf rfl rfl rfl cb54 rfl (fun _ => rfl) (fun _ => rfl) (sa rfl (sn (sr (sm rfl ?_)))))))))
 refine c0 (cmp_isNaN_int_ok p1 _ hq5) wf rfl rfl rfl cb54 rfl (fun _ => rfl) (fun _ => rfl) (sa rfl (sn (sq (sr (sm rfl (sn (cB h0 rfl (fun h0 => ?_) (fun h0 => ?_))))))))
 ·refine sq (sr (sm rfl (sn (cB h0 rfl (fun h0 => ?_) (fun h0 => ?_)))))
  ·have q := si h0; subst q
   exact sr (sa rfl (sn (SC.ret (finR (Wk.refl _) (lresT rfl lresN) rfl))))
  ·have q := si h0; subst q
   exact sk (sr (sa rfl (sn (SC.ret (finR (Wk.refl _) (lresT rfl lresN) rfl)))))
 ·refine sk (sq (sr (sm rfl (sn (cB h0 rfl (fun h0 => ?_) (fun h0 => ?_))))))
  ·have q := si h0; subst q
   exact sr (sa rfl (sn (SC.ret (finR (Wk.refl _) (lresT rfl lresN) rfl))))
  ·refine sk (sq (sr (sm rfl (sm rfl (s1 (bi rfl rfl q_i64_lss) (sn (cB h0 rfl (fun h0 => ?_) (fun h0 => ?_))))))))
   ·have q := si h0; subst q
    exact sr (sa rfl (sn (SC.ret (finR (Wk.refl _) (lresT rfl lresN) rfl))))
   ·refine sk (sq (sr (sm rfl (sm rfl (s1 (bi rfl rfl q_i64_gtr) (sn (cB h0 rfl (fun h0 => ?_) (fun h0 => ?_))))))))
    ·have q := si h0; subst q
     exact sr (sa rfl (sn (SC.ret (finR (Wk.refl _) (lresT rfl lresN) rfl))))
    ·have q := si h0; subst q
     exact sk (sr (sa rfl (sn (SC.ret (finR (Wk.refl _) (lresT rfl lresN) rfl)))))
noncomputable def cmp_isNaN_int64 (p0 : Int) : Option Unit :=
 some ()
theorem cmp_isNaN_int64_ok (p0 : Int) (r : Unit) (h0 : cmp_isNaN_int64 p0 = some r) : CallAt Tryd.prog 55 [.d (eI p0)] [] (.d (eB (p0 != p0))) [] := by
 unfold cmp_isNaN_int64 at h0
 refine fn0 [0] Tryd.func55 rfl rfl rfl rfl rfl ?_
 have q := si h0; subst q
 refine sr (sa rfl (sn (sr (sm rfl (sm rfl (s1 (bi rfl rfl q_i64_neq) (sa rfl (sn (SC.ret ?_)))))))))
 exact finR (Wk.refl _) (lresT rfl lresN) rfl
noncomputable def cmp_Compare_int64 (p0 : Int) (p1 : Int) : Option Int :=
 Option.bind (cmp_isNaN_int64 p0) fun _ =>
 Option.bind (cmp_isNaN_int64 p1) fun _ =>
 bif (p0 != p0) then
 bif (p1 != p1) then
 some (0 : Int)
 else
 some (-1 : Int)
 else
 bif (p1 != p1) then
 some (1 : Int)
 else
 bif (decide (p0 < p1)) then
 some (-1 : Int)
 else
 bif (decide (p0 > p1)) then
 some (1 : Int)
 else
 some (0 : Int)
theorem cmp_Compare_int64_ok (p0 : Int) (p1 : Int) (r : Int) (h0 : cmp_Compare_int64 p0 p1 = some r) : CallAt Tryd.prog 33 [.d (eI p0), .d (eI p1)] [] (.d (eI r)) [] := by
 unfold cmp_Compare_int64 at h0
 refine fn0 [0, 1] Tryd.func33 rfl rfl rfl rfl rfl ?_
 obtain ⟨_, hq4, h0⟩ := ob h0; obtain ⟨_, hq5, h0⟩ := ob h0
 refine sr (sa rfl (sn (sr (sm rfl (c0 (cmp_isNaN_int64_ok p0 _ hq4) wf rfl rfl rfl cb55 rfl (fun _ => rfl) (fun _ => rfl) (sa rfl (sn (sr (sm rfl ?_)))))))))
 refine c0 (cmp_isNaN_int64_ok p1 _ hq5) wf rfl rfl rfl cb55 rfl (fun _ => rfl) (fun _ => rfl) (sa rfl (sn (sq (sr (sm rfl (sn (cB h0 rfl (fun h0 => ?_) (fun h0 => ?_))))))))
 ·refine sq (sr (sm rfl (sn (cB h0 rfl (fun h0 => ?_) (fun h0 => ?_)))))
  ·have q := si h0; subst q
   exact sr (sa rfl (sn (SC.ret (finR (Wk.refl _) (lresT rfl lresN) rfl))))
  ·have q := si h0; subst q
   exact sk (sr (sa rfl (sn (SC.ret (finR (Wk.refl _) (lresT rfl lresN) rfl)))))
 ·refine sk (sq (sr (sm rfl (sn (cB h0 rfl (fun h0 => ?_) (fun h0 => ?_))))))
  ·have q := si h0; subst q
   exact sr (sa rfl (sn (SC.ret (finR (Wk.refl _) (lresT rfl lresN) rfl))))
  ·refine sk (sq (sr (sm rfl (sm rfl (s1 (bi rfl rfl q_i64_lss) (sn (cB h0 rfl (fun h0 => ?_) (fun h0 => ?_))))))))
   ·have q := si h0; subst q
    exact sr (sa rfl (sn (SC.ret (finR (Wk.refl _) (lresT rfl lresN) rfl))))
   ·refine sk (sq (sr (sm rfl (sm rfl (s1 (bi rfl rfl q_i64_gtr) (sn (cB h0 rfl (fun h0 => ?_) (fun h0 => ?_))))))))
    ·have q := si h0; subst q
     exact sr (sa rfl (sn (SC.ret (finR (Wk.refl _) (lresT rfl lresN) rfl))))
    ·have q := si h0; subst q
     exact sk (sr (sa rfl (sn (SC.ret (finR (Wk.refl _) (lresT rfl lresN) rfl)))))
noncomputable def cmp_isNaN_uint64 (p0 : UInt64) : Option Unit :=
 some ()
theorem cmp_isNaN_uint64_ok (p0 : UInt64) (r : Unit) (h0 : cmp_isNaN_uint64 p0 = some r) : CallAt Tryd.prog 56 [.d (eU64 p0)] [] (.d (eB (p0 != p0))) [] := by
 unfold cmp_isNaN_uint64 at h0
 refine fn0 [0] Tryd.func56 rfl rfl rfl rfl rfl ?_
 have q := si h0; subst q
 refine sr (sa rfl (sn (sr (sm rfl (sm rfl (s1 (bi rfl rfl q_u64_neq) (sa rfl (sn (SC.ret ?_)))))))))
 exact finR (Wk.refl _) (lresT rfl lresN) rfl
noncomputable def cmp_Compare_uint64 (p0 : UInt64) (p1 : UInt64) : Option Int :=
 Option.bind (cmp_isNaN_uint64 p0) fun _ =>
 Option.bind (cmp_isNaN_uint64 p1) fun _ =>
 bif (p0 != p0) then
 bif (p1 != p1) then
 some (0 : Int)
 else
 some (-1 : Int)
 else
 bif (p1 != p1) then
 some (1 : Int)
 else
 bif (decide (p0 < p1)) then
 some (-1 : Int)
 else
 bif (decide (p1 < p0)) then
 some (1 : Int)
 else
 some (0 : Int)
theorem cmp_Compare_uint64_ok (p0 : UInt64) (p1 : UInt64) (r : Int) (h0 : cmp_Compare_uint64 p0 p1 = some r) : CallAt Tryd.prog 35 [.d (eU64 p0), .d (eU64 p1)] [] (.d (eI r)) [] := by
 unfold cmp_Compare_uint64 at h0
 refine fn0 [0, 1] Tryd.func35 rfl rfl rfl rfl rfl ?_
 obtain ⟨_, hq4, h0⟩ := ob h0; obtain ⟨_, hq5, h0⟩ := ob h0
 refine sr (sa rfl (sn (sr (sm rfl (c0 (cmp_isNaN_uint64_ok p0 _ hq4) wf rfl rfl rfl cb56 rfl (fun _ => rfl) (fun _ => rfl) (sa rfl (sn (sr (sm rfl ?_)))))))))
 refine c0 (cmp_isNaN_uint64_ok p1 _ hq5) wf rfl rfl rfl cb56 rfl (fun _ => rfl) (fun _ => rfl) (sa rfl (sn (sq (sr (sm rfl (sn (cB h0 rfl (fun h0 => ?_) (fun h0 => ?_))))))))
 ·refine sq (sr (sm rfl (sn (cB h0 rfl (fun h0 => ?_) (fun h0 => ?_)))))
  ·have q := si h0; subst q
   exact sr (sa rfl (sn (SC.ret (finR (Wk.refl _) (lresT rfl lresN) rfl))))
  ·have q := si h0; subst q
   exact sk (sr (sa rfl (sn (SC.ret (finR (Wk.refl _) (lresT rfl lresN) rfl)))))
 ·refine sk (sq (sr (sm rfl (sn (cB h0 rfl (fun h0 => ?_) (fun h0 => ?_))))))
  ·have q := si h0; subst q
   exact sr (sa rfl (sn (SC.ret (finR (Wk.refl _) (lresT rfl lresN) rfl))))
  ·refine sk (sq (sr (sm rfl (sm rfl (s1 (bi rfl rfl q_u64_lss) (sn (cB h0 rfl (fun h0 => ?_) (fun h0 => ?_))))))))
   ·have q := si h0; subst q
    exact sr (sa rfl (sn (SC.ret (finR (Wk.refl _) (lresT rfl lresN) rfl))))
   ·refine sk (sq (sr (sm rfl (sm rfl (s1 (bi rfl rfl q_u64_gtr) (sn (cB h0 rfl (fun h0 => ?_) (fun h0 => ?_))))))))
    ·have q := si h0; subst q
     exact sr (sa rfl (sn (SC.ret (finR (Wk.refl _) (lresT rfl lresN) rfl))))
    ·have q := si h0; subst q
     exact sk (sr (sa rfl (sn (SC.ret (finR (Wk.refl _) (lresT rfl lresN) rfl)))))
noncomputable def cmp_Or_int (p0 : List Int) : Option Int :=
 bindE (Y := Unit) (E := Int)
 (Option.bind (α := Unit ⊕ Int)
 (loop (Y := Int) (W := Unit ⊕ Int) (fun y29 =>
 bif (decide (y29 < (p0.length : Int))) then
 Option.bind (getI p0 y29) fun v34 =>
 bif (v34 != (0 : Int)) then
 some (Sum.inr (Sum.inr v34))
 else
 some (Sum.inl (w64 (y29 + (1 : Int))))
 else
 some (Sum.inr (Sum.inl ()))) (0 : Int))
 (Sum.elim (fun e => some (Sum.inl e)) (fun e => some (Sum.inr e))))
 (fun _ =>
 some (0 : Int))
 (fun e => some e)
theorem cmp_Or_int_ok (p0 : List Int) (r : Int) (h0 : cmp_Or_int p0 = some r) : CallAt Tryd.prog 34 [.d ((eL 1 eI) p0)] [] (.d (eI r)) [] := by
 unfold cmp_Or_int at h0
 refine fn0 [0] Tryd.func34 rfl rfl rfl rfl rfl ?_
 refine sr (sa rfl (sn (sr (sa rfl (sn (SC.seqB h0 (fun y => ⟨mk 18 [(3, .d (eI (0 : Int)))], []⟩) ?_ ?_))))))
 ·intro u1_27 h1 h0
  obtain ⟨u2_33, h2, h1⟩ := ob h1
  refine sr (sm rfl (s1 (len rfl rfl rfl (len_lst un82)) (sm rfl (sn (SC.blk (SC.loopB h2 (fun y => ⟨mk 18 [(3, .d (eI (0 : Int))), (6, .d ((eL 1 eI) p0)), (7, .d (eI (p0.length : Int))), (8, .d (eI y))], []⟩) (wq rfl) ?_))))))
  intro n35
  rintro y29 w2_32 h3 hv3
  refine sr (s1 (bi rfl rfl q_i64_lss) (sn (sq (cB h3 rfl (fun h3 => ?_) (fun h3 => ?_)))))
  ·obtain ⟨v34, hv34, h3⟩ := ob h3
   refine sk (sq (SC.blk (sr (s1 (ial rfl rfl un82 ts3 (getI_some hv34).1 (map_get (getI_some hv34).2) rfl) (s1 (lod rfl (ld_rop ts3 ta3 rfl)) (sa rfl (sn (sr (sm rfl ?_)))))))))
   refine sm rfl (s1 (bi rfl rfl q_i64_neq) (sn (cB h3 rfl (fun h3 => ?_) (fun h3 => ?_))))
   ·have q := si h3; subst q; have q : _ = _ := hv3; subst q; have q := si h1; subst q; have q := si h0; subst q
    exact sr (sm rfl (sa rfl (sn (SC.ret (finR (Wk.refl _) (lresT rfl lresN) rfl)))))
   ·refine SC.skip ?_
    change SC _ _ _ _ _
    have q := si h3; subst q
    exact SC.region (s1 (bi rfl rfl q_i64_add) (sm rfl (SO.nil (lf (wq rfl)))))
  ·have q := si h3; subst q; have q : _ = _ := hv3; subst q; have q := si h1; subst q
   exact SC.exit (lf (wq rfl))
 ·intro _ h0
  have q := si h0; subst q
  exact sr (sm rfl (sa rfl (sn (SC.ret (finR (Wk.refl _) (lresT rfl lresN) rfl)))))
noncomputable def value_Cmp_1 (p0 : ApiValue) (p1 : ApiValue) : Option Int :=
 Option.bind (cmp_Compare_int p0.Kind p1.Kind) fun r20 =>
 Option.bind (α := Int)
 (Option.bind (α := Bool)
 (bif (r20 == (0 : Int)) then
 some (p0.Kind == (1 : Int))
 else
 some false)
 fun y28 =>
 bif y28 then
 Option.bind (cmp_Compare_int64 (i64u p0.N) (i64u p1.N)) fun r30 =>
 some r30
 else
 some r20)
 fun y26 =>
 Option.bind (cmp_Compare_uint64 p0.N p1.N) fun r32 =>
 Option.bind (cmpF p0.S p1.S) fun r34 =>
 Option.bind (cmp_Or_int [y26, r32, r34]) fun r36 =>
 some r36
theorem value_Cmp_1_ok (p0 : ApiValue) (p1 : ApiValue) (r : Int) (h0 : value_Cmp_1 p0 p1 = some r) : CallAt Tryd.prog 14 [.d (eApiValue p0), .d (eApiValue p1)] [] (.d (eI r)) [] := by
 unfold value_Cmp_1 at h0
 refine fn0 [0, 1] Tryd.func14 rfl rfl rfl rfl rfl ?_
 obtain ⟨r20, hq21, h0⟩ := ob h0
 refine sr (s1 (bxo (k := 0) rfl rfl rfl) (s1 (bxo (k := 1) rfl rfl rfl) (sa rfl (sn (sr (s1 (far (k := 0) rfl fo24_0 ts3 rfl) (s1 (lod rfl (ld_box ts3 ta3 rfl rfl)) (s1 (far (k := 0) rfl fo24_0 ts3 rfl) (s1 (lod rfl (ld_box ts3 ta3 rfl rfl)) ?_)))))))))
 refine c0 (cmp_Compare_int_ok p0.Kind p1.Kind _ hq21) wf rfl rfl rfl cb32 rfl (fun _ => rfl) (fun _ => rfl) (sa rfl (sn (SC.seqP h0 (fun y => ⟨mk 38 [(2, .ref 0 0 0), (3, .ref 1 0 0), (5, .d (eI y))], [.box (.d (eApiValue p0)), .box (.d (eApiValue p1))]⟩) ?_ ?_)))
 ·intro u1_27 h1
  refine SC.seqP h1 (fun y => ⟨mk 38 [(2, .ref 0 0 0), (3, .ref 1 0 0), (5, .d (eI r20)), (17, .d (eB y))], [.box (.d (eApiValue p0)), .box (.d (eApiValue p1))]⟩) ?_ ?_
  ·intro u2_29 h2
   refine SC.region (sm rfl (s1 (bi rfl rfl q_i64_eql) (sm rfl (sp h2 (fun h2 => ?_) (fun h2 => ?_)))))
   ·have q := si h2; subst q
    exact gw rfl (far (k := 0) rfl fo24_0 ts3 rfl) (gw rfl (lod rfl (ld_box ts3 ta3 rfl rfl)) (gw rfl (bi rfl rfl q_i64_eql) (s1 (pkt rfl rfl) (SO.nil ((wq rfl))))))
   ·have q := si h2; subst q
    exact kw rfl (kw rfl (kw rfl (s1 (pkf rfl rfl) (SO.nil ((wq rfl))))))
  ·rintro y28 h1
   refine cB h1 rfl (fun h1 => ?_) (fun h1 => ?_)
   ·obtain ⟨r30, hq31, h1⟩ := ob h1; have q := si h1; subst q
    refine SC.region (s1 (far (k := 1) rfl fo24_1 ts22 rfl) (s1 (lod rfl (ld_box ts22 ta22 rfl rfl)) (s1 (cvo rfl (cv_u64_i64 un22 un2 p0.N)) (s1 (far (k := 1) rfl fo24_1 ts22 rfl) (s1 (lod rfl (ld_box ts22 ta22 rfl rfl)) (s1 (cvo rfl (cv_u64_i64 un22 un2 p1.N)) (c0 (cmp_Compare_int64_ok (i64u p0.N) (i64u p1.N) _ hq31) wf rfl rfl rfl cb33 rfl (fun _ => rfl) (fun _ => rfl) (sa rfl (SO.nil ?_)))))))))
    exact (wq rfl)
   ·have q := si h1; subst q
    exact SC.skip ((wq rfl))
 ·rintro y26 h0
  obtain ⟨r32, hq33, h0⟩ := ob h0; obtain ⟨r34, hq35, h0⟩ := ob h0; obtain ⟨r36, hq37, h0⟩ := ob h0; have q := si h0; subst q
  refine sd (by kernel_rfl) (t1 ([], false) (mv rfl) rfl (t1 ([], false) (far (k := 1) rfl fo24_1 ts22 rfl) rfl (t1 ([0], false) (lod rfl (ld_box ts22 ta22 rfl rfl)) rfl (t1 ([], false) (far (k := 1) rfl fo24_1 ts22 rfl) rfl (t1 ([1], false) (lod rfl (ld_box ts22 ta22 rfl rfl)) rfl (tc0 (cmp_Compare_uint64_ok p0.N p1.N _ hq33) wf rfl rfl rfl cb35 rfl (fun _ => rfl) (fun _ => rfl) (t1 ([], false) (far (k := 2) rfl fo24_2 ts9 rfl) rfl (t1 ([0], false) (lod rfl (ld_box ts9 ta9 rfl rfl)) rfl (t1 ([], false) (far (k := 2) rfl fo24_2 ts9 rfl) rfl ?_)))))))))
  exact t1 ([1], false) (lod rfl (ld_box ts9 ta9 rfl rfl)) rfl (tc0 (cmp_ok p0.S p1.S _ hq35) wf rfl rfl rfl cb36 rfl (fun _ => rfl) (fun _ => rfl) (t1 ([2], true) (bsn (k := 2) (ds := List.map eI [y26, r32, r34]) (off := 0) (l' := [y26, r32, r34].length) rfl un82 ei3 rfl rfl (by rfl) rfl rfl rfl) rfl (tq (args' := [.slc 0 1 0 ([y26, r32, r34].length) none]) (σc := [.row 1 (List.map eI [y26, r32, r34]) true]) [2] [] ([2], true) (CallAt.frz (ArgF.frz (fF rfl rfl rfl) (ArgF.nil _)) (fq [] [] (cmp_Or_int_ok [y26, r32, r34] _ hq37) rfl rfl rfl rfl rfl rfl rfl rfl)) wf rfl rfl rfl cb34 rfl rfl rfl rfl rfl rfl rfl rfl rfl (t1 ([], false) (asg rfl) rfl (tn (by decide +kernel) (SC.ret (finR (wc (e' := [(4, .d (eI r36))]) [] [] (by kernel_rfl) rfl (by kernel_rfl)) (lresT rfl lresN) rfl)))))))
noncomputable def value_Name (p0 : List UInt8) : Option Bool :=
 Option.bind (α := Bool)
 (bif (p0 == ([] : List UInt8)) then
 some true
 else
 some (decide ((p0.length : Int) > (16 : Int))))
 fun y45 =>
 bif y45 then
 some false
 else
 bindE (Y := Unit) (E := Bool)
 (Option.bind (α := Unit ⊕ Bool)
 (loop (Y := Int) (W := Unit ⊕ Bool) (fun y73 =>
 bif (decide (y73 < (p0.length : Int))) then
 Option.bind (getI p0 y73) fun v82 =>
 Option.bind (α := Bool)
 (bif (decide ((97 : UInt8) ≤ v82)) then
 some (decide (v82 ≤ (122 : UInt8)))
 else
 some false)
 fun y83 =>
 Option.bind (α := Bool)
 (bif (!y83) then
 bif (y73 == (0 : Int)) then
 some true
 else
 bif (v82 != (95 : UInt8)) then
 bif (decide (v82 < (48 : UInt8))) then
 some true
 else
 some (decide ((57 : UInt8) < v82))
 else
 some false
 else
 some false)
 fun y85 =>
 bif y85 then
 some (Sum.inr (Sum.inr false))
 else
 some (Sum.inl (w64 (y73 + (1 : Int))))
 else
 some (Sum.inr (Sum.inl ()))) (0 : Int))
 (Sum.elim (fun e => some (Sum.inl e)) (fun e => some (Sum.inr e))))
 (fun _ =>
 some true)
 (fun e => some e)
theorem value_Name_ok (p0 : List UInt8) (r : Bool) (h0 : value_Name p0 = some r) : CallAt Tryd.prog 18 [.d (eS p0)] [] (.d (eB r)) [] := by
 unfold value_Name at h0
 refine fn0 [0] Tryd.func18 rfl rfl rfl rfl rfl ?_
 refine sr (sa rfl (sn (sq (SC.seqP h0 (fun y => ⟨mk 46 [(0, .d (eS p0)), (12, .d (eB y))], []⟩) ?_ ?_))))
 ·intro u1_46 h1
  refine SC.region (sm rfl (s1 (bi rfl rfl (q_str_eql (b := ([] : List UInt8)))) (sm rfl (sp h1 (fun h1 => ?_) (fun h1 => ?_)))))
  ·have q := si h1; subst q
   exact kw rfl (kw rfl (kw rfl (s1 (pkt rfl rfl) (SO.nil ((wq rfl))))))
  ·have q := si h1; subst q
   exact gw rfl (mv rfl) (gw rfl (len rfl rfl rfl (len_str un9)) (gw rfl (bi rfl rfl q_i64_gtr) (s1 (pkf rfl rfl) (SO.nil ((wq rfl))))))
 ·rintro y45 h0
  refine cB h0 rfl (fun h0 => ?_) (fun h0 => ?_)
  ·have q := si h0; subst q
   exact sr (sa rfl (sn (SC.ret (finR (Wk.refl _) (lresT rfl lresN) rfl))))
  ·refine sk (SC.seqB h0 (fun y => ⟨mk 46 [], []⟩) ?_ ?_)
   ·intro u1_67 h1 h0
    obtain ⟨u2_81, h2, h1⟩ := ob h1
    refine sr (sm rfl (s1 (len rfl rfl rfl (len_str un9)) (sm rfl (sn (SC.blk (SC.loopB h2 (fun y => ⟨mk 46 [(0, .d (eS p0)), (14, .d (eI (p0.length : Int))), (15, .d (eI y))], []⟩) (wq rfl) ?_))))))
    intro n87
    rintro y73 w2_80 h3 hv3
    refine sr (s1 (bi rfl rfl q_i64_lss) (sn (sq (cB h3 rfl (fun h3 => ?_) (fun h3 => ?_)))))
    ·obtain ⟨v82, hv82, h3⟩ := ob h3
     refine sk (sq (SC.blk (sr (sm rfl (sa rfl (sn (sr (sm rfl (sm rfl ?_)))))))))
     refine s1 (ixs rfl rfl rfl rfl (ix_str un9 (getI_some hv82).1 (getI_some hv82).2)) (sa rfl (sn (SC.seqP h3 (fun y => ⟨mk 46 [(0, .d (eS p0)), (3, .d (eI y73)), (4, .d (eU8 v82)), (5, .d (eB y)), (14, .d (eI (p0.length : Int))), (15, .d (eI y73))], []⟩) ?_ ?_)))
     ·intro u4_84 h4
      refine SC.region (sm rfl (s1 (bi rfl rfl (q_u8_geq (b := (97 : UInt8)))) (sm rfl (sp h4 (fun h4 => ?_) (fun h4 => ?_)))))
      ·have q := si h4; subst q
       exact gw rfl (mv rfl) (gw rfl (bi rfl rfl (q_u8_leq (b := (122 : UInt8)))) (s1 (pkt rfl rfl) (sa rfl (SO.nil ((wq rfl))))))
      ·have q := si h4; subst q
       exact kw rfl (kw rfl (s1 (pkf rfl rfl) (sa rfl (SO.nil ((wq rfl))))))
     ·rintro y83 h3
      refine SC.seqP h3 (fun y => ⟨mk 46 [(0, .d (eS p0)), (14, .d (eI (p0.length : Int))), (15, .d (eI y73)), (44, .d (eB y))], []⟩) ?_ ?_
      ·intro u4_86 h4
       refine SC.region (sm rfl (s1 (nt rfl) (sm rfl (sp h4 (fun h4 => ?_) (fun h4 => ?_)))))
       ·refine gw rfl (mv rfl) (gw rfl (bi rfl rfl q_i64_eql) (gw rfl (mv rfl) (sp h4 (fun h4 => ?_) (fun h4 => ?_))))
        ·have q := si h4; subst q
         refine kw rfl (kw rfl (kw rfl (kw rfl (kw rfl (kw rfl (kw rfl (kw rfl (kw rfl (kw rfl ?_)))))))))
         exact gw rfl (pkt rfl rfl) (s1 (pkt rfl rfl) (SO.nil ((wq rfl))))
        ·refine gw rfl (mv rfl) (gw rfl (bi rfl rfl (q_u8_neq (b := (95 : UInt8)))) (gw rfl (mv rfl) (sp h4 (fun h4 => ?_) (fun h4 => ?_))))
         ·refine gw rfl (mv rfl) (gw rfl (bi rfl rfl (q_u8_lss (b := (48 : UInt8)))) (gw rfl (mv rfl) (sp h4 (fun h4 => ?_) (fun h4 => ?_))))
          ·have q := si h4; subst q
           exact kw rfl (kw rfl (gw rfl (pkt rfl rfl) (gw rfl (pkt rfl rfl) (gw rfl (pkf rfl rfl) (s1 (pkt rfl rfl) (SO.nil ((wq rfl))))))))
          ·have q := si h4; subst q
           exact gw rfl (mv rfl) (gw rfl (bi rfl rfl (q_u8_gtr (b := (57 : UInt8)))) (gw rfl (pkf rfl rfl) (gw rfl (pkt rfl rfl) (gw rfl (pkf rfl rfl) (s1 (pkt rfl rfl) (SO.nil ((wq rfl))))))))
         ·have q := si h4; subst q
          refine kw rfl (kw rfl (kw rfl (kw rfl (kw rfl (kw rfl (gw rfl (pkf rfl rfl) (gw rfl (pkf rfl rfl) (s1 (pkt rfl rfl) (SO.nil ?_)))))))))
          exact (wq rfl)
       ·have q := si h4; subst q
        refine kw rfl (kw rfl (kw rfl (kw rfl (kw rfl (kw rfl (kw rfl (kw rfl (kw rfl (kw rfl ?_)))))))))
        exact kw rfl (kw rfl (kw rfl (kw rfl (s1 (pkf rfl rfl) (SO.nil ((wq rfl)))))))
      ·rintro y85 h3
       refine cB h3 rfl (fun h3 => ?_) (fun h3 => ?_)
       ·have q := si h3; subst q; have q : _ = _ := hv3; subst q; have q := si h1; subst q; have q := si h0; subst q
        exact sr (sa rfl (sn (SC.ret (finR (Wk.refl _) (lresT rfl lresN) rfl))))
       ·refine SC.skip ?_
        change SC _ _ _ _ _
        have q := si h3; subst q
        exact SC.region (s1 (bi rfl rfl q_i64_add) (sm rfl (SO.nil (lf (wq rfl)))))
    ·have q := si h3; subst q; have q : _ = _ := hv3; subst q; have q := si h1; subst q
     exact SC.exit (lf (wq rfl))
   ·intro _ h0
    have q := si h0; subst q
    exact sr (sa rfl (sn (SC.ret (finR (Wk.refl _) (lresT rfl lresN) rfl))))
noncomputable def value_long (p0 : Int) : Option Bool :=
 Option.bind (α := Bool)
 (bif (p0 == (4 : Int)) then
 some true
 else
 some (p0 == (5 : Int)))
 fun y4 =>
 some y4
theorem value_long_ok (p0 : Int) (r : Bool) (h0 : value_long p0 = some r) : CallAt Tryd.prog 37 [.d (eI p0)] [] (.d (eB r)) [] := by
 unfold value_long at h0
 refine fn0 [0] Tryd.func37 rfl rfl rfl rfl rfl ?_
 refine sr (sa rfl (sn (SC.seqP h0 (fun y => ⟨mk 9 [(2, .d (eB y))], []⟩) ?_ ?_)))
 ·intro u1_5 h1
  refine SC.region (sm rfl (s1 (bi rfl rfl q_i64_eql) (sm rfl (sp h1 (fun h1 => ?_) (fun h1 => ?_)))))
  ·have q := si h1; subst q
   exact kw rfl (kw rfl (s1 (pkt rfl rfl) (sa rfl (SO.nil ((wq rfl))))))
  ·have q := si h1; subst q
   exact gw rfl (mv rfl) (gw rfl (bi rfl rfl q_i64_eql) (s1 (pkf rfl rfl) (sa rfl (SO.nil ((wq rfl))))))
 ·rintro y4 h0
  have q := si h0; subst q
  exact SC.ret (finR (Wk.refl _) (lresT rfl lresN) rfl)
noncomputable def value_Fits (p0 : ApiColumn) (p1 : ApiValue) : Option Int :=
 Option.bind (value_Valid p1) fun r10 =>
 bif (!r10) then
 some (8 : Int)
 else
 bif (p1.Kind == (0 : Int)) then
 bif p0.Nulls then
 some (0 : Int)
 else
 some (8 : Int)
 else
 bif (p1.Kind != p0.Kind) then
 some (8 : Int)
 else
 Option.bind (α := Bool)
 (Option.bind (value_long p1.Kind) fun r16 =>
 bif r16 then
 some (decide ((p1.S.length : Int) > p0.Max))
 else
 some false)
 fun y14 =>
 bif y14 then
 some (7 : Int)
 else
 some (0 : Int)
theorem value_Fits_ok (p0 : ApiColumn) (p1 : ApiValue) (r : Int) (h0 : value_Fits p0 p1 = some r) : CallAt Tryd.prog 15 [.d (eApiColumn p0), .d (eApiValue p1)] [] (.d (eI r)) [] := by
 unfold value_Fits at h0
 refine fn0 [0, 1] Tryd.func15 rfl rfl rfl rfl rfl ?_
 obtain ⟨r10, hq11, h0⟩ := ob h0
 refine sr (s1 (bxo (k := 0) rfl rfl rfl) (s1 (bxo (k := 1) rfl rfl rfl) (sa rfl (sn (sq (SC.blk (sr (s1 (lod (v := .d (eApiValue p1)) rfl (ld_box ts24 ta24 rfl rfl)) (c0 (value_Valid_ok p1 _ hq11) wf rfl rfl rfl cb13 rfl (fun _ => rfl) (fun _ => rfl) ?_)))))))))
 refine s1 (nt rfl) (sa rfl (sn (cB h0 rfl (fun h0 => ?_) (fun h0 => ?_))))
 ·have q := si h0; subst q
  exact sr (sa rfl (sn (SC.ret (finR (wc (e' := [(4, .d (eI (8 : Int)))]) [] [] (by kernel_rfl) rfl (by kernel_rfl)) (lresT rfl lresN) rfl))))
 ·refine sr (s1 (far (k := 0) rfl fo24_0 ts3 rfl) (s1 (lod rfl (ld_box ts3 ta3 rfl rfl)) (s1 (bi rfl rfl q_i64_eql) (sa rfl (sn (cB h0 rfl (fun h0 => ?_) (fun h0 => ?_)))))))
  ·refine sq (sr (s1 (far (k := 3) rfl fo35_3 ts4 rfl) (s1 (lod rfl (ld_box ts4 ta4 rfl rfl)) (sn (cB h0 rfl (fun h0 => ?_) (fun h0 => ?_))))))
   ·have q := si h0; subst q
    exact sr (sa rfl (sn (SC.ret (finR (wc (e' := [(4, .d (eI (0 : Int)))]) [] [] (by kernel_rfl) rfl (by kernel_rfl)) (lresT rfl lresN) rfl))))
   ·have q := si h0; subst q
    exact sk (sr (sa rfl (sn (SC.ret (finR (wc (e' := [(4, .d (eI (8 : Int)))]) [] [] (by kernel_rfl) rfl (by kernel_rfl)) (lresT rfl lresN) rfl)))))
  ·refine sr (s1 (far (k := 0) rfl fo24_0 ts3 rfl) (s1 (lod rfl (ld_box ts3 ta3 rfl rfl)) (s1 (far (k := 1) rfl fo35_1 ts3 rfl) (s1 (lod rfl (ld_box ts3 ta3 rfl rfl)) (s1 (bi rfl rfl q_i64_neq) (sa rfl (sn (cB h0 rfl (fun h0 => ?_) (fun h0 => ?_)))))))))
   ·have q := si h0; subst q
    exact sr (sa rfl (sn (SC.ret (finR (wc (e' := [(4, .d (eI (8 : Int)))]) [] [] (by kernel_rfl) rfl (by kernel_rfl)) (lresT rfl lresN) rfl))))
   ·refine SC.seqP h0 (fun y => ⟨mk 33 [(21, .d (eB y))], []⟩) ?_ ?_
    ·intro u1_15 h1
     obtain ⟨r16, hq17, h1⟩ := ob h1
     refine SC.region (s1 (far (k := 0) rfl fo24_0 ts3 rfl) (s1 (lod rfl (ld_box ts3 ta3 rfl rfl)) (c0 (value_long_ok p1.Kind _ hq17) wf rfl rfl rfl cb37 rfl (fun _ => rfl) (fun _ => rfl) (sm rfl (sp h1 (fun h1 => ?_) (fun h1 => ?_))))))
     ·have q := si h1; subst q
      exact gw rfl (far (k := 2) rfl fo24_2 ts9 rfl) (gw rfl (lod rfl (ld_box ts9 ta9 rfl rfl)) (gw rfl (len rfl rfl rfl (len_str un9)) (gw rfl (far (k := 2) rfl fo35_2 ts3 rfl) (gw rfl (lod rfl (ld_box ts3 ta3 rfl rfl)) (gw rfl (bi rfl rfl q_i64_gtr) (s1 (pkt rfl rfl) (sa rfl (SO.nil ((wc [] [] (by kernel_rfl) rfl (by kernel_rfl)))))))))))
     ·have q := si h1; subst q
      exact kw rfl (kw rfl (kw rfl (kw rfl (kw rfl (kw rfl (s1 (pkf rfl rfl) (sa rfl (SO.nil ((wc [] [] (by kernel_rfl) rfl (by kernel_rfl)))))))))))
    ·rintro y14 h0
     refine cB h0 rfl (fun h0 => ?_) (fun h0 => ?_)
     ·have q := si h0; subst q
      exact sr (sa rfl (sn (SC.ret (finR (Wk.refl _) (lresT rfl lresN) rfl))))
     ·refine SC.skip ?_
      change SC _ _ _ _ _
      have q := si h0; subst q
      exact sr (sa rfl (sn (SC.ret (finR (Wk.refl _) (lresT rfl lresN) rfl))))
noncomputable def law06_awake : Option Bool :=
 Option.bind (value_Parse ([53, 117] : List UInt8)) fun (r23, r24) =>
 Option.bind (α := Bool)
 (bif (r23 == (0 : Int)) then
 bif (eqApiValue r24 (ApiValue.mk (2 : Int) (5 : UInt64) ([] : List UInt8))) then
 Option.bind (value_Text (ApiValue.mk (5 : Int) (0 : UInt64) ([97, 32, 98] : List UInt8))) fun r36 =>
 bif (r36 == ([34, 97, 92, 50, 48, 98, 34] : List UInt8)) then
 Option.bind (value_Cmp_1 (ApiValue.mk (1 : Int) (1 : UInt64) ([] : List UInt8)) (ApiValue.mk (0 : Int) (0 : UInt64) ([] : List UInt8))) fun r38 =>
 bif (r38 == (1 : Int)) then
 Option.bind (value_Name ([97, 95, 49] : List UInt8)) fun r40 =>
 bif r40 then
 Option.bind (value_Fits (ApiColumn.mk ([] : List UInt8) (1 : Int) (0 : Int) false (ApiValue.mk (0 : Int) (0 : UInt64) ([] : List UInt8))) r24) fun r42 =>
 some (r42 == (8 : Int))
 else
 some false
 else
 some false
 else
 some false
 else
 some false
 else
 some false)
 fun y34 =>
 some y34
theorem law06_awake_ok (r : Bool) (h0 : law06_awake = some r) : CallAt Tryd.prog 8 [] [] (.d (eB r)) [] := by
 unfold law06_awake at h0
 refine fn0 [] Tryd.func8 rfl rfl rfl rfl rfl ?_
 obtain ⟨⟨r23, r24⟩, hq25, h0⟩ := ob h0
 refine sr (sa rfl (sn (sr (cq [] [0] (value_Parse_ok ([53, 117] : List UInt8) _ hq25) wf rfl rfl rfl cb10 rfl rfl rfl rfl rfl rfl rfl rfl (sm rfl (s1 (ext rfl rfl) (s1 (ext rfl rfl) (s1 (alo (k := 1) zo24 rfl) (s0 (sto rfl rfl (sB (d' := .d (eApiValue r24)) ts24 rfl rfl rfl rfl rfl rfl rfl)) ?_)))))))))
 refine sa rfl (sn (SC.seqP h0 (fun y => ⟨mk 34 [(0, .d (eB y))], []⟩) ?_ ?_))
 ·intro u1_35 h1
  refine SC.region (sm rfl (s1 (bi rfl rfl q_i64_eql) (sm rfl (sp h1 (fun h1 => ?_) (fun h1 => ?_)))))
  ·refine gw rfl (lod (v := .d (eApiValue r24)) rfl (ld_box ts24 ta24 rfl rfl)) (gw rfl (bld rfl (bd24_0_1 (2 : Int) (5 : UInt64))) (gw rfl (bi (v := .d (eB (eqApiValue r24 (ApiValue.mk (2 : Int) (5 : UInt64) ([] : List UInt8))))) rfl rfl (fun X Y => eqApiValue_eql_24 X Y r24 (ApiValue.mk (2 : Int) (5 : UInt64) ([] : List UInt8)))) (s1 (pkt rfl rfl) (sm rfl (sp h1 (fun h1 => ?_) (fun h1 => ?_))))))
   ·obtain ⟨r36, hq37, h1⟩ := ob h1
    refine gw rfl (bld rfl (bd24_0_2 (5 : Int) ([97, 32, 98] : List UInt8))) (c0 (value_Text_ok (ApiValue.mk (5 : Int) (0 : UInt64) ([97, 32, 98] : List UInt8)) _ hq37) (ww rfl) rfl rfl rfl cb9 rfl (fun _ => rfl) (fun _ => rfl) (gw rfl (bi rfl rfl (q_str_eql (b := ([34, 97, 92, 50, 48, 98, 34] : List UInt8)))) (s1 (pkt rfl rfl) (sm rfl (sp h1 (fun h1 => ?_) (fun h1 => ?_))))))
    ·obtain ⟨r38, hq39, h1⟩ := ob h1
     refine gw rfl (bld rfl (bd24_0_1 (1 : Int) (1 : UInt64))) (gw rfl (bld rfl (bd24_ )) (c0 (value_Cmp_1_ok (ApiValue.mk (1 : Int) (1 : UInt64) ([] : List UInt8)) (ApiValue.mk (0 : Int) (0 : UInt64) ([] : List UInt8)) _ hq39) (ww rfl) rfl rfl rfl cb14 rfl (fun _ => rfl) (fun _ => rfl) (gw rfl (bi rfl rfl q_i64_eql) (s1 (pkt rfl rfl) (sm rfl (sp h1 (fun h1 => ?_) (fun h1 => ?_)))))))
     ·obtain ⟨r40, hq41, h1⟩ := ob h1
      refine c0 (value_Name_ok ([97, 95, 49] : List UInt8) _ hq41) (ww rfl) rfl rfl rfl cb18 rfl (fun _ => rfl) (fun _ => rfl) (s1 (pkt rfl rfl) (sm rfl (sp h1 (fun h1 => ?_) (fun h1 => ?_))))
      ·obtain ⟨r42, hq43, h1⟩ := ob h1; have q := si h1; subst q
       exact gw rfl (bld rfl (bd35_1 (1 : Int))) (gw rfl (lod (v := .d (eApiValue r24)) rfl (ld_box ts24 ta24 rfl rfl)) (c0 (value_Fits_ok (ApiColumn.mk ([] : List UInt8) (1 : Int) (0 : Int) false (ApiValue.mk (0 : Int) (0 : UInt64) ([] : List UInt8))) r24 _ hq43) (ww rfl) rfl rfl rfl cb15 rfl (fun _ => rfl) (fun _ => rfl) (gw rfl (bi rfl rfl q_i64_eql) (s1 (pkt rfl rfl) (sa rfl (SO.nil ((wc [] [] (by kernel_rfl) rfl (by kernel_rfl)))))))))
      ·have q := si h1; subst q
       exact kw rfl (kw rfl (kw rfl (kw rfl (s1 (pkf rfl rfl) (sa rfl (SO.nil ((wc [] [] (by kernel_rfl) rfl (by kernel_rfl)))))))))
     ·have q := si h1; subst q
      refine kw rfl (s1 (pkf rfl rfl) (sm rfl (kw rfl (kw rfl (kw rfl (kw rfl (s1 (pkf rfl rfl) (sa rfl (SO.nil ?_)))))))))
      exact (wc [] [] (by kernel_rfl) rfl (by kernel_rfl))
    ·have q := si h1; subst q
     refine kw rfl (kw rfl (kw rfl (kw rfl (s1 (pkf rfl rfl) (sm rfl (kw rfl (s1 (pkf rfl rfl) (sm rfl (kw rfl ?_)))))))))
     exact kw rfl (kw rfl (kw rfl (s1 (pkf rfl rfl) (sa rfl (SO.nil ((wc [] [] (by kernel_rfl) rfl (by kernel_rfl))))))))
   ·have q := si h1; subst q
    refine kw rfl (kw rfl (kw rfl (s1 (pkf rfl rfl) (sm rfl (kw rfl (kw rfl (kw rfl (kw rfl (s1 (pkf rfl rfl) ?_)))))))))
    refine sm rfl (kw rfl (s1 (pkf rfl rfl) (sm rfl (kw rfl (kw rfl (kw rfl (kw rfl (s1 (pkf rfl rfl) (sa rfl ?_)))))))))
    exact SO.nil ((wc [] [] (by kernel_rfl) rfl (by kernel_rfl)))
  ·have q := si h1; subst q
   refine kw rfl (kw rfl (kw rfl (s1 (pkf rfl rfl) (sm rfl (kw rfl (kw rfl (kw rfl (s1 (pkf rfl rfl) (sm rfl ?_)))))))))
   refine kw rfl (kw rfl (kw rfl (kw rfl (s1 (pkf rfl rfl) (sm rfl (kw rfl (s1 (pkf rfl rfl) (sm rfl (kw rfl ?_)))))))))
   exact kw rfl (kw rfl (kw rfl (s1 (pkf rfl rfl) (sa rfl (SO.nil ((wc [] [] (by kernel_rfl) rfl (by kernel_rfl))))))))
 ·rintro y34 h0
  have q := si h0; subst q
  exact SC.ret (finR (Wk.refl _) (lresT rfl lresN) rfl)
noncomputable def law06_ValueNumbers (p0 : UInt64) (p1 : UInt64) : Option Bool :=
 Option.bind law06_awake fun r54 =>
 bif (!r54) then
 some false
 else
 Option.bind (value_Cmp_1 (ApiValue.mk (1 : Int) p0 ([] : List UInt8)) (ApiValue.mk (1 : Int) p1 ([] : List UInt8))) fun r56 =>
 Option.bind (value_Cmp_1 (ApiValue.mk (2 : Int) p0 ([] : List UInt8)) (ApiValue.mk (2 : Int) p1 ([] : List UInt8))) fun r58 =>
 Option.bind (α := Bool)
 (bif ((decide (r56 < (0 : Int))) != (decide ((i64u p0) < (i64u p1)))) then
 some true
 else
 bif ((decide (r58 < (0 : Int))) != (decide (p0 < p1))) then
 some true
 else
 bif ((r56 == (0 : Int)) != (p0 == p1)) then
 some true
 else
 some ((r58 == (0 : Int)) != (p0 == p1)))
 fun y60 =>
 bif y60 then
 some false
 else
 Option.bind (value_Text (ApiValue.mk (2 : Int) p0 ([] : List UInt8))) fun r62 =>
 Option.bind (α := Bool)
 (bif (decide ((r62.length : Int) < (2 : Int))) then
 some true
 else
 Option.bind (getI r62 (w64 ((r62.length : Int) - (1 : Int)))) fun v67 =>
 some (v67 != (117 : UInt8)))
 fun y65 =>
 bif y65 then
 some false
 else
 Option.bind (α := UInt64)
 (Option.bind (α := UInt64)
 (loop (Y := UInt64 × Int) (W := UInt64) (fun (y81, y82) =>
 bif (decide (y82 < (w64 ((r62.length : Int) - (1 : Int))))) then
 Option.bind (getI r62 y82) fun v88 =>
 some (Sum.inl ((((10 : UInt64) * y81) + ((v88 - (48 : UInt8)).toUInt64)), (w64 (y82 + (1 : Int)))))
 else
 some (Sum.inr y81)) ((0 : UInt64), (0 : Int)))
 (fun e => some e))
 fun y78 =>
 Option.bind (value_Text (ApiValue.mk (1 : Int) p0 ([] : List UInt8))) fun r90 =>
 Option.bind (α := Bool)
 (bif (y78 != p0) then
 some true
 else
 bif (decide ((i64u p0) ≥ (0 : Int))) then
 bif decide (0 ≤ (w64 ((r62.length : Int) - (1 : Int))) ∧ (w64 ((r62.length : Int) - (1 : Int))) ≤ (r62.length : Int)) then
 some (r90 != (List.take (w64 ((r62.length : Int) - (1 : Int))).toNat r62))
 else none
 else
 some false)
 fun y93 =>
 bif y93 then
 some false
 else
 Option.bind (α := Bool)
 (bif (decide ((i64u p0) ≥ (0 : Int))) then
 some true
 else
 Option.bind (value_Text (ApiValue.mk (2 : Int) (0 - p0) ([] : List UInt8))) fun r102 =>
 bif decide (0 ≤ (w64 ((r90.length : Int) - (1 : Int))) ∧ (w64 ((r90.length : Int) - (1 : Int))) ≤ (r102.length : Int)) then
 bif decide (([45] : List UInt8).length + (List.take (w64 ((r90.length : Int) - (1 : Int))).toNat r102).length ≤ 9223372036854775807) then
 some (r90 == (([45] : List UInt8) ++ (List.take (w64 ((r90.length : Int) - (1 : Int))).toNat r102)))
 else none
 else none)
 fun y100 =>
 some y100
theorem law06_ValueNumbers_ok (p0 : UInt64) (p1 : UInt64) (r : Bool) (h0 : law06_ValueNumbers p0 p1 = some r) : CallAt Tryd.prog 6 [.d (eU64 p0), .d (eU64 p1)] [] (.d (eB r)) [] := by
 unfold law06_ValueNumbers at h0
 refine fn0 [0, 1] Tryd.func6 rfl rfl rfl rfl rfl ?_
 obtain ⟨r54, hq55, h0⟩ := ob h0
 refine sr (sa rfl (sn (sq (sr (c0 (law06_awake_ok _ hq55) wf rfl rfl rfl cb8 rfl (fun _ => rfl) (fun _ => rfl) (s1 (nt rfl) (sn (cB h0 rfl (fun h0 => ?_) (fun h0 => ?_)))))))))
 ·have q := si h0; subst q
  exact sr (sa rfl (sn (SC.ret (finR (Wk.refl _) (lresT rfl lresN) rfl))))
 ·obtain ⟨r56, hq57, h0⟩ := ob h0; obtain ⟨r58, hq59, h0⟩ := ob h0
  refine sk (sr (sm rfl (s1 (bld rfl (bd24_0_1 (1 : Int) p0)) (sm rfl (s1 (bld rfl (bd24_0_1 (1 : Int) p1)) (c0 (value_Cmp_1_ok (ApiValue.mk (1 : Int) p0 ([] : List UInt8)) (ApiValue.mk (1 : Int) p1 ([] : List UInt8)) _ hq57) wf rfl rfl rfl cb14 rfl (fun _ => rfl) (fun _ => rfl) (sa rfl (sn (sr ?_)))))))))
  refine sm rfl (s1 (bld rfl (bd24_0_1 (2 : Int) p0)) (sm rfl (s1 (bld rfl (bd24_0_1 (2 : Int) p1)) (c0 (value_Cmp_1_ok (ApiValue.mk (2 : Int) p0 ([] : List UInt8)) (ApiValue.mk (2 : Int) p1 ([] : List UInt8)) _ hq59) wf rfl rfl rfl cb14 rfl (fun _ => rfl) (fun _ => rfl) (sa rfl (sn (sq (SC.seqP h0 (fun y => ⟨mk 120 [(0, .d (eU64 p0)), (54, .d (eB y))], []⟩) ?_ ?_))))))))
  ·intro u1_61 h1
   refine SC.region (sm rfl (s1 (bi rfl rfl q_i64_lss) (sm rfl (s1 (cvo rfl (cv_u64_i64 un22 un2 p0)) (sm rfl (s1 (cvo rfl (cv_u64_i64 un22 un2 p1)) (s1 (bi rfl rfl q_i64_lss) (s1 (bi (v := .d (eB ((decide (r56 < (0 : Int))) != (decide ((i64u p0) < (i64u p1)))))) rfl rfl (fun X Y => b_bool_neq un4 X Y (decide (r56 < (0 : Int))) (decide ((i64u p0) < (i64u p1))))) (sm rfl ?_)))))))))
   refine sp h1 (fun h1 => ?_) (fun h1 => ?_)
   ·have q := si h1; subst q
    refine kw rfl (kw rfl (kw rfl (kw rfl (kw rfl (kw rfl (s1 (pkt rfl rfl) (sm rfl (kw rfl (kw rfl ?_)))))))))
    refine kw rfl (kw rfl (kw rfl (kw rfl (s1 (pkt rfl rfl) (sm rfl (kw rfl (kw rfl (kw rfl (kw rfl ?_)))))))))
    exact kw rfl (kw rfl (s1 (pkt rfl rfl) (SO.nil ((wq rfl)))))
   ·refine gw rfl (mv rfl) (gw rfl (bi rfl rfl q_i64_lss) (gw rfl (mv rfl) (gw rfl (mv rfl) (gw rfl (bi rfl rfl q_u64_lss) (gw rfl (bi (v := .d (eB ((decide (r58 < (0 : Int))) != (decide (p0 < p1))))) rfl rfl (fun X Y => b_bool_neq un4 X Y (decide (r58 < (0 : Int))) (decide (p0 < p1)))) (s1 (pkf rfl rfl) (sm rfl (sp h1 (fun h1 => ?_) (fun h1 => ?_)))))))))
    ·have q := si h1; subst q
     refine kw rfl (kw rfl (kw rfl (kw rfl (kw rfl (kw rfl (s1 (pkt rfl rfl) (sm rfl (kw rfl (kw rfl ?_)))))))))
     exact kw rfl (kw rfl (kw rfl (kw rfl (s1 (pkt rfl rfl) (SO.nil ((wq rfl)))))))
    ·refine gw rfl (mv rfl) (gw rfl (bi rfl rfl q_i64_eql) (gw rfl (mv rfl) (gw rfl (mv rfl) (gw rfl (bi rfl rfl q_u64_eql) (gw rfl (bi (v := .d (eB ((r56 == (0 : Int)) != (p0 == p1)))) rfl rfl (fun X Y => b_bool_neq un4 X Y (r56 == (0 : Int)) (p0 == p1))) (s1 (pkf rfl rfl) (sm rfl (sp h1 (fun h1 => ?_) (fun h1 => ?_)))))))))
     ·have q := si h1; subst q
      exact kw rfl (kw rfl (kw rfl (kw rfl (kw rfl (kw rfl (s1 (pkt rfl rfl) (SO.nil ((wq rfl)))))))))
     ·have q := si h1; subst q
      exact gw rfl (mv rfl) (gw rfl (bi rfl rfl q_i64_eql) (gw rfl (mv rfl) (gw rfl (mv rfl) (gw rfl (bi rfl rfl q_u64_eql) (gw rfl (bi (v := .d (eB ((r58 == (0 : Int)) != (p0 == p1)))) rfl rfl (fun X Y => b_bool_neq un4 X Y (r58 == (0 : Int)) (p0 == p1))) (s1 (pkf rfl rfl) (SO.nil ((wq rfl)))))))))
  ·rintro y60 h0
   refine cB h0 rfl (fun h0 => ?_) (fun h0 => ?_)
   ·have q := si h0; subst q
    exact sr (sa rfl (sn (SC.ret (finR (Wk.refl _) (lresT rfl lresN) rfl))))
   ·obtain ⟨r62, hq63, h0⟩ := ob h0
    refine sk (sr (sm rfl (s1 (bld rfl (bd24_0_1 (2 : Int) p0)) (c0 (value_Text_ok (ApiValue.mk (2 : Int) p0 ([] : List UInt8)) _ hq63) wf rfl rfl rfl cb9 rfl (fun _ => rfl) (fun _ => rfl) (sa rfl (sn (sq (SC.seqP h0 (fun y => ⟨mk 120 [(0, .d (eU64 p0)), (7, .d (eS r62)), (68, .d (eB y))], []⟩) ?_ ?_))))))))
    ·intro u1_66 h1
     refine SC.region (sm rfl (s1 (len rfl rfl rfl (len_str un9)) (s1 (bi rfl rfl q_i64_lss) (sm rfl (sp h1 (fun h1 => ?_) (fun h1 => ?_))))))
     ·have q := si h1; subst q
      exact kw rfl (kw rfl (kw rfl (kw rfl (kw rfl (kw rfl (s1 (pkt rfl rfl) (SO.nil ((wq rfl)))))))))
     ·obtain ⟨v67, hv67, h1⟩ := ob h1; have q := si h1; subst q
      exact gw rfl (mv rfl) (gw rfl (mv rfl) (gw rfl (len rfl rfl rfl (len_str un9)) (gw rfl (bi rfl rfl q_i64_sub) (gw rfl (ixs rfl rfl rfl rfl (ix_str un9 (getI_some hv67).1 (getI_some hv67).2)) (gw rfl (bi rfl rfl (q_u8_neq (b := (117 : UInt8)))) (s1 (pkf rfl rfl) (SO.nil ((wq rfl)))))))))
    ·rintro y65 h0
     refine cB h0 rfl (fun h0 => ?_) (fun h0 => ?_)
     ·have q := si h0; subst q
      exact sr (sa rfl (sn (SC.ret (finR (Wk.refl _) (lresT rfl lresN) rfl))))
     ·refine sk (sr (s1 (asg (v := .d (eU64 (0 : UInt64))) rfl) (sn (SC.seqP h0 (fun y => ⟨mk 120 [(0, .d (eU64 p0)), (7, .d (eS r62)), (8, .d (eU64 y))], []⟩) ?_ ?_))))
      ·intro u1_79 h1
       obtain ⟨u2_87, h2, h1⟩ := ob h1
       refine sr (sa rfl (sn (SC.blk (SC.loopB h2 (fun y => ⟨mk 120 [(0, .d (eU64 p0)), (7, .d (eS r62)), (8, .d (eU64 y.1)), (9, .d (eI y.2))], []⟩) (wq rfl) ?_))))
       intro n89
       rintro ⟨y81, y82⟩ w2_86 h3 hv3
       refine sq (sr (sm rfl (sm rfl (s1 (len rfl rfl rfl (len_str un9)) (s1 (bi rfl rfl q_i64_sub) (s1 (bi rfl rfl q_i64_lss) (sn (cB h3 rfl (fun h3 => ?_) (fun h3 => ?_)))))))))
       ·obtain ⟨v88, hv88, h3⟩ := ob h3
        refine sk (sq (SC.blk (SC.region (sm rfl (s1 (bi rfl rfl (q_u64_mul (a := (10 : UInt64)))) (sm rfl (sm rfl (s1 (ixs rfl rfl rfl rfl (ix_str un9 (getI_some hv88).1 (getI_some hv88).2)) (s1 (bi rfl rfl (q_u8_sub (b := (48 : UInt8)))) ?_)))))))))
        refine s1 (cvo rfl (cv_u8_u64 un5 un22 (v88 - (48 : UInt8)))) (s1 (bi rfl rfl q_u64_add) (sa rfl (SO.nil ?_)))
        change SC _ _ _ _ _
        have q := si h3; subst q
        exact SC.region (sm rfl (s1 (bi rfl rfl q_i64_add) (sa rfl (SO.nil (lf (wq rfl))))))
       ·have q := si h3; subst q; have q : _ = _ := hv3; subst q; have q := si h1; subst q
        exact SC.exit ((wq rfl))
      ·rintro y78 h0
       obtain ⟨r90, hq91, h0⟩ := ob h0
       refine sr (sm rfl (s1 (bld rfl (bd24_0_1 (1 : Int) p0)) (c0 (value_Text_ok (ApiValue.mk (1 : Int) p0 ([] : List UInt8)) _ hq91) wf rfl rfl rfl cb9 rfl (fun _ => rfl) (fun _ => rfl) (sa rfl (sn (sq (SC.seqP h0 (fun y => ⟨mk 120 [(0, .d (eU64 p0)), (10, .d (eS r90)), (103, .d (eB y))], []⟩) ?_ ?_)))))))
       ·intro u1_94 h1
        refine SC.region (sm rfl (sm rfl (s1 (bi rfl rfl q_u64_neq) (sm rfl (sp h1 (fun h1 => ?_) (fun h1 => ?_))))))
        ·have q := si h1; subst q
         refine kw rfl (kw rfl (kw rfl (kw rfl (kw rfl (kw rfl (kw rfl (kw rfl (kw rfl (kw rfl ?_)))))))))
         exact kw rfl (kw rfl (s1 (pkt rfl rfl) (SO.nil ((wq rfl)))))
        ·refine gw rfl (mv rfl) (gw rfl (cvo rfl (cv_u64_i64 un22 un2 p0)) (gw rfl (bi rfl rfl q_i64_geq) (gw rfl (mv rfl) (sp h1 (fun h1 => ?_) (fun h1 => ?_)))))
         ·obtain ⟨hg95, h1⟩ := gd h1; have q := si h1; subst q
          refine gw rfl (mv rfl) (gw rfl (mv rfl) (gw rfl (mv rfl) (gw rfl (len rfl rfl rfl (len_str un9)) (gw rfl (bi rfl rfl q_i64_sub) (gw rfl (slo rfl rfl rfl rfl (sl_str_hi un9 hg95)) (gw rfl (bi rfl rfl q_str_neq) (gw rfl (pkt rfl rfl) (s1 (pkf rfl rfl) (SO.nil ?_)))))))))
          exact (wq rfl)
         ·have q := si h1; subst q
          refine kw rfl (kw rfl (kw rfl (kw rfl (kw rfl (kw rfl (kw rfl (gw rfl (pkf rfl rfl) (s1 (pkf rfl rfl) (SO.nil ?_)))))))))
          exact (wq rfl)
       ·rintro y93 h0
        refine cB h0 rfl (fun h0 => ?_) (fun h0 => ?_)
        ·have q := si h0; subst q
         exact sr (sa rfl (sn (SC.ret (finR (Wk.refl _) (lresT rfl lresN) rfl))))
        ·refine sk (SC.seqP h0 (fun y => ⟨mk 120 [(4, .d (eB y))], []⟩) ?_ ?_)
         ·intro u1_101 h1
          refine SC.region (sm rfl (s1 (cvo rfl (cv_u64_i64 un22 un2 p0)) (s1 (bi rfl rfl q_i64_geq) (sm rfl (sp h1 (fun h1 => ?_) (fun h1 => ?_))))))
          ·have q := si h1; subst q
           refine kw rfl (kw rfl (kw rfl (kw rfl (kw rfl (kw rfl (kw rfl (kw rfl (kw rfl (kw rfl ?_)))))))))
           exact kw rfl (s1 (pkt rfl rfl) (sa rfl (SO.nil ((wq rfl)))))
          ·obtain ⟨r102, hq103, h1⟩ := ob h1; obtain ⟨hg104, h1⟩ := gd h1; obtain ⟨hg105, h1⟩ := gd h1; have q := si h1; subst q
           refine gw rfl (mv rfl) (gw rfl (mv rfl) (gw rfl (uo rfl rfl (un_u64_neg p0)) (gw rfl (bld rfl (bd24_0_1 (2 : Int) (0 - p0))) (c0 (value_Text_ok (ApiValue.mk (2 : Int) (0 - p0) ([] : List UInt8)) _ hq103) (ww rfl) rfl rfl rfl cb9 rfl (fun _ => rfl) (fun _ => rfl) (gw rfl (mv rfl) (gw rfl (len rfl rfl rfl (len_str un9)) (gw rfl (bi rfl rfl q_i64_sub) (gw rfl (slo rfl rfl rfl rfl (sl_str_hi un9 hg104)) (gw rfl (bi (v := .d (eS (([45] : List UInt8) ++ (List.take (w64 ((r90.length : Int) - (1 : Int))).toNat r102)))) rfl rfl (fun X Y => b_str_add _ X Y ([45] : List UInt8) (List.take (w64 ((r90.length : Int) - (1 : Int))).toNat r102) hg105)) ?_)))))))))
           exact gw rfl (bi rfl rfl q_str_eql) (s1 (pkf rfl rfl) (sa rfl (SO.nil ((wq rfl)))))
         ·rintro y100 h0
          have q := si h0; subst q
          exact SC.ret (finR (Wk.refl _) (lresT rfl lresN) rfl)
end Lv
