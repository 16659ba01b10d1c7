/- Part of the proof of a law: functions and their walks. -/
import Derived.Test.YtihhhgaaagefgaaDoorXFn0
namespace Lv
open Go Go.Proofs
set_option linter.unusedVariables false
set_option linter.unusedSimpArgs false
set_option linter.unusedSectionVars false
set_option maxRecDepth 100000
variable [BaseTab] [TabOk]
noncomputable def ref06_Text (p0 : ApiValue) : Option ((List UInt8)) :=
 Option.bind (ref06_Valid p0) fun r455 =>
 bif (!r455) then
 some ([] : List UInt8)
 else
 bindE (Y := Unit) (E := (List UInt8))
 (bif (p0.Kind == (0 : Int)) then
 some (Sum.inr ([110, 117, 108, 108] : List UInt8))
 else
 bif (p0.Kind == (1 : Int)) then
 bif (decide ((i64u p0.N) < (0 : Int))) then
 Option.bind (ref06_digits 1000 (0 - p0.N)) fun r513 =>
 bif decide (([45] : List UInt8).length + r513.length ≤ 9223372036854775807) then
 some (Sum.inr (([45] : List UInt8) ++ r513))
 else none
 else
 Option.bind (ref06_digits 1000 p0.N) fun r516 =>
 some (Sum.inr r516)
 else
 bif (p0.Kind == (2 : Int)) then
 Option.bind (ref06_digits 1000 p0.N) fun r518 =>
 bif decide (r518.length + ([117] : List UInt8).length ≤ 9223372036854775807) then
 some (Sum.inr (r518 ++ ([117] : List UInt8)))
 else none
 else
 bif (p0.Kind == (3 : Int)) then
 bif (p0.N == (1 : UInt64)) then
 some (Sum.inr ([116, 114, 117, 101] : List UInt8))
 else
 some (Sum.inr ([102, 97, 108, 115, 101] : List UInt8))
 else
 bif (p0.Kind == (4 : Int)) then
 bif decide (([(120 : UInt8)].length) ≠ 0) then
 Option.bind (α := (List UInt8))
 (Option.bind (α := (List UInt8))
 (loop (Y := (List UInt8) × Int) (W := (List UInt8)) (fun (y550, y551) =>
 bif (decide (y551 < (p0.S.length : Int))) then
 Option.bind (getI p0.S y551) fun v561 =>
 Option.bind (getI ([48, 49, 50, 51, 52, 53, 54, 55, 56, 57, 97, 98, 99, 100, 101, 102] : List UInt8) ((v561 / (16 : UInt8)).toNat : Int)) fun v562 =>
 Option.bind (getI p0.S y551) fun v563 =>
 Option.bind (getI ([48, 49, 50, 51, 52, 53, 54, 55, 56, 57, 97, 98, 99, 100, 101, 102] : List UInt8) ((v563 % (16 : UInt8)).toNat : Int)) fun v564 =>
 bif decide ((y550.length + [v562, v564].length) * 1 ≤ room) then
 some (Sum.inl ((y550 ++ [v562, v564]), (w64 (y551 + (1 : Int)))))
 else none
 else
 some (Sum.inr y550)) ([(120 : UInt8)], (0 : Int)))
 (fun e => some e))
 fun y543 =>
 some (Sum.inr y543)
 else none
 else
 some (Sum.inl ()))
 (fun _ =>
 Option.bind (α := (List UInt8))
 (Option.bind (α := (List UInt8))
 (loop (Y := (List UInt8) × Int) (W := (List UInt8)) (fun (y640, y641) =>
 bif (decide (y641 < (p0.S.length : Int))) then
 Option.bind (α := (List UInt8))
 (Option.bind (getI p0.S y641) fun v671 =>
 Option.bind (α := Bool)
 (bif (decide (v671 < (33 : UInt8))) then
 some true
 else
 bif (decide ((126 : UInt8) < v671)) then
 some true
 else
 bif (v671 == (34 : UInt8)) then
 some true
 else
 some (v671 == (92 : UInt8)))
 fun y672 =>
 bif y672 then
 Option.bind (getI ([48, 49, 50, 51, 52, 53, 54, 55, 56, 57, 97, 98, 99, 100, 101, 102] : List UInt8) ((v671 / (16 : UInt8)).toNat : Int)) fun v674 =>
 Option.bind (getI ([48, 49, 50, 51, 52, 53, 54, 55, 56, 57, 97, 98, 99, 100, 101, 102] : List UInt8) ((v671 % (16 : UInt8)).toNat : Int)) fun v675 =>
 bif decide ((y640.length + [(92 : UInt8), v674, v675].length) * 1 ≤ room) then
 some (y640 ++ [(92 : UInt8), v674, v675])
 else none
 else
 bif decide ((y640.length + [v671].length) * 1 ≤ room) then
 some (y640 ++ [v671])
 else none)
 fun y669 =>
 some (Sum.inl (y669, (w64 (y641 + (1 : Int)))))
 else
 some (Sum.inr y640)) ([(34 : UInt8)], (0 : Int)))
 (fun e => some e))
 fun y622 =>
 bif decide ((y622.length + [(34 : UInt8)].length) * 1 ≤ room) then
 some (y622 ++ [(34 : UInt8)])
 else none)
 (fun e => some e)
theorem ref06_Text_ok (p0 : ApiValue) (r : (List UInt8)) (h0 : ref06_Text p0 = some r) : CallAt Tryd.prog 12 [.d (eApiValue p0)] [] (.d (eS r)) [] := by
 unfold ref06_Text at h0
 refine fn0 [0] Tryd.func12 rfl rfl rfl rfl rfl ?_
 obtain ⟨r455, hq454, h0⟩ := ob h0
 refine sr (s1 (bxo (k := 0) rfl rfl rfl) (s1 (asg (v := .d (eS ([] : List UInt8))) rfl) (sn (sq (sr (s1 (lod (v := .d (eApiValue p0)) rfl (ld_box ts24 ta24 rfl rfl)) (c0 (ref06_Valid_ok p0 _ hq454) wf rfl rfl rfl cb16 rfl (fun _ => rfl) (fun _ => rfl) (s1 (nt rfl) (sn ?_)))))))))
 refine cB h0 rfl (fun h0 => ?_) (fun h0 => ?_)
 ·have q := si h0; subst q
  exact sr (s1 (asg (v := .d (eS ([] : List UInt8))) rfl) (sn (SC.ret (finR (wc (e' := [(2, .d (eS ([] : List UInt8)))]) [] [] (by kernel_rfl) rfl (by kernel_rfl)) (lresT rfl lresN) rfl))))
 ·refine sk (SC.seqB h0 (fun y => ⟨mk 111 [(1, .ref 0 0 0)], [.box (.d (eApiValue p0))]⟩) ?_ ?_)
  ·intro u1_511 h1 h0
   refine sr (s1 (far (k := 0) rfl fo24_0 ts3 rfl) (s1 (lod rfl (ld_box ts3 ta3 rfl rfl)) (sn (SC.blk (sr (s1 (bi rfl rfl q_i64_eql) (sa rfl (sn (cB h1 rfl (fun h1 => ?_) (fun h1 => ?_))))))))))
   ·have q := si h1; subst q; have q := si h0; subst q
    exact sr (s1 (asg (v := .d (eS ([110, 117, 108, 108] : List UInt8))) rfl) (sn (SC.ret (finR (wc (e' := [(2, .d (eS ([110, 117, 108, 108] : List UInt8)))]) [] [] (by kernel_rfl) rfl (by kernel_rfl)) (lresT rfl lresN) rfl))))
   ·refine sr (s1 (bi rfl rfl q_i64_eql) (sa rfl (sn (cB h1 rfl (fun h1 => ?_) (fun h1 => ?_)))))
    ·refine sq (sr (s1 (far (k := 1) rfl fo24_1 ts22 rfl) (s1 (lod rfl (ld_box ts22 ta22 rfl rfl)) (s1 (cvo rfl (cv_u64_i64 un22 un2 p0.N)) (s1 (bi rfl rfl q_i64_lss) (sn (cB h1 rfl (fun h1 => ?_) (fun h1 => ?_))))))))
     ·obtain ⟨r513, hq512, h1⟩ := ob h1; obtain ⟨hg514, h1⟩ := gd h1; have q := si h1; subst q; have q := si h0; subst q
      exact sr (s1 (far (k := 1) rfl fo24_1 ts22 rfl) (s1 (lod rfl (ld_box ts22 ta22 rfl rfl)) (s1 (uo rfl rfl (un_u64_neg p0.N)) (c0 (ref06_digits_ok 1000 (0 - p0.N) _ hq512) wf rfl rfl rfl cb30 rfl (fun _ => rfl) (fun _ => rfl) (s1 (bi (v := .d (eS (([45] : List UInt8) ++ r513))) rfl rfl (fun X Y => b_str_add _ X Y ([45] : List UInt8) r513 hg514)) (sa rfl (sn (SC.ret (finR (wc (e' := [(2, .d (eS (([45] : List UInt8) ++ r513)))]) [] [] (by kernel_rfl) rfl (by kernel_rfl)) (lresT rfl lresN) rfl)))))))))
     ·obtain ⟨r516, hq515, h1⟩ := ob h1; have q := si h1; subst q; have q := si h0; subst q
      exact sk (sr (s1 (far (k := 1) rfl fo24_1 ts22 rfl) (s1 (lod rfl (ld_box ts22 ta22 rfl rfl)) (c0 (ref06_digits_ok 1000 p0.N _ hq515) wf rfl rfl rfl cb30 rfl (fun _ => rfl) (fun _ => rfl) (sa rfl (sn (SC.ret (finR (wc (e' := [(2, .d (eS r516))]) [] [] (by kernel_rfl) rfl (by kernel_rfl)) (lresT rfl lresN) rfl))))))))
    ·refine sr (s1 (bi rfl rfl q_i64_eql) (sa rfl (sn (cB h1 rfl (fun h1 => ?_) (fun h1 => ?_)))))
     ·obtain ⟨r518, hq517, h1⟩ := ob h1; obtain ⟨hg519, h1⟩ := gd h1; have q := si h1; subst q; have q := si h0; subst q
      exact sr (s1 (far (k := 1) rfl fo24_1 ts22 rfl) (s1 (lod rfl (ld_box ts22 ta22 rfl rfl)) (c0 (ref06_digits_ok 1000 p0.N _ hq517) wf rfl rfl rfl cb30 rfl (fun _ => rfl) (fun _ => rfl) (s1 (bi (v := .d (eS (r518 ++ ([117] : List UInt8)))) rfl rfl (fun X Y => b_str_add _ X Y r518 ([117] : List UInt8) hg519)) (sa rfl (sn (SC.ret (finR (wc (e' := [(2, .d (eS (r518 ++ ([117] : List UInt8))))]) [] [] (by kernel_rfl) rfl (by kernel_rfl)) (lresT rfl lresN) rfl))))))))
     ·refine sr (s1 (bi rfl rfl q_i64_eql) (sa rfl (sn (cB h1 rfl (fun h1 => ?_) (fun h1 => ?_)))))
      ·refine sq (sr (s1 (far (k := 1) rfl fo24_1 ts22 rfl) (s1 (lod rfl (ld_box ts22 ta22 rfl rfl)) (s1 (bi rfl rfl (q_u64_eql (b := (1 : UInt64)))) (sn (cB h1 rfl (fun h1 => ?_) (fun h1 => ?_)))))))
       ·have q := si h1; subst q; have q := si h0; subst q
        exact sr (s1 (asg (v := .d (eS ([116, 114, 117, 101] : List UInt8))) rfl) (sn (SC.ret (finR (wc (e' := [(2, .d (eS ([116, 114, 117, 101] : List UInt8)))]) [] [] (by kernel_rfl) rfl (by kernel_rfl)) (lresT rfl lresN) rfl))))
       ·have q := si h1; subst q; have q := si h0; subst q
        exact sk (sr (s1 (asg (v := .d (eS ([102, 97, 108, 115, 101] : List UInt8))) rfl) (sn (SC.ret (finR (wc (e' := [(2, .d (eS ([102, 97, 108, 115, 101] : List UInt8)))]) [] [] (by kernel_rfl) rfl (by kernel_rfl)) (lresT rfl lresN) rfl)))))
      ·refine sr (s1 (bi rfl rfl q_i64_eql) (sa rfl (sn (cB h1 rfl (fun h1 => ?_) (fun h1 => ?_)))))
       ·obtain ⟨hg520, h1⟩ := gd h1
        refine sr (s1 (bsn (k := 1) (ds := List.map eU8 [(120 : UInt8)]) (off := 0) (l' := [(120 : UInt8)].length) rfl un50 ei5 rfl rfl (by rfl) rfl rfl rfl) (s1 (cvo rfl (cv_bb un50 un5 rfl hg520)) (sa rfl (sn (SC.seqP h1 (fun y => ⟨mk 111 [(3, .slc 0 1 0 y.length none)], [.row 1 (List.map eU8 y) true]⟩) ?_ ?_)))))
        ·intro u2_544 h2
         obtain ⟨u3_560, h3, h2⟩ := ob h2
         refine sr (sa rfl (sn (SC.blk (SC.loopB h3 (fun y => ⟨mk 111 [(1, .ref 0 0 0), (3, .slc 1 1 0 y.1.length none), (4, .d (eI y.2))], [.box (.d (eApiValue p0)), .row 1 (List.map eU8 y.1) true]⟩) (wq rfl) ?_))))
         intro n566
         rintro ⟨y550, y551⟩ w3_559 h4 hv4
         refine sq (sr (sm rfl (s1 (far (k := 2) rfl fo24_2 ts9 rfl) (s1 (lod rfl (ld_box ts9 ta9 rfl rfl)) (s1 (len rfl rfl rfl (len_str un9)) (s1 (bi rfl rfl q_i64_lss) (sn (cB h4 rfl (fun h4 => ?_) (fun h4 => ?_)))))))))
         ·obtain ⟨v561, hv561, h4⟩ := ob h4; obtain ⟨v562, hv562, h4⟩ := ob h4; obtain ⟨v563, hv563, h4⟩ := ob h4; obtain ⟨v564, hv564, h4⟩ := ob h4; obtain ⟨hg565, h4⟩ := gd h4
          refine sk (sq (SC.blk (SC.draws (by kernel_rfl) (t1 ([], false) (mv rfl) rfl (t1 ([], false) (far (k := 2) rfl fo24_2 ts9 rfl) rfl (t1 ([0], false) (lod rfl (ld_box ts9 ta9 rfl rfl)) rfl (t1 ([], false) (mv rfl) rfl (t1 ([], false) (ixs rfl rfl rfl rfl (ix_str un9 (getI_some hv561).1 (getI_some hv561).2)) rfl (t1 ([], false) (bi (v := .d (eU8 (v561 / (16 : UInt8)))) rfl rfl (fun X Y => b_u8_quo _ X Y v561 (16 : UInt8) (by decide))) rfl ?_)))))))))
          refine t1 ([], false) (ixs rfl rfl rfl rfl (ix_str un9 (getI_some hv562).1 (getI_some hv562).2)) rfl (t1 ([], false) (far (k := 2) rfl fo24_2 ts9 rfl) rfl (t1 ([0], false) (lod rfl (ld_box ts9 ta9 rfl rfl)) rfl (t1 ([], false) (mv rfl) rfl (t1 ([], false) (ixs rfl rfl rfl rfl (ix_str un9 (getI_some hv563).1 (getI_some hv563).2)) rfl (t1 ([], false) (bi (v := .d (eU8 (v563 % (16 : UInt8)))) rfl rfl (fun X Y => b_u8_rem _ X Y v563 (16 : UInt8) (by decide))) rfl (t1 ([], false) (ixs rfl rfl rfl rfl (ix_str un9 (getI_some hv564).1 (getI_some hv564).2)) rfl (t1 ([2], true) (bsn (k := 2) (ds := List.map eU8 [v562, v564]) (off := 0) (l' := [v562, v564].length) rfl un50 ei5 rfl rfl (by rfl) rfl rfl rfl) rfl (t1 ([1, 2, 3], true) (app rfl rfl rfl rfl bc50 (aF (f := eU8) (xs := y550) (k := 3) rfl un50 ei5 rfl (el_full (xs := [v562, v564]) rfl) hg565 rfl)) rfl (t1 ([], false) (asg rfl) rfl ?_)))))))))
          refine ST.nil (And.intro (by decide +kernel) ?_)
          change SC _ _ _ _ _
          have q := si h4; subst q
          exact SC.region (sm rfl (s1 (bi rfl rfl q_i64_add) (sa rfl (SO.nil (lf (wc [0, 3] [0, 3] (by kernel_rfl) rfl (by kernel_rfl)))))))
         ·have q := si h4; subst q; have q : _ = _ := hv4; subst q; have q := si h2; subst q
          exact SC.exit ((wc [1] [1] (by kernel_rfl) rfl (by kernel_rfl)))
        ·rintro y543 h1
         have q := si h1; subst q; have q := si h0; subst q
         exact sr (sm rfl (s1 (cvo (v := .d (eS y543)) rfl (cv_bytes_str un50 un9 un5 (el_full (xs := y543) rfl) (fun _ hh => by cases hh))) (sa rfl (sn (SC.ret (finR (wc (e' := [(2, .d (eS y543))]) [] [] (by kernel_rfl) rfl (by kernel_rfl)) (lresT rfl lresN) rfl))))))
       ·have q := si h1; subst q
        exact SC.skip (lf (wq rfl))
  ·intro _ h0
   refine sr (s1 (bsn (k := 1) (ds := List.map eU8 [(34 : UInt8)]) (off := 0) (l' := [(34 : UInt8)].length) rfl un50 ei5 rfl rfl (by rfl) rfl rfl rfl) (sa rfl (sn (SC.seqP h0 (fun y => ⟨mk 111 [(5, .slc 0 1 0 y.length none)], [.row 1 (List.map eU8 y) true]⟩) ?_ ?_))))
   ·intro u1_623 h1
    obtain ⟨u2_661, h2, h1⟩ := ob h1
    refine sr (sa rfl (sn (SC.blk (SC.loopB h2 (fun y => ⟨mk 111 [(1, .ref 0 0 0), (5, .slc 1 1 0 y.1.length none), (6, .d (eI y.2))], [.box (.d (eApiValue p0)), .row 1 (List.map eU8 y.1) true]⟩) (wq rfl) ?_))))
    intro n678
    rintro ⟨y640, y641⟩ w2_660 h3 hv3
    refine sq (sr (sm rfl (s1 (far (k := 2) rfl fo24_2 ts9 rfl) (s1 (lod rfl (ld_box ts9 ta9 rfl rfl)) (s1 (len rfl rfl rfl (len_str un9)) (s1 (bi rfl rfl q_i64_lss) (sn (cB h3 rfl (fun h3 => ?_) (fun h3 => ?_)))))))))
    ·refine sk (SC.seqP h3 (fun y => ⟨mk 111 [(1, .ref 0 0 0), (5, .slc 1 1 0 y.length none), (6, .d (eI y641))], [.box (.d (eApiValue p0)), .row 1 (List.map eU8 y) true]⟩) ?_ ?_)
     ·intro u4_670 h4
      obtain ⟨v671, hv671, h4⟩ := ob h4
      refine SC.blk (sr (s1 (far (k := 2) rfl fo24_2 ts9 rfl) (s1 (lod rfl (ld_box ts9 ta9 rfl rfl)) (sm rfl (s1 (ixs rfl rfl rfl rfl (ix_str un9 (getI_some hv671).1 (getI_some hv671).2)) (sa rfl (sn (SC.seqP h4 (fun y => ⟨mk 111 [(1, .ref 0 0 0), (5, .slc 1 1 0 y640.length none), (6, .d (eI y641)), (7, .d (eU8 v671)), (93, .d (eB y))], [.box (.d (eApiValue p0)), .row 1 (List.map eU8 y640) true]⟩) ?_ ?_))))))))
      ·intro u5_673 h5
       refine SC.region (sm rfl (s1 (bi rfl rfl (q_u8_lss (b := (33 : UInt8)))) (sm rfl (sp h5 (fun h5 => ?_) (fun h5 => ?_)))))
       ·have q := si h5; subst q
        refine kw rfl (kw rfl (s1 (pkt rfl rfl) (sm rfl (kw rfl (kw rfl (s1 (pkt rfl rfl) (sm rfl (kw rfl (kw rfl ?_)))))))))
        exact s1 (pkt rfl rfl) (SO.nil ((wq rfl)))
       ·refine gw rfl (mv rfl) (gw rfl (bi rfl rfl (q_u8_gtr (b := (126 : UInt8)))) (s1 (pkf rfl rfl) (sm rfl (sp h5 (fun h5 => ?_) (fun h5 => ?_)))))
        ·have q := si h5; subst q
         exact kw rfl (kw rfl (s1 (pkt rfl rfl) (sm rfl (kw rfl (kw rfl (s1 (pkt rfl rfl) (SO.nil ((wq rfl)))))))))
        ·refine gw rfl (mv rfl) (gw rfl (bi rfl rfl (q_u8_eql (b := (34 : UInt8)))) (s1 (pkf rfl rfl) (sm rfl (sp h5 (fun h5 => ?_) (fun h5 => ?_)))))
         ·have q := si h5; subst q
          exact kw rfl (kw rfl (s1 (pkt rfl rfl) (SO.nil ((wq rfl)))))
         ·have q := si h5; subst q
          exact gw rfl (mv rfl) (gw rfl (bi rfl rfl (q_u8_eql (b := (92 : UInt8)))) (s1 (pkf rfl rfl) (SO.nil ((wq rfl)))))
      ·rintro y672 h4
       refine cB h4 rfl (fun h4 => ?_) (fun h4 => ?_)
       ·obtain ⟨v674, hv674, h4⟩ := ob h4; obtain ⟨v675, hv675, h4⟩ := ob h4; obtain ⟨hg676, h4⟩ := gd h4; have q := si h4; subst q
        refine SC.draws (by kernel_rfl) (t1 ([], false) (mv rfl) rfl (t1 ([], false) (mv rfl) rfl (t1 ([], false) (bi (v := .d (eU8 (v671 / (16 : UInt8)))) rfl rfl (fun X Y => b_u8_quo _ X Y v671 (16 : UInt8) (by decide))) rfl (t1 ([], false) (ixs rfl rfl rfl rfl (ix_str un9 (getI_some hv674).1 (getI_some hv674).2)) rfl (t1 ([], false) (mv rfl) rfl (t1 ([], false) (bi (v := .d (eU8 (v671 % (16 : UInt8)))) rfl rfl (fun X Y => b_u8_rem _ X Y v671 (16 : UInt8) (by decide))) rfl (t1 ([], false) (ixs rfl rfl rfl rfl (ix_str un9 (getI_some hv675).1 (getI_some hv675).2)) rfl (t1 ([2], true) (bsn (k := 2) (ds := List.map eU8 [(92 : UInt8), v674, v675]) (off := 0) (l' := [(92 : UInt8), v674, v675].length) rfl un50 ei5 rfl rfl (by rfl) rfl rfl rfl) rfl (t1 ([1, 2, 3], true) (app rfl rfl rfl rfl bc50 (aF (f := eU8) (xs := y640) (k := 3) rfl un50 ei5 rfl (el_full (xs := [(92 : UInt8), v674, v675]) rfl) hg676 rfl)) rfl ?_)))))))))
        refine t1 ([], false) (asg rfl) rfl (ST.nil (And.intro (by decide +kernel) ?_))
        exact (wc [0, 3] [0, 3] (by kernel_rfl) rfl (by kernel_rfl))
       ·obtain ⟨hg677, h4⟩ := gd h4; have q := si h4; subst q
        exact SC.region (sm rfl (sm rfl (s1 (bsn (k := 2) (ds := List.map eU8 [v671]) (off := 0) (l' := [v671].length) rfl un50 ei5 rfl rfl (by rfl) rfl rfl rfl) (s1 (app rfl rfl rfl rfl bc50 (aF (f := eU8) (xs := y640) (k := 3) rfl un50 ei5 rfl (el_full (xs := [v671]) rfl) hg677 rfl)) (sa rfl (SO.nil ((wc [0, 3] [0, 3] (by kernel_rfl) rfl (by kernel_rfl)))))))))
     ·rintro y669 h3
      have q := si h3; subst q
      exact SC.region (sm rfl (s1 (bi rfl rfl q_i64_add) (sa rfl (SO.nil (lf (wq rfl))))))
    ·have q := si h3; subst q; have q : _ = _ := hv3; subst q; have q := si h1; subst q
     exact SC.exit ((wc [1] [1] (by kernel_rfl) rfl (by kernel_rfl)))
   ·rintro y622 h0
    obtain ⟨hg679, h0⟩ := gd h0; have q := si h0; subst q
    exact sr (sm rfl (s1 (bsn (k := 1) (ds := List.map eU8 [(34 : UInt8)]) (off := 0) (l' := [(34 : UInt8)].length) rfl un50 ei5 rfl rfl (by rfl) rfl rfl rfl) (s1 (app rfl rfl rfl rfl bc50 (aF (f := eU8) (xs := y622) (k := 2) rfl un50 ei5 rfl (el_full (xs := [(34 : UInt8)]) rfl) hg679 rfl)) (s1 (cvo (v := .d (eS (y622 ++ [(34 : UInt8)]))) rfl (cv_bytes_str un50 un9 un5 (el_full (xs := (y622 ++ [(34 : UInt8)])) rfl) (fun _ hh => by cases hh))) (sa rfl (sn (SC.ret (finR (wc (e' := [(2, .d (eS (y622 ++ [(34 : UInt8)])))]) [] [] (by kernel_rfl) rfl (by kernel_rfl)) (lresT rfl lresN) rfl))))))))
noncomputable def ref06_Parse (p0 : List UInt8) : Option (Int × ApiValue) :=
 Option.bind (ref06_guess p0) fun r20 =>
 Option.bind (α := Bool)
 (bif (p0 == ([] : List UInt8)) then
 some true
 else
 Option.bind (ref06_Text r20) fun r26 =>
 some (r26 != p0))
 fun y23 =>
 bif y23 then
 some ((2 : Int), (ApiValue.mk (0 : Int) (0 : UInt64) ([] : List UInt8)))
 else
 some ((0 : Int), r20)
theorem ref06_Parse_ok (p0 : List UInt8) (r : Int × ApiValue) (h0 : ref06_Parse p0 = some r) : CallAt Tryd.prog 11 [.d (eS p0)] [] (.tuple [.d (eApiValue r.2), .d (eI r.1)]) [.box (.d (eApiValue r.2))] := by
 unfold ref06_Parse at h0
 refine fn0 [0] Tryd.func11 rfl rfl rfl rfl rfl ?_
 obtain ⟨r20, hq19, h0⟩ := ob h0
 refine sr (s1 (alo (k := 0) zo24 rfl) (sa rfl (sn (sr (sm rfl (cq [] [1] (ref06_guess_ok p0 _ hq19) wf rfl rfl rfl cb29 rfl rfl rfl rfl rfl rfl rfl rfl (s1 (alo (k := 2) zo24 rfl) (s0 (sto rfl rfl (sB (d' := .d (eApiValue r20)) ts24 rfl rfl rfl rfl rfl rfl rfl)) (sn ?_)))))))))
 refine sq (SC.seqP h0 (fun y => ⟨mk 17 [(2, .ref 0 0 0), (4, .ref 1 0 0), (14, .d (eB y))], [.box (.d (eApiValue (ApiValue.mk (0 : Int) (0 : UInt64) ([] : List UInt8)))), .box (.d (eApiValue r20))]⟩) ?_ ?_)
 ·intro u1_24 h1
  refine SC.region (sm rfl (s1 (bi rfl rfl (q_str_eql (b := ([] : List UInt8)))) (sm rfl (sp h1 (fun h1 => ?_) (fun h1 => ?_)))))
  ·have q := si h1; subst q
   exact kw rfl (kw rfl (kw rfl (kw rfl (s1 (pkt rfl rfl) (SO.nil ((wc [0, 2] [0, 2] (by kernel_rfl) rfl (by kernel_rfl))))))))
  ·obtain ⟨r26, hq25, h1⟩ := ob h1; have q := si h1; subst q
   exact gw rfl (lod (v := .d (eApiValue r20)) rfl (ld_box ts24 ta24 rfl rfl)) (c0 (ref06_Text_ok r20 _ hq25) (ww rfl) rfl rfl rfl cb12 rfl (fun _ => rfl) (fun _ => rfl) (gw rfl (mv rfl) (gw rfl (bi rfl rfl q_str_neq) (s1 (pkf rfl rfl) (SO.nil ((wc [0, 2] [0, 2] (by kernel_rfl) rfl (by kernel_rfl))))))))
 ·rintro y23 h0
  refine cB h0 rfl (fun h0 => ?_) (fun h0 => ?_)
  ·have q := si h0; subst q
   exact sr (s1 (bld rfl (bd24_ )) (s0 (sto rfl rfl (sB (d' := .d (eApiValue (ApiValue.mk (0 : Int) (0 : UInt64) ([] : List UInt8)))) ts24 rfl rfl rfl rfl rfl rfl rfl)) (sa rfl (sn (SC.ret (finR (wc (e' := [(2, .ref 0 0 0), (3, .d (eI (2 : Int)))]) [0] [0] (by kernel_rfl) rfl (by kernel_rfl)) (lresC rfl (ld_box ts24 ta24 rfl rfl) (lresT rfl lresN)) rfl))))))
  ·have q := si h0; subst q
   exact sk (sr (s1 (lod (v := .d (eApiValue r20)) rfl (ld_box ts24 ta24 rfl rfl)) (s0 (sto rfl rfl (sB (d' := .d (eApiValue r20)) ts24 rfl rfl rfl rfl rfl rfl rfl)) (sa rfl (sn (SC.ret (finR (wc (e' := [(2, .ref 0 0 0), (3, .d (eI (0 : Int)))]) [0] [0] (by kernel_rfl) rfl (by kernel_rfl)) (lresC rfl (ld_box ts24 ta24 rfl rfl) (lresT rfl lresN)) rfl)))))))
noncomputable def law06_ValueTexts (p0 : ApiValue) (p1 : List UInt8) : Option Bool :=
 Option.bind law06_awake_1 fun r61 =>
 bif (!r61) then
 some false
 else
 Option.bind (value_Text p0) fun r63 =>
 Option.bind (value_Parse_1 p1) fun (r65, r66) =>
 Option.bind (ref06_Parse p1) fun (r68, r69) =>
 Option.bind (α := Bool)
 (Option.bind (ref06_Text p0) fun r75 =>
 bif (r63 != r75) then
 some true
 else
 bif (!(eqApiValue r66 r69)) then
 some true
 else
 some (r65 != r68))
 fun y72 =>
 bif y72 then
 some false
 else
 Option.bind (α := Bool)
 (bif (r65 == (0 : Int)) then
 Option.bind (value_Text r66) fun r81 =>
 some (r81 != p1)
 else
 some false)
 fun y78 =>
 bif y78 then
 some false
 else
 Option.bind (value_Parse_1 r63) fun (r83, r84) =>
 Option.bind (value_Valid p0) fun r86 =>
 bif (!r86) then
 some (r63 == ([] : List UInt8))
 else
 Option.bind (α := Bool)
 (bif (r83 == (0 : Int)) then
 some (eqApiValue r84 p0)
 else
 some false)
 fun y87 =>
 some y87
theorem law06_ValueTexts_ok (p0 : ApiValue) (p1 : List UInt8) (r : Bool) (h0 : law06_ValueTexts p0 p1 = some r) : CallAt Tryd.prog 3 [.d (eApiValue p0), .d (eS p1)] [] (.d (eB r)) [] := by
 unfold law06_ValueTexts at h0
 refine fn0 [0, 1] Tryd.func3 rfl rfl rfl rfl rfl ?_
 obtain ⟨r61, hq60, h0⟩ := ob h0
 refine sr (s1 (bxo (k := 0) rfl rfl rfl) (sa rfl (sn (sq (sr (c0 (law06_awake_1_ok _ hq60) wf rfl rfl rfl cb8 rfl (fun _ => rfl) (fun _ => rfl) (s1 (nt rfl) (sn (cB h0 rfl (fun h0 => ?_) (fun h0 => ?_))))))))))
 ·have q := si h0; subst q
  exact sr (sa rfl (sn (SC.ret (finR (wc (e' := [(4, .d (eB false))]) [] [] (by kernel_rfl) rfl (by kernel_rfl)) (lresT rfl lresN) rfl))))
 ·obtain ⟨r63, hq62, h0⟩ := ob h0; obtain ⟨⟨r65, r66⟩, hq64, h0⟩ := ob h0; obtain ⟨⟨r68, r69⟩, hq67, h0⟩ := ob h0
  refine sk (sr (s1 (lod (v := .d (eApiValue p0)) rfl (ld_box ts24 ta24 rfl rfl)) (c0 (value_Text_ok p0 _ hq62) wf rfl rfl rfl cb9 rfl (fun _ => rfl) (fun _ => rfl) (sa rfl (sn (sr (sm rfl (cq [] [1] (value_Parse_1_ok p1 _ hq64) wf rfl rfl rfl cb10 rfl rfl rfl rfl rfl rfl rfl rfl (sm rfl ?_)))))))))
  refine s1 (ext rfl rfl) (s1 (ext rfl rfl) (s1 (alo (k := 2) zo24 rfl) (s0 (sto rfl rfl (sB (d' := .d (eApiValue r66)) ts24 rfl rfl rfl rfl rfl rfl rfl)) (sa rfl (sn (sr (sm rfl (cq [] [3] (ref06_Parse_ok p1 _ hq67) wf rfl rfl rfl cb11 rfl rfl rfl rfl rfl rfl rfl rfl (sm rfl ?_)))))))))
  refine s1 (ext rfl rfl) (s1 (ext rfl rfl) (s1 (alo (k := 4) zo24 rfl) (s0 (sto rfl rfl (sB (d' := .d (eApiValue r69)) ts24 rfl rfl rfl rfl rfl rfl rfl)) (sa rfl (sn (sq (SC.seqP h0 (fun y => ⟨mk 65 [(1, .d (eS p1)), (2, .ref 0 0 0), (5, .d (eS r63)), (6, .ref 1 0 0), (7, .d (eI r65)), (39, .d (eB y))], [.box (.d (eApiValue p0)), .box (.d (eApiValue r66))]⟩) ?_ ?_)))))))
  ·intro u1_73 h1
   obtain ⟨r75, hq74, h1⟩ := ob h1
   refine SC.region (sm rfl (s1 (lod (v := .d (eApiValue p0)) rfl (ld_box ts24 ta24 rfl rfl)) (c0 (ref06_Text_ok p0 _ hq74) wf rfl rfl rfl cb12 rfl (fun _ => rfl) (fun _ => rfl) (s1 (bi rfl rfl q_str_neq) (sm rfl (sp h1 (fun h1 => ?_) (fun h1 => ?_)))))))
   ·have q := si h1; subst q
    refine kw rfl (kw rfl (kw rfl (s1 (pkt rfl rfl) (sm rfl (kw rfl (kw rfl (kw rfl (s1 (pkt rfl rfl) (SO.nil ?_)))))))))
    exact (wc [0, 2] [0, 2] (by kernel_rfl) rfl (by kernel_rfl))
   ·refine gw rfl (lod (v := .d (eApiValue r66)) rfl (ld_box ts24 ta24 rfl rfl)) (gw rfl (lod (v := .d (eApiValue r69)) rfl (ld_box ts24 ta24 rfl rfl)) (gw rfl (bi (v := .d (eB (!(eqApiValue r66 r69)))) rfl rfl (fun X Y => eqApiValue_neq_24 X Y r66 r69)) (s1 (pkf rfl rfl) (sm rfl (sp h1 (fun h1 => ?_) (fun h1 => ?_))))))
    ·have q := si h1; subst q
     exact kw rfl (kw rfl (kw rfl (s1 (pkt rfl rfl) (SO.nil ((wc [0, 2] [0, 2] (by kernel_rfl) rfl (by kernel_rfl)))))))
    ·have q := si h1; subst q
     exact gw rfl (mv rfl) (gw rfl (mv rfl) (gw rfl (bi rfl rfl q_i64_neq) (s1 (pkf rfl rfl) (SO.nil ((wc [0, 2] [0, 2] (by kernel_rfl) rfl (by kernel_rfl)))))))
  ·rintro y72 h0
   refine cB h0 rfl (fun h0 => ?_) (fun h0 => ?_)
   ·have q := si h0; subst q
    exact sr (sa rfl (sn (SC.ret (finR (wc (e' := [(4, .d (eB false))]) [] [] (by kernel_rfl) rfl (by kernel_rfl)) (lresT rfl lresN) rfl))))
   ·refine sk (sq (SC.seqP h0 (fun y => ⟨mk 65 [(2, .ref 0 0 0), (5, .d (eS r63)), (47, .d (eB y))], [.box (.d (eApiValue p0))]⟩) ?_ ?_))
    ·intro u1_79 h1
     refine SC.region (sm rfl (s1 (bi rfl rfl q_i64_eql) (sm rfl (sp h1 (fun h1 => ?_) (fun h1 => ?_)))))
     ·obtain ⟨r81, hq80, h1⟩ := ob h1; have q := si h1; subst q
      exact gw rfl (lod (v := .d (eApiValue r66)) rfl (ld_box ts24 ta24 rfl rfl)) (c0 (value_Text_ok r66 _ hq80) (ww rfl) rfl rfl rfl cb9 rfl (fun _ => rfl) (fun _ => rfl) (gw rfl (mv rfl) (gw rfl (bi rfl rfl q_str_neq) (s1 (pkt rfl rfl) (SO.nil ((wc [0] [0] (by kernel_rfl) rfl (by kernel_rfl))))))))
     ·have q := si h1; subst q
      exact kw rfl (kw rfl (kw rfl (kw rfl (s1 (pkf rfl rfl) (SO.nil ((wc [0] [0] (by kernel_rfl) rfl (by kernel_rfl))))))))
    ·rintro y78 h0
     refine cB h0 rfl (fun h0 => ?_) (fun h0 => ?_)
     ·have q := si h0; subst q
      exact sr (sa rfl (sn (SC.ret (finR (wc (e' := [(4, .d (eB false))]) [] [] (by kernel_rfl) rfl (by kernel_rfl)) (lresT rfl lresN) rfl))))
     ·obtain ⟨⟨r83, r84⟩, hq82, h0⟩ := ob h0; obtain ⟨r86, hq85, h0⟩ := ob h0
      refine sk (sr (sm rfl (cq [] [1] (value_Parse_1_ok r63 _ hq82) wf rfl rfl rfl cb10 rfl rfl rfl rfl rfl rfl rfl rfl (sm rfl (s1 (ext rfl rfl) (s1 (ext rfl rfl) (s1 (alo (k := 2) zo24 rfl) (s0 (sto rfl rfl (sB (d' := .d (eApiValue r84)) ts24 rfl rfl rfl rfl rfl rfl rfl)) (sa rfl ?_)))))))))
      refine sn (sq (sr (s1 (lod (v := .d (eApiValue p0)) rfl (ld_box ts24 ta24 rfl rfl)) (c0 (value_Valid_ok p0 _ hq85) wf rfl rfl rfl cb13 rfl (fun _ => rfl) (fun _ => rfl) (s1 (nt rfl) (sn (cB h0 rfl (fun h0 => ?_) (fun h0 => ?_))))))))
      ·have q := si h0; subst q
       exact sr (sm rfl (s1 (bi rfl rfl (q_str_eql (b := ([] : List UInt8)))) (sa rfl (sn (SC.ret (finR (wc (e' := [(4, .d (eB (r63 == ([] : List UInt8))))]) [] [] (by kernel_rfl) rfl (by kernel_rfl)) (lresT rfl lresN) rfl))))))
      ·refine sk (SC.seqP h0 (fun y => ⟨mk 65 [(4, .d (eB y))], []⟩) ?_ ?_)
       ·intro u1_88 h1
        refine SC.region (sm rfl (s1 (bi rfl rfl q_i64_eql) (sm rfl (sp h1 (fun h1 => ?_) (fun h1 => ?_)))))
        ·have q := si h1; subst q
         exact gw rfl (lod (v := .d (eApiValue r84)) rfl (ld_box ts24 ta24 rfl rfl)) (gw rfl (lod (v := .d (eApiValue p0)) rfl (ld_box ts24 ta24 rfl rfl)) (gw rfl (bi (v := .d (eB (eqApiValue r84 p0))) rfl rfl (fun X Y => eqApiValue_eql_24 X Y r84 p0)) (s1 (pkt rfl rfl) (sa rfl (SO.nil ((wc [] [] (by kernel_rfl) rfl (by kernel_rfl))))))))
        ·have q := si h1; subst q
         exact kw rfl (kw rfl (kw rfl (s1 (pkf rfl rfl) (sa rfl (SO.nil ((wc [] [] (by kernel_rfl) rfl (by kernel_rfl))))))))
       ·rintro y87 h0
        have q := si h0; subst q
        exact SC.ret (finR (Wk.refl _) (lresT rfl lresN) rfl)
end Lv
