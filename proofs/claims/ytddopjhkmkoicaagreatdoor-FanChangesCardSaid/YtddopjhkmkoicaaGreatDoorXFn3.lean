/- Part of the proof of a law: functions and their walks. -/
import Derived.Test.YtddopjhkmkoicaaGreatDoorXFn2
namespace Lv
open Go Go.Proofs
set_option linter.unusedVariables false
set_option linter.unusedSimpArgs false
set_option linter.unusedSectionVars false
set_option maxRecDepth 100000
variable [BaseTab] [TabOk]
noncomputable def ref17_Entry (p0 : ApiTable) (p1 : ApiIndex) (p2 : List ApiValue) : Option ApiPair :=
 Option.bind (ref17_Front p1 p2) fun (r163, r164) =>
 Option.bind (ref17_Primary p0 p2) fun r166 =>
 bif decide (r163.length + r166.length ≤ 9223372036854775807) then
 Option.bind (α := ApiPair)
 (bif (decide ((p1.Extra.length : Int) > (0 : Int))) then
 Option.bind (α := (List ApiValue))
 (Option.bind (α := (List ApiValue))
 (loop (Y := (List ApiValue) × Int) (W := (List ApiValue)) (fun (y227, y228) =>
 bif (decide (y228 < (p1.Extra.length : Int))) then
 Option.bind (getI p1.Extra y228) fun v236 =>
 Option.bind (getI p2 v236) fun v237 =>
 bif decide ((y227.length + [v237].length) * 32 ≤ room) then
 some (Sum.inl ((y227 ++ [v237]), (w64 (y228 + (1 : Int)))))
 else none
 else
 some (Sum.inr y227)) (([] : List ApiValue), (0 : Int)))
 (fun e => some e))
 fun y222 =>
 Option.bind (ref08_Bytes y222) fun r241 =>
 some (ApiPair.mk (r163 ++ r166) r241)
 else
 some (ApiPair.mk (r163 ++ r166) ([] : List UInt8)))
 fun y204 =>
 some y204
 else none
theorem ref17_Entry_ok (p0 : ApiTable) (p1 : ApiIndex) (p2 : List ApiValue) (r : ApiPair) (h0 : ref17_Entry p0 p1 p2 = some r) : CallAt Tryz.prog 74 [.d (eApiTable p0), .d (eApiIndex p1), .d ((eL 3 eApiValue) p2)] [] (.d (eApiPair r)) [.box (.d (eApiPair r))] := by
 unfold ref17_Entry at h0
 refine fn0 [0, 1, 2] Tryz.func74 rfl rfl rfl rfl rfl ?_
 obtain ⟨⟨r163, r164⟩, hq162, h0⟩ := ob h0; obtain ⟨r166, hq165, h0⟩ := ob h0; obtain ⟨hg167, h0⟩ := gd h0
 refine sr (s1 (bxo (k := 0) rfl rfl rfl) (s1 (bxo (k := 1) rfl rfl rfl) (s1 (alo (k := 2) zo145 rfl) (sn (sr (s1 (lod (v := .d (eApiIndex p1)) rfl (ld_box ts82 ta82 rfl rfl)) (sm rfl (c0 (ref17_Front_ok p1 p2 _ hq162) wf rfl rfl rfl cb75 rfl (fun _ => rfl) (fun _ => rfl) (sm rfl ?_)))))))))
 refine s1 (ext rfl rfl) (s1 (ext rfl rfl) (sa rfl (sa rfl (sn (sr (sm rfl (s1 (lod (v := .d (eApiTable p0)) rfl (ld_box ts26 ta26 rfl rfl)) (sm rfl (c0 (ref17_Primary_ok p0 p2 _ hq165) wf rfl rfl rfl cb37 rfl (fun _ => rfl) (fun _ => rfl) ?_)))))))))
 refine s1 (bi (v := .d (eS (r163 ++ r166))) rfl rfl (fun X Y => b_str_add _ X Y r163 r166 hg167)) (s1 (bld rfl (bd145_0 (r163 ++ r166))) (s1 (alo (k := 3) zo145 rfl) (s0 (sto rfl rfl (sB (d' := .d (eApiPair (ApiPair.mk (r163 ++ r166) ([] : List UInt8)))) ts145 rfl rfl rfl rfl rfl rfl rfl)) (sn (SC.seqP h0 (fun y => ⟨mk 50 [(6, .ref 0 0 0), (9, .ref 1 0 0)], [.box (.d (eApiPair (ApiPair.mk ([] : List UInt8) ([] : List UInt8)))), .box (.d (eApiPair y))]⟩) ?_ ?_)))))
 ·intro u1_205 h1
  refine sr (s1 (far (k := 2) rfl fo82_2 ts23 rfl) (s1 (lod rfl (ld_box ts23 ta23 rfl rfl)) (s1 (len rfl rfl rfl (len_lst un23)) (s1 (bi rfl rfl q_i64_gtr) (sn (cB h1 rfl (fun h1 => ?_) (fun h1 => ?_)))))))
  ·refine sr (s1 (asg (v := .d .nils) rfl) (sn (SC.seqP h1 (fun y => ⟨mk 50 [(6, .ref 0 0 0), (9, .ref 1 0 0), (10, .slc 2 3 0 y.length none)], [.box (.d (eApiPair (ApiPair.mk ([] : List UInt8) ([] : List UInt8)))), .box (.d (eApiPair (ApiPair.mk (r163 ++ r166) ([] : List UInt8)))), .row 3 (List.map eApiValue y) true]⟩) ?_ ?_)))
   ·intro u2_223 h2
    obtain ⟨u3_235, h3, h2⟩ := ob h2
    refine sr (sa rfl (sn (SC.blk (SC.loopB h3 (fun y => ⟨mk 50 [(2, .d ((eL 3 eApiValue) p2)), (4, .ref 0 0 0), (6, .ref 1 0 0), (9, .ref 2 0 0), (10, .slc 3 3 0 y.1.length none), (11, .d (eI y.2))], [.box (.d (eApiIndex p1)), .box (.d (eApiPair (ApiPair.mk ([] : List UInt8) ([] : List UInt8)))), .box (.d (eApiPair (ApiPair.mk (r163 ++ r166) ([] : List UInt8)))), .row 3 (List.map eApiValue y.1) true]⟩) (Wk.trans (Wk.pushE (σ' := [.box (.d (eApiTable p0)), .box (.d (eApiIndex p1)), .box (.d (eApiPair (ApiPair.mk ([] : List UInt8) ([] : List UInt8)))), .box (.d (eApiPair (ApiPair.mk (r163 ++ r166) ([] : List UInt8)))), .row 3 (List.map eApiValue ([] : List ApiValue)) true]) (.row 3 [] true) (fun _ hh => by cases hh) rfl) (Wk.trans (Wk.env (e' := [(2, .d ((eL 3 eApiValue) p2)), (4, .ref 1 0 0), (6, .ref 2 0 0), (9, .ref 3 0 0), (10, .slc 4 3 0 (([] : List ApiValue).length) none), (11, .d (eI (0 : Int)))]) (EW.cons (AW.refl _) (EW.cons (AW.refl _) (EW.cons (AW.refl _) (EW.cons (AW.refl _) (EW.cons (AW.slcn _ _ _) (EW.cons (AW.refl _) EW.nil))))))) (wc [1, 2, 3, 4] [1, 2, 3, 4] (by kernel_rfl) rfl (by kernel_rfl)))) ?_))))
    intro n239
    rintro ⟨y227, y228⟩ w3_234 h4 hv4
    refine sq (sr (sm rfl (s1 (far (k := 2) rfl fo82_2 ts23 rfl) (s1 (lod rfl (ld_box ts23 ta23 rfl rfl)) (s1 (len rfl rfl rfl (len_lst un23)) (s1 (bi rfl rfl q_i64_lss) (sn (cB h4 rfl (fun h4 => ?_) (fun h4 => ?_)))))))))
    ·obtain ⟨v236, hv236, h4⟩ := ob h4; obtain ⟨v237, hv237, h4⟩ := ob h4; obtain ⟨hg238, h4⟩ := gd h4
     refine sk (sq (SC.blk (SC.region (sm rfl (sm rfl (s1 (far (k := 2) rfl fo82_2 ts23 rfl) (s1 (lod rfl (ld_box ts23 ta23 rfl rfl)) (sm rfl (s1 (ial rfl rfl un23 ts3 (getI_some hv236).1 (map_get (getI_some hv236).2) rfl) ?_)))))))))
     refine s1 (lod rfl (ld_rop ts3 ta3 rfl)) (s1 (ial rfl rfl un28 ts68 (getI_some hv237).1 (map_get (getI_some hv237).2) rfl) (s1 (lod (v := .d (eApiValue v237)) rfl (ld_rop ts68 ta68 rfl)) (s1 (bsn (k := 4) (ds := List.map eApiValue [v237]) (off := 0) (l' := [v237].length) rfl un28 ei68 rfl rfl (by rfl) rfl rfl rfl) (s1 (app rfl rfl rfl rfl bc28 (aF (f := eApiValue) (xs := y227) (k := 5) rfl un28 ei68 rfl (el_full (xs := [v237]) rfl) hg238 rfl)) (sa rfl (SO.nil ?_))))))
     change SC _ _ _ _ _
     have q := si h4; subst q
     exact SC.region (sm rfl (s1 (bi rfl rfl q_i64_add) (sa rfl (SO.nil (lf (wc [0, 1, 2, 5] [0, 1, 2, 5] (by kernel_rfl) rfl (by kernel_rfl)))))))
    ·have q := si h4; subst q; have q : _ = _ := hv4; subst q; have q := si h2; subst q
     exact SC.exit ((wc [1, 2, 3] [1, 2, 3] (by kernel_rfl) rfl (by kernel_rfl)))
   ·rintro y222 h1
    obtain ⟨r241, hq240, h1⟩ := ob h1; have q := si h1; subst q
    exact SC.region (sm rfl (cq (args' := [.slc 0 3 0 y222.length none]) (σc := [.row 3 (List.map eApiValue y222) true]) [2] [] (CallAt.frz (ArgF.frz (fF rfl rfl rfl) (ArgF.nil _)) (fq [] [] (ref08_Bytes_ok y222 _ hq240) rfl rfl rfl rfl rfl rfl rfl rfl)) wf rfl rfl rfl cb18 rfl rfl rfl rfl rfl rfl rfl rfl (s1 (far (k := 1) rfl fo145_1 ts9 rfl) (s0 (sto rfl rfl (sB (d' := .d (eApiPair (ApiPair.mk (r163 ++ r166) r241))) ts9 rfl rfl rfl rfl rfl rfl rfl)) (SO.nil ((wc [0, 1] [0, 1] (by kernel_rfl) rfl (by kernel_rfl))))))))
  ·have q := si h1; subst q
   exact SC.skip ((wc [2, 3] [2, 3] (by kernel_rfl) rfl (by kernel_rfl)))
 ·rintro y204 h0
  have q := si h0; subst q
  exact sr (s1 (lod (v := .d (eApiPair y204)) rfl (ld_box ts145 ta145 rfl rfl)) (s0 (sto rfl rfl (sB (d' := .d (eApiPair y204)) ts145 rfl rfl rfl rfl rfl rfl rfl)) (sn (SC.ret (finR (wc (e' := [(6, .ref 0 0 0)]) [0] [0] (by kernel_rfl) rfl (by kernel_rfl)) (lresC rfl (ld_box ts145 ta145 rfl rfl) lresN) rfl)))))
noncomputable def ref07_After (p0 : List UInt8) : Option ((List UInt8) × Bool) :=
 bindE (Y := Unit) (E := (List UInt8) × Bool)
 (Option.bind (α := Unit ⊕ ((List UInt8) × Bool))
 (loop (Y := Int) (W := Unit ⊕ ((List UInt8) × Bool)) (fun y95 =>
 bif (decide (y95 ≥ (0 : Int))) then
 Option.bind (getI p0 y95) fun v103 =>
 bif (decide (v103 < (255 : UInt8))) then
 bif decide (0 ≤ y95 ∧ y95 ≤ (p0.length : Int)) then
 Option.bind (getI p0 y95) fun v105 =>
 bif decide ((List.take y95.toNat p0).length + [(v105 + (1 : UInt8))].length ≤ 9223372036854775807) then
 some (Sum.inr (Sum.inr (((List.take y95.toNat p0) ++ [(v105 + (1 : UInt8))]), true)))
 else none
 else none
 else
 some (Sum.inl (w64 (y95 - (1 : Int))))
 else
 some (Sum.inr (Sum.inl ()))) (w64 ((p0.length : Int) - (1 : Int))))
 (Sum.elim (fun e => some (Sum.inl e)) (fun e => some (Sum.inr e))))
 (fun _ =>
 some (([] : List UInt8), false))
 (fun e => some e)
theorem ref07_After_ok (p0 : List UInt8) (r : (List UInt8) × Bool) (h0 : ref07_After p0 = some r) : CallAt Tryz.prog 106 [.d (eS p0)] [] (.tuple [.d (eS r.1), .d (eB r.2)]) [] := by
 unfold ref07_After at h0
 refine fn0 [0] Tryz.func106 rfl rfl rfl rfl rfl ?_
 refine sr (s1 (asg (v := .d (eS ([] : List UInt8))) rfl) (sa rfl (sn (SC.seqB h0 (fun y => ⟨mk 26 [], []⟩) ?_ ?_))))
 ·intro u1_90 h1 h0
  obtain ⟨u2_102, h2, h1⟩ := ob h1
  refine sr (sm rfl (s1 (len rfl rfl rfl (len_str un9)) (s1 (bi rfl rfl q_i64_sub) (sa rfl (sn (SC.blk (SC.loopB h2 (fun y => ⟨mk 26 [(0, .d (eS p0)), (4, .d (eI y))], []⟩) (wq rfl) ?_)))))))
  intro n107
  rintro y95 w2_101 h3 hv3
  refine sq (sr (sm rfl (s1 (bi rfl rfl q_i64_geq) (sn (cB h3 rfl (fun h3 => ?_) (fun h3 => ?_))))))
  ·obtain ⟨v103, hv103, h3⟩ := ob h3
   refine sk (sq (SC.blk (sr (sm rfl (sm rfl (s1 (ixs rfl rfl rfl rfl (ix_str un9 (getI_some hv103).1 (getI_some hv103).2)) (s1 (bi rfl rfl (q_u8_lss (b := (255 : UInt8)))) (sn (cB h3 rfl (fun h3 => ?_) (fun h3 => ?_))))))))))
   ·obtain ⟨hg104, h3⟩ := gd h3; obtain ⟨v105, hv105, h3⟩ := ob h3; obtain ⟨hg106, h3⟩ := gd h3; have q := si h3; subst q; have q : _ = _ := hv3; subst q; have q := si h1; subst q; have q := si h0; subst q
    refine sd (by kernel_rfl) (t1 ([], false) (mv rfl) rfl (t1 ([], false) (mv rfl) rfl (t1 ([], false) (slo rfl rfl rfl rfl (sl_str_hi un9 hg104)) rfl (t1 ([], false) (mv rfl) rfl (t1 ([], false) (mv rfl) rfl (t1 ([], false) (ixs rfl rfl rfl rfl (ix_str un9 (getI_some hv105).1 (getI_some hv105).2)) rfl (t1 ([], false) (bi rfl rfl (q_u8_add (b := (1 : UInt8)))) rfl (t1 ([0], true) (bsn (k := 0) (ds := List.map eU8 [(v105 + (1 : UInt8))]) (off := 0) (l' := [(v105 + (1 : UInt8))].length) rfl un125 ei5 rfl rfl (by rfl) rfl rfl rfl) rfl (t1 ([0], false) (cvo (v := .d (eS [(v105 + (1 : UInt8))])) rfl (cv_bytes_str un125 un9 un5 (el_full (xs := [(v105 + (1 : UInt8))]) rfl) (fun _ hh => by cases hh))) rfl ?_)))))))))
    exact t1 ([], false) (bi (v := .d (eS ((List.take y95.toNat p0) ++ [(v105 + (1 : UInt8))]))) rfl rfl (fun X Y => b_str_add _ X Y (List.take y95.toNat p0) [(v105 + (1 : UInt8))] hg106)) rfl (t1 ([], false) (asg rfl) rfl (t1 ([], false) (asg rfl) rfl (tn (by decide +kernel) (SC.ret (finR (wc (e' := [(2, .d (eS ((List.take y95.toNat p0) ++ [(v105 + (1 : UInt8))]))), (3, .d (eB true))]) [] [] (by kernel_rfl) rfl (by kernel_rfl)) (lresT rfl (lresT rfl lresN)) rfl)))))
   ·refine SC.skip ?_
    change SC _ _ _ _ _
    have q := si h3; subst q
    exact SC.region (sm rfl (s1 (bi rfl rfl q_i64_sub) (sa rfl (SO.nil (lf (wq rfl))))))
  ·have q := si h3; subst q; have q : _ = _ := hv3; subst q; have q := si h1; subst q
   exact SC.exit (lf (wq rfl))
 ·intro _ h0
  have q := si h0; subst q
  exact sr (s1 (asg (v := .d (eS ([] : List UInt8))) rfl) (sa rfl (sn (SC.ret (finR (Wk.refl _) (lresT rfl (lresT rfl lresN)) rfl)))))
noncomputable def ref07_Under (p0 : List UInt8) : Option ApiSpan :=
 Option.bind (ref07_After p0) fun (r9, r10) =>
 some (ApiSpan.mk p0 r9 (!r10))
theorem ref07_Under_ok (p0 : List UInt8) (r : ApiSpan) (h0 : ref07_Under p0 = some r) : CallAt Tryz.prog 76 [.d (eS p0)] [] (.d (eApiSpan r)) [.box (.d (eApiSpan r))] := by
 unfold ref07_Under at h0
 refine fn0 [0] Tryz.func76 rfl rfl rfl rfl rfl ?_
 obtain ⟨⟨r9, r10⟩, hq8, h0⟩ := ob h0; have q := si h0; subst q
 refine sr (s1 (alo (k := 0) zo31 rfl) (sn (sr (sm rfl (c0 (ref07_After_ok p0 _ hq8) wf rfl rfl rfl cb106 rfl (fun _ => rfl) (fun _ => rfl) (sm rfl (s1 (ext rfl rfl) (s1 (ext rfl rfl) (sa rfl ?_)))))))))
 refine sa rfl (sn (sr (sm rfl (sm rfl (sm rfl (s1 (nt rfl) (s1 (bld rfl (bd31_0_1_2 p0 r9 (!r10))) (s0 (sto rfl rfl (sB (d' := .d (eApiSpan (ApiSpan.mk p0 r9 (!r10)))) ts31 rfl rfl rfl rfl rfl rfl rfl)) (sn ?_)))))))))
 exact SC.ret (finR (Wk.refl _) (lresC rfl (ld_box ts31 ta31 rfl rfl) lresN) rfl)
noncomputable def ref19_Work_op_2 (p0 : Int) (p1 : Int) (p2 : List UInt8) (p3 : List UInt8) (p4 : List Granaryref14Op) (p5 : List ApiLock) (p6 : List Granaryref19Probe) : Option Unit :=
 bif decide ((p4.length + [(Granaryref14Op.mk (1 : Int) p0 (ApiMsg.mk (0 : UInt64) p1 p2 (0 : UInt64) p3 (0 : Int) (0 : UInt64)))].length) * 88 ≤ room) then
 some ()
 else none
theorem ref19_Work_op_2_ok (p0 : Int) (p1 : Int) (p2 : List UInt8) (p3 : List UInt8) (p4 : List Granaryref14Op) (p5 : List ApiLock) (p6 : List Granaryref19Probe) (r : Unit) (h0 : ref19_Work_op_2 p0 p1 p2 p3 p4 p5 p6 = some r) : CallAt Tryz.prog 40 [.ref 0 0 0, .d (eI p0), .d (eI p1), .d (eS p2), .d (eS p3)] [.box (.agg [.slc 1 9 0 p4.length none, .slc 2 5 0 p5.length none, .slc 3 4 0 p6.length none]), .row 9 (List.map eGranaryref14Op p4) true, .row 5 (List.map eApiLock p5) true, .row 4 (List.map eGranaryref19Probe p6) true] (.tuple []) [.box (.agg [.slc 4 9 0 ((p4 ++ [(Granaryref14Op.mk (1 : Int) p0 (ApiMsg.mk (0 : UInt64) p1 p2 (0 : UInt64) p3 (0 : Int) (0 : UInt64)))]).length) none, .slc 2 5 0 p5.length none, .slc 3 4 0 p6.length none]), .dead, .row 5 (List.map eApiLock p5) true, .row 4 (List.map eGranaryref19Probe p6) true, .row 9 (List.map eGranaryref14Op (p4 ++ [(Granaryref14Op.mk (1 : Int) p0 (ApiMsg.mk (0 : UInt64) p1 p2 (0 : UInt64) p3 (0 : Int) (0 : UInt64)))])) true] := by
 unfold ref19_Work_op_2 at h0
 refine fn0 [0, 1, 2, 3, 4] Tryz.func40 rfl rfl rfl rfl rfl ?_
 obtain ⟨hg3, h0⟩ := gd h0; have q := si h0; subst q
 refine SC.region (sm rfl (sm rfl (s1 (nkr rfl) (s1 (far (k := 0) rfl fo46_0 ts43 rfl) (s1 (lod rfl (ld_box ts43 ta43 rfl rfl)) (sm rfl (sm rfl (sm rfl (sm rfl ?_)))))))))
 exact s1 (bld rfl (bd63_1_2_4 p1 p2 p3)) (s1 (bld rfl (bd108_0_1_2 (1 : Int) p0 (ApiMsg.mk (0 : UInt64) p1 p2 (0 : UInt64) p3 (0 : Int) (0 : UInt64)))) (s1 (bsn (k := 4) (ds := List.map eGranaryref14Op [(Granaryref14Op.mk (1 : Int) p0 (ApiMsg.mk (0 : UInt64) p1 p2 (0 : UInt64) p3 (0 : Int) (0 : UInt64)))]) (off := 0) (l' := [(Granaryref14Op.mk (1 : Int) p0 (ApiMsg.mk (0 : UInt64) p1 p2 (0 : UInt64) p3 (0 : Int) (0 : UInt64)))].length) rfl un43 ei108 rfl rfl (by rfl) rfl rfl rfl) (s1 (app rfl rfl rfl rfl bc43 (aF (f := eGranaryref14Op) (xs := p4) (k := 5) rfl un43 ei108 rfl (el_full (xs := [(Granaryref14Op.mk (1 : Int) p0 (ApiMsg.mk (0 : UInt64) p1 p2 (0 : UInt64) p3 (0 : Int) (0 : UInt64)))]) rfl) hg3 rfl)) (s1 (nkr rfl) (s1 (far (k := 0) rfl fo46_0 ts43 rfl) (s0 (sto rfl rfl (sB (d' := .agg [.slc 5 9 0 ((p4 ++ [(Granaryref14Op.mk (1 : Int) p0 (ApiMsg.mk (0 : UInt64) p1 p2 (0 : UInt64) p3 (0 : Int) (0 : UInt64)))]).length) none, .slc 2 5 0 p5.length none, .slc 3 4 0 p6.length none]) ts43 rfl rfl rfl rfl rfl rfl rfl)) (SO.nil (finN (wc (e' := []) [0, 1, 2, 3, 5] [0, 1, 2, 3] (by kernel_rfl) rfl (by kernel_rfl)) lresN rfl))))))))
noncomputable def ref19_Work_own_2 (p0 : Int) (p1 : List UInt8) (p2 : List Granaryref14Op) (p3 : List ApiLock) (p4 : List Granaryref19Probe) : Option Unit :=
 Option.bind (ref19_Point p1) fun _ =>
 bif decide ((p3.length + [(ApiLock.mk p0 (ApiSpan.mk p1 (p1 ++ ([0] : List UInt8)) false) true)].length) * 56 ≤ room) then
 some ()
 else none
theorem ref19_Work_own_2_ok (p0 : Int) (p1 : List UInt8) (p2 : List Granaryref14Op) (p3 : List ApiLock) (p4 : List Granaryref19Probe) (r : Unit) (h0 : ref19_Work_own_2 p0 p1 p2 p3 p4 = some r) : CallAt Tryz.prog 38 [.ref 0 0 0, .d (eI p0), .d (eS p1)] [.box (.agg [.slc 1 9 0 p2.length none, .slc 2 5 0 p3.length none, .slc 3 4 0 p4.length none]), .row 9 (List.map eGranaryref14Op p2) true, .row 5 (List.map eApiLock p3) true, .row 4 (List.map eGranaryref19Probe p4) true] (.tuple []) [.box (.agg [.slc 1 9 0 p2.length none, .slc 4 5 0 ((p3 ++ [(ApiLock.mk p0 (ApiSpan.mk p1 (p1 ++ ([0] : List UInt8)) false) true)]).length) none, .slc 3 4 0 p4.length none]), .row 9 (List.map eGranaryref14Op p2) true, .dead, .row 4 (List.map eGranaryref19Probe p4) true, .row 5 (List.map eApiLock (p3 ++ [(ApiLock.mk p0 (ApiSpan.mk p1 (p1 ++ ([0] : List UInt8)) false) true)])) true] := by
 unfold ref19_Work_own_2 at h0
 refine fn0 [0, 1, 2] Tryz.func38 rfl rfl rfl rfl rfl ?_
 obtain ⟨_, hq5, h0⟩ := ob h0; obtain ⟨hg6, h0⟩ := gd h0; have q := si h0; subst q
 refine SC.draws (by kernel_rfl) (t1 ([], false) (mv rfl) rfl (t1 ([], false) (mv rfl) rfl (t1 ([], false) (nkr rfl) rfl (t1 ([], false) (far (k := 1) rfl fo46_1 ts37 rfl) rfl (t1 ([0], false) (lod rfl (ld_box ts37 ta37 rfl rfl)) rfl (t1 ([], false) (mv rfl) rfl (t1 ([], false) (mv rfl) rfl (tq [] [4] ([4], true) (ref19_Point_ok p1 _ hq5) wf rfl rfl rfl cb7 rfl rfl rfl rfl rfl rfl rfl rfl rfl (t1 ([], false) (bld rfl (bd137_0_1_2 p0 (ApiSpan.mk p1 (p1 ++ ([0] : List UInt8)) false) true)) rfl ?_)))))))))
 refine t1 ([5], true) (bsn (k := 5) (ds := List.map eApiLock [(ApiLock.mk p0 (ApiSpan.mk p1 (p1 ++ ([0] : List UInt8)) false) true)]) (off := 0) (l' := [(ApiLock.mk p0 (ApiSpan.mk p1 (p1 ++ ([0] : List UInt8)) false) true)].length) rfl un37 ei137 rfl rfl (by rfl) rfl rfl rfl) rfl (t1 ([2, 5, 6], true) (app rfl rfl rfl rfl bc37 (aF (f := eApiLock) (xs := p3) (k := 6) rfl un37 ei137 rfl (el_full (xs := [(ApiLock.mk p0 (ApiSpan.mk p1 (p1 ++ ([0] : List UInt8)) false) true)]) rfl) hg6 rfl)) rfl (t1 ([], false) (nkr rfl) rfl (t1 ([], false) (far (k := 1) rfl fo46_1 ts37 rfl) rfl (t0 ([0, 6], true) (sto rfl rfl (sB (d' := .agg [.slc 1 9 0 p2.length none, .slc 6 5 0 ((p3 ++ [(ApiLock.mk p0 (ApiSpan.mk p1 (p1 ++ ([0] : List UInt8)) false) true)]).length) none, .slc 3 4 0 p4.length none]) ts37 rfl rfl rfl rfl rfl rfl rfl)) rfl (ST.nil (And.intro (by decide +kernel) ?_))))))
 exact finN (wc (e' := []) [0, 1, 2, 3, 6] [0, 1, 2, 3] (by kernel_rfl) rfl (by kernel_rfl)) lresN rfl
noncomputable def ref19_Work_index_1 (p0 : ApiTable) (p1 : ApiIndex) (p2 : List ApiValue) (p3 : List ApiValue) (p4 : List Granaryref14Op) (p5 : List ApiLock) (p6 : List Granaryref19Probe) : Option ((List Granaryref14Op) × (List ApiLock) × (List Granaryref19Probe)) :=
 Option.bind (α := (List UInt8) × ApiPair)
 (bif (decide ((p2.length : Int) > (0 : Int))) then
 Option.bind (ref17_Entry p0 p1 p2) fun r103 =>
 Option.bind (ref17_Front p1 p2) fun (r105, r106) =>
 some (r105, r103)
 else
 some (([] : List UInt8), (ApiPair.mk ([] : List UInt8) ([] : List UInt8))))
 fun (y99, y100) =>
 Option.bind (α := ApiPair)
 (bif (decide ((p3.length : Int) > (0 : Int))) then
 Option.bind (ref17_Entry p0 p1 p3) fun r112 =>
 some r112
 else
 some (ApiPair.mk ([] : List UInt8) ([] : List UInt8)))
 fun y109 =>
 Option.bind (α := Bool)
 (bif (decide ((p2.length : Int) > (0 : Int))) then
 bif (decide ((p3.length : Int) > (0 : Int))) then
 some (eqApiPair y100 y109)
 else
 some false
 else
 some false)
 fun y113 =>
 bif y113 then
 some (p4, p5, p6)
 else
 Option.bind (α := (List Granaryref14Op) × (List ApiLock))
 (Option.bind (α := Bool)
 (bif (decide ((p2.length : Int) > (0 : Int))) then
 bif ((p3.length : Int) == (0 : Int)) then
 some true
 else
 some (y100.Key != y109.Key)
 else
 some false)
 fun y122 =>
 bif y122 then
 Option.bind (ref19_Work_op_2 p1.Tree (2 : Int) y100.Key ([] : List UInt8) p4 p5 p6) fun _ =>
 bif p1.Ready then
 Option.bind (ref19_Work_own_2 p1.Tree y100.Key (p4 ++ [(Granaryref14Op.mk (1 : Int) p1.Tree (ApiMsg.mk (0 : UInt64) (2 : Int) y100.Key (0 : UInt64) ([] : List UInt8) (0 : Int) (0 : UInt64)))]) p5 p6) fun _ =>
 some ((p4 ++ [(Granaryref14Op.mk (1 : Int) p1.Tree (ApiMsg.mk (0 : UInt64) (2 : Int) y100.Key (0 : UInt64) ([] : List UInt8) (0 : Int) (0 : UInt64)))]), (p5 ++ [(ApiLock.mk p1.Tree (ApiSpan.mk y100.Key (y100.Key ++ ([0] : List UInt8)) false) true)]))
 else
 some ((p4 ++ [(Granaryref14Op.mk (1 : Int) p1.Tree (ApiMsg.mk (0 : UInt64) (2 : Int) y100.Key (0 : UInt64) ([] : List UInt8) (0 : Int) (0 : UInt64)))]), p5)
 else
 some (p4, p5))
 fun (y119, y120) =>
 bif ((p3.length : Int) == (0 : Int)) then
 some (y119, y120, p6)
 else
 Option.bind (ref19_Work_op_2 p1.Tree (1 : Int) y109.Key y109.Val y119 y120 p6) fun _ =>
 bif (!p1.Ready) then
 some ((y119 ++ [(Granaryref14Op.mk (1 : Int) p1.Tree (ApiMsg.mk (0 : UInt64) (1 : Int) y109.Key (0 : UInt64) y109.Val (0 : Int) (0 : UInt64)))]), y120, p6)
 else
 Option.bind (ref19_Work_own_2 p1.Tree y109.Key (y119 ++ [(Granaryref14Op.mk (1 : Int) p1.Tree (ApiMsg.mk (0 : UInt64) (1 : Int) y109.Key (0 : UInt64) y109.Val (0 : Int) (0 : UInt64)))]) y120 p6) fun _ =>
 Option.bind (ref17_Front p1 p3) fun (r129, r130) =>
 Option.bind (α := Bool)
 (bif p1.Unique then
 bif (!r130) then
 bif ((p2.length : Int) == (0 : Int)) then
 some true
 else
 some (y99 != r129)
 else
 some false
 else
 some false)
 fun y131 =>
 bif y131 then
 Option.bind (ref07_Under r129) fun r134 =>
 bif decide (((y120 ++ [(ApiLock.mk p1.Tree (ApiSpan.mk y109.Key (y109.Key ++ ([0] : List UInt8)) false) true)]).length + [(ApiLock.mk p1.Tree r134 false)].length) * 56 ≤ room) then
 Option.bind (ref07_Under r129) fun r137 =>
 bif decide ((p6.length + [(Granaryref19Probe.mk p1.Tree r137)].length) * 48 ≤ room) then
 some ((y119 ++ [(Granaryref14Op.mk (1 : Int) p1.Tree (ApiMsg.mk (0 : UInt64) (1 : Int) y109.Key (0 : UInt64) y109.Val (0 : Int) (0 : UInt64)))]), ((y120 ++ [(ApiLock.mk p1.Tree (ApiSpan.mk y109.Key (y109.Key ++ ([0] : List UInt8)) false) true)]) ++ [(ApiLock.mk p1.Tree r134 false)]), (p6 ++ [(Granaryref19Probe.mk p1.Tree r137)]))
 else none
 else none
 else
 some ((y119 ++ [(Granaryref14Op.mk (1 : Int) p1.Tree (ApiMsg.mk (0 : UInt64) (1 : Int) y109.Key (0 : UInt64) y109.Val (0 : Int) (0 : UInt64)))]), (y120 ++ [(ApiLock.mk p1.Tree (ApiSpan.mk y109.Key (y109.Key ++ ([0] : List UInt8)) false) true)]), p6)
theorem ref19_Work_index_1_ok (p0 : ApiTable) (p1 : ApiIndex) (p2 : List ApiValue) (p3 : List ApiValue) (p4 : List Granaryref14Op) (p5 : List ApiLock) (p6 : List Granaryref19Probe) (r : (List Granaryref14Op) × (List ApiLock) × (List Granaryref19Probe)) (h0 : ref19_Work_index_1 p0 p1 p2 p3 p4 p5 p6 = some r) : CallAt Tryz.prog 42 [.ref 0 0 0, .d (eApiTable p0), .d (eApiIndex p1), .d ((eL 3 eApiValue) p2), .d ((eL 3 eApiValue) p3)] [.box (.agg [.slc 1 9 0 p4.length none, .slc 2 5 0 p5.length none, .slc 3 4 0 p6.length none]), .row 9 (List.map eGranaryref14Op p4) true, .row 5 (List.map eApiLock p5) true, .row 4 (List.map eGranaryref19Probe p6) true] (.tuple []) [.box (.agg [.slc 4 9 0 r.1.length none, .slc 5 5 0 r.2.1.length none, .slc 6 4 0 r.2.2.length none]), .dead, .dead, .dead, .row 9 (List.map eGranaryref14Op r.1) true, .row 5 (List.map eApiLock r.2.1) true, .row 4 (List.map eGranaryref19Probe r.2.2) true] := by
 unfold ref19_Work_index_1 at h0
 refine fn0 [0, 1, 2, 3, 4] Tryz.func42 rfl rfl rfl rfl rfl ?_
 refine sr (s1 (bxo (k := 4) rfl rfl rfl) (s1 (bxo (k := 5) rfl rfl rfl) (sn (sr (s1 (bld rfl (bd145_ )) (s1 (alo (k := 6) zo145 rfl) (s0 (sto rfl rfl (sB (d' := .d (eApiPair (ApiPair.mk ([] : List UInt8) ([] : List UInt8)))) ts145 rfl rfl rfl rfl rfl rfl rfl)) (sn (sr ?_)))))))))
 refine s1 (bld rfl (bd145_ )) (s1 (alo (k := 7) zo145 rfl) (s0 (sto rfl rfl (sB (d' := .d (eApiPair (ApiPair.mk ([] : List UInt8) ([] : List UInt8)))) ts145 rfl rfl rfl rfl rfl rfl rfl)) (sn (sr (s1 (asg (v := .d (eS ([] : List UInt8))) rfl) (sn (SC.seqP h0 (fun y => ⟨mk 149 [(0, .ref 0 0 0), (3, .d ((eL 3 eApiValue) p2)), (4, .d ((eL 3 eApiValue) p3)), (6, .ref 4 0 0), (7, .ref 5 0 0), (10, .ref 6 0 0), (11, .ref 7 0 0), (12, .d (eS y.1))], [.box (.agg [.slc 1 9 0 p4.length none, .slc 2 5 0 p5.length none, .slc 3 4 0 p6.length none]), .row 9 (List.map eGranaryref14Op p4) true, .row 5 (List.map eApiLock p5) true, .row 4 (List.map eGranaryref19Probe p6) true, .box (.d (eApiTable p0)), .box (.d (eApiIndex p1)), .box (.d (eApiPair y.2)), .box (.d (eApiPair (ApiPair.mk ([] : List UInt8) ([] : List UInt8))))]⟩) ?_ ?_)))))))
 ·intro u1_101 h1
  refine sr (sm rfl (s1 (len rfl rfl rfl (len_lst un28)) (s1 (bi rfl rfl q_i64_gtr) (sn (cB h1 rfl (fun h1 => ?_) (fun h1 => ?_))))))
  ·obtain ⟨r103, hq102, h1⟩ := ob h1; obtain ⟨⟨r105, r106⟩, hq104, h1⟩ := ob h1; have q := si h1; subst q
   refine sr (s1 (lod (v := .d (eApiTable p0)) rfl (ld_box ts26 ta26 rfl rfl)) (s1 (lod (v := .d (eApiIndex p1)) rfl (ld_box ts82 ta82 rfl rfl)) (sm rfl (cq [] [8] (ref17_Entry_ok p0 p1 p2 _ hq102) wf rfl rfl rfl cb74 rfl rfl rfl rfl rfl rfl rfl rfl (s0 (sto rfl rfl (sB (d' := .d (eApiPair r103)) ts145 rfl rfl rfl rfl rfl rfl rfl)) (sn (SC.region (s1 (lod (v := .d (eApiIndex p1)) rfl (ld_box ts82 ta82 rfl rfl)) (sm rfl ?_)))))))))
   exact c0 (ref17_Front_ok p1 p2 _ hq104) wf rfl rfl rfl cb75 rfl (fun _ => rfl) (fun _ => rfl) (sm rfl (s1 (ext rfl rfl) (s1 (ext rfl rfl) (sa rfl (SO.nil ((wc [0, 1, 2, 3, 4, 5, 6, 7] [0, 1, 2, 3, 0, 4, 5, 6, 7] (by kernel_rfl) rfl (by kernel_rfl))))))))
  ·have q := si h1; subst q
   exact SC.skip ((wq rfl))
 ·rintro ⟨y99, y100⟩ h0
  refine SC.seqP h0 (fun y => ⟨mk 149 [(0, .ref 0 0 0), (3, .d ((eL 3 eApiValue) p2)), (4, .d ((eL 3 eApiValue) p3)), (7, .ref 4 0 0), (10, .ref 5 0 0), (11, .ref 6 0 0), (12, .d (eS y99))], [.box (.agg [.slc 1 9 0 p4.length none, .slc 2 5 0 p5.length none, .slc 3 4 0 p6.length none]), .row 9 (List.map eGranaryref14Op p4) true, .row 5 (List.map eApiLock p5) true, .row 4 (List.map eGranaryref19Probe p6) true, .box (.d (eApiIndex p1)), .box (.d (eApiPair y100)), .box (.d (eApiPair y))]⟩) ?_ ?_
  ·intro u1_110 h1
   refine sr (sm rfl (s1 (len rfl rfl rfl (len_lst un28)) (s1 (bi rfl rfl q_i64_gtr) (sn (cB h1 rfl (fun h1 => ?_) (fun h1 => ?_))))))
   ·obtain ⟨r112, hq111, h1⟩ := ob h1; have q := si h1; subst q
    exact SC.region (s1 (lod (v := .d (eApiTable p0)) rfl (ld_box ts26 ta26 rfl rfl)) (s1 (lod (v := .d (eApiIndex p1)) rfl (ld_box ts82 ta82 rfl rfl)) (sm rfl (cq [] [8] (ref17_Entry_ok p0 p1 p3 _ hq111) wf rfl rfl rfl cb74 rfl rfl rfl rfl rfl rfl rfl rfl (s0 (sto rfl rfl (sB (d' := .d (eApiPair r112)) ts145 rfl rfl rfl rfl rfl rfl rfl)) (SO.nil ((wc [0, 1, 2, 3, 5, 6, 7] [0, 1, 2, 3, 0, 5, 6, 7] (by kernel_rfl) rfl (by kernel_rfl)))))))))
   ·have q := si h1; subst q
    exact SC.skip ((wc [0, 1, 2, 3, 5, 6, 7] [0, 1, 2, 3, 0, 5, 6, 7] (by kernel_rfl) rfl (by kernel_rfl)))
  ·rintro y109 h0
   refine sq (SC.seqP h0 (fun y => ⟨mk 149 [(0, .ref 0 0 0), (3, .d ((eL 3 eApiValue) p2)), (4, .d ((eL 3 eApiValue) p3)), (7, .ref 4 0 0), (10, .ref 5 0 0), (11, .ref 6 0 0), (12, .d (eS y99)), (49, .d (eB y))], [.box (.agg [.slc 1 9 0 p4.length none, .slc 2 5 0 p5.length none, .slc 3 4 0 p6.length none]), .row 9 (List.map eGranaryref14Op p4) true, .row 5 (List.map eApiLock p5) true, .row 4 (List.map eGranaryref19Probe p6) true, .box (.d (eApiIndex p1)), .box (.d (eApiPair y100)), .box (.d (eApiPair y109))]⟩) ?_ ?_)
   ·intro u1_114 h1
    refine SC.region (sm rfl (s1 (len rfl rfl rfl (len_lst un28)) (s1 (bi rfl rfl q_i64_gtr) (sm rfl (sp h1 (fun h1 => ?_) (fun h1 => ?_))))))
    ·refine gw rfl (mv rfl) (gw rfl (len rfl rfl rfl (len_lst un28)) (gw rfl (bi rfl rfl q_i64_gtr) (s1 (pkt rfl rfl) (sm rfl (sp h1 (fun h1 => ?_) (fun h1 => ?_))))))
     ·have q := si h1; subst q
      exact gw rfl (lod (v := .d (eApiPair y100)) rfl (ld_box ts145 ta145 rfl rfl)) (gw rfl (lod (v := .d (eApiPair y109)) rfl (ld_box ts145 ta145 rfl rfl)) (gw rfl (bi (v := .d (eB (eqApiPair y100 y109))) rfl rfl (fun X Y => eqApiPair_eql_145 X Y y100 y109)) (s1 (pkt rfl rfl) (SO.nil ((wq rfl))))))
     ·have q := si h1; subst q
      exact kw rfl (kw rfl (kw rfl (s1 (pkf rfl rfl) (SO.nil ((wq rfl))))))
    ·have q := si h1; subst q
     refine kw rfl (kw rfl (kw rfl (s1 (pkf rfl rfl) (sm rfl (kw rfl (kw rfl (kw rfl (s1 (pkf rfl rfl) (SO.nil ?_)))))))))
     exact (wq rfl)
   ·rintro y113 h0
    refine cB h0 rfl (fun h0 => ?_) (fun h0 => ?_)
    ·have q := si h0; subst q
     exact SC.ret (finR (Wk.trans (wq (e' := []) rfl) (Wk.trans (Wk.move (e' := []) (os := [.box (.agg [.slc 7 9 0 p4.length none, .slc 2 5 0 p5.length none, .slc 3 4 0 p6.length none]), .row 9 (List.map eGranaryref14Op p4) true, .row 5 (List.map eApiLock p5) true, .row 4 (List.map eGranaryref19Probe p6) true, .box (.d (eApiIndex p1)), .box (.d (eApiPair y100)), .box (.d (eApiPair y109))]) (o := .row 9 (List.map eGranaryref14Op p4) true) (σ' := [.box (.agg [.slc 7 9 0 p4.length none, .slc 2 5 0 p5.length none, .slc 3 4 0 p6.length none]), .dead, .row 5 (List.map eApiLock p5) true, .row 4 (List.map eGranaryref19Probe p6) true, .box (.d (eApiIndex p1)), .box (.d (eApiPair y100)), .box (.d (eApiPair y109)), .row 9 (List.map eGranaryref14Op p4) true]) 1 (Nat.le_of_ble_eq_true rfl) rfl rfl rfl rfl) (Wk.trans (Wk.move (e' := []) (os := [.box (.agg [.slc 7 9 0 p4.length none, .slc 8 5 0 p5.length none, .slc 3 4 0 p6.length none]), .dead, .row 5 (List.map eApiLock p5) true, .row 4 (List.map eGranaryref19Probe p6) true, .box (.d (eApiIndex p1)), .box (.d (eApiPair y100)), .box (.d (eApiPair y109)), .row 9 (List.map eGranaryref14Op p4) true]) (o := .row 5 (List.map eApiLock p5) true) (σ' := [.box (.agg [.slc 7 9 0 p4.length none, .slc 8 5 0 p5.length none, .slc 3 4 0 p6.length none]), .dead, .dead, .row 4 (List.map eGranaryref19Probe p6) true, .box (.d (eApiIndex p1)), .box (.d (eApiPair y100)), .box (.d (eApiPair y109)), .row 9 (List.map eGranaryref14Op p4) true, .row 5 (List.map eApiLock p5) true]) 2 (Nat.le_of_ble_eq_true rfl) rfl rfl rfl rfl) (Wk.trans (Wk.move (e' := []) (os := [.box (.agg [.slc 7 9 0 p4.length none, .slc 8 5 0 p5.length none, .slc 9 4 0 p6.length none]), .dead, .dead, .row 4 (List.map eGranaryref19Probe p6) true, .box (.d (eApiIndex p1)), .box (.d (eApiPair y100)), .box (.d (eApiPair y109)), .row 9 (List.map eGranaryref14Op p4) true, .row 5 (List.map eApiLock p5) true]) (o := .row 4 (List.map eGranaryref19Probe p6) true) (σ' := [.box (.agg [.slc 7 9 0 p4.length none, .slc 8 5 0 p5.length none, .slc 9 4 0 p6.length none]), .dead, .dead, .dead, .box (.d (eApiIndex p1)), .box (.d (eApiPair y100)), .box (.d (eApiPair y109)), .row 9 (List.map eGranaryref14Op p4) true, .row 5 (List.map eApiLock p5) true, .row 4 (List.map eGranaryref19Probe p6) true]) 3 (Nat.le_of_ble_eq_true rfl) rfl rfl rfl rfl) (wc (e' := []) [0, 1, 2, 3, 7, 8, 9] [0, 1, 2, 3] (by kernel_rfl) rfl (by kernel_rfl)))))) lresN rfl)
    ·refine sk (SC.seqP h0 (fun y => ⟨mk 149 [(0, .ref 0 0 0), (3, .d ((eL 3 eApiValue) p2)), (4, .d ((eL 3 eApiValue) p3)), (7, .ref 4 0 0), (11, .ref 5 0 0), (12, .d (eS y99))], [.box (.agg [.slc 6 9 0 y.1.length none, .slc 7 5 0 y.2.length none, .slc 3 4 0 p6.length none]), .dead, .dead, .row 4 (List.map eGranaryref19Probe p6) true, .box (.d (eApiIndex p1)), .box (.d (eApiPair y109)), .row 9 (List.map eGranaryref14Op y.1) true, .row 5 (List.map eApiLock y.2) true]⟩) ?_ ?_)
     ·intro u1_121 h1
      refine SC.seqP h1 (fun y => ⟨mk 149 [(0, .ref 0 0 0), (3, .d ((eL 3 eApiValue) p2)), (4, .d ((eL 3 eApiValue) p3)), (7, .ref 4 0 0), (10, .ref 5 0 0), (11, .ref 6 0 0), (12, .d (eS y99)), (64, .d (eB y))], [.box (.agg [.slc 1 9 0 p4.length none, .slc 2 5 0 p5.length none, .slc 3 4 0 p6.length none]), .row 9 (List.map eGranaryref14Op p4) true, .row 5 (List.map eApiLock p5) true, .row 4 (List.map eGranaryref19Probe p6) true, .box (.d (eApiIndex p1)), .box (.d (eApiPair y100)), .box (.d (eApiPair y109))]⟩) ?_ ?_
      ·intro u2_123 h2
       refine SC.region (sm rfl (s1 (len rfl rfl rfl (len_lst un28)) (s1 (bi rfl rfl q_i64_gtr) (sm rfl (sp h2 (fun h2 => ?_) (fun h2 => ?_))))))
       ·refine gw rfl (mv rfl) (gw rfl (len rfl rfl rfl (len_lst un28)) (gw rfl (bi rfl rfl q_i64_eql) (gw rfl (mv rfl) (sp h2 (fun h2 => ?_) (fun h2 => ?_)))))
        ·have q := si h2; subst q
         exact kw rfl (kw rfl (kw rfl (kw rfl (kw rfl (gw rfl (pkt rfl rfl) (s1 (pkt rfl rfl) (SO.nil ((wq rfl)))))))))
        ·have q := si h2; subst q
         exact gw rfl (far (k := 0) rfl fo145_0 ts9 rfl) (gw rfl (lod rfl (ld_box ts9 ta9 rfl rfl)) (gw rfl (far (k := 0) rfl fo145_0 ts9 rfl) (gw rfl (lod rfl (ld_box ts9 ta9 rfl rfl)) (gw rfl (bi rfl rfl q_str_neq) (gw rfl (pkf rfl rfl) (s1 (pkt rfl rfl) (SO.nil ((wq rfl)))))))))
       ·have q := si h2; subst q
        refine kw rfl (kw rfl (kw rfl (kw rfl (kw rfl (kw rfl (kw rfl (kw rfl (kw rfl (kw rfl ?_)))))))))
        exact s1 (pkf rfl rfl) (SO.nil ((wq rfl)))
      ·rintro y122 h1
       refine cB h1 rfl (fun h1 => ?_) (fun h1 => ?_)
       ·obtain ⟨_, hq124, h1⟩ := ob h1
        refine sr (sm rfl (s1 (far (k := 5) rfl fo82_5 ts3 rfl) (s1 (lod rfl (ld_box ts3 ta3 rfl rfl)) (s1 (far (k := 0) rfl fo145_0 ts9 rfl) (s1 (lod rfl (ld_box ts9 ta9 rfl rfl)) (cq [0, 1, 2, 3] [7] (ref19_Work_op_2_ok p1.Tree (2 : Int) y100.Key ([] : List UInt8) p4 p5 p6 _ hq124) wf rfl rfl rfl cb40 rfl rfl rfl rfl rfl rfl rfl rfl (sn (sr (s1 (far (k := 4) rfl fo82_4 ts4 rfl) ?_)))))))))
        refine s1 (lod rfl (ld_box ts4 ta4 rfl rfl)) (sn (cB h1 rfl (fun h1 => ?_) (fun h1 => ?_)))
        ·obtain ⟨_, hq125, h1⟩ := ob h1; have q := si h1; subst q
         exact SC.region (sm rfl (s1 (far (k := 5) rfl fo82_5 ts3 rfl) (s1 (lod rfl (ld_box ts3 ta3 rfl rfl)) (s1 (far (k := 0) rfl fo145_0 ts9 rfl) (s1 (lod rfl (ld_box ts9 ta9 rfl rfl)) (cq [0, 7, 2, 3] [8] (ref19_Work_own_2_ok p1.Tree y100.Key (p4 ++ [(Granaryref14Op.mk (1 : Int) p1.Tree (ApiMsg.mk (0 : UInt64) (2 : Int) y100.Key (0 : UInt64) ([] : List UInt8) (0 : Int) (0 : UInt64)))]) p5 p6 _ hq125) wf rfl rfl rfl cb38 rfl rfl rfl rfl rfl rfl rfl rfl (SO.nil ((Wk.trans (wq (e' := [(0, .ref 0 0 0), (3, .d ((eL 3 eApiValue) p2)), (4, .d ((eL 3 eApiValue) p3)), (7, .ref 4 0 0), (11, .ref 6 0 0), (12, .d (eS y99))]) rfl) (wc [0, 1, 2, 3, 4, 6, 7, 8] [0, 1, 2, 3, 0, 4, 6] (by kernel_rfl) rfl (by kernel_rfl)))))))))))
        ·have q := si h1; subst q
         exact SC.skip ((Wk.trans (wq (e' := [(0, .ref 0 0 0), (3, .d ((eL 3 eApiValue) p2)), (4, .d ((eL 3 eApiValue) p3)), (7, .ref 4 0 0), (11, .ref 6 0 0), (12, .d (eS y99))]) rfl) (Wk.trans (Wk.move (e' := [(0, .ref 0 0 0), (3, .d ((eL 3 eApiValue) p2)), (4, .d ((eL 3 eApiValue) p3)), (7, .ref 4 0 0), (11, .ref 6 0 0), (12, .d (eS y99))]) (os := [.box (.agg [.slc 7 9 0 ((p4 ++ [(Granaryref14Op.mk (1 : Int) p1.Tree (ApiMsg.mk (0 : UInt64) (2 : Int) y100.Key (0 : UInt64) ([] : List UInt8) (0 : Int) (0 : UInt64)))]).length) none, .slc 8 5 0 p5.length none, .slc 3 4 0 p6.length none]), .dead, .row 5 (List.map eApiLock p5) true, .row 4 (List.map eGranaryref19Probe p6) true, .box (.d (eApiIndex p1)), .box (.d (eApiPair y100)), .box (.d (eApiPair y109)), .row 9 (List.map eGranaryref14Op (p4 ++ [(Granaryref14Op.mk (1 : Int) p1.Tree (ApiMsg.mk (0 : UInt64) (2 : Int) y100.Key (0 : UInt64) ([] : List UInt8) (0 : Int) (0 : UInt64)))])) true]) (o := .row 5 (List.map eApiLock p5) true) (σ' := [.box (.agg [.slc 7 9 0 ((p4 ++ [(Granaryref14Op.mk (1 : Int) p1.Tree (ApiMsg.mk (0 : UInt64) (2 : Int) y100.Key (0 : UInt64) ([] : List UInt8) (0 : Int) (0 : UInt64)))]).length) none, .slc 8 5 0 p5.length none, .slc 3 4 0 p6.length none]), .dead, .dead, .row 4 (List.map eGranaryref19Probe p6) true, .box (.d (eApiIndex p1)), .box (.d (eApiPair y100)), .box (.d (eApiPair y109)), .row 9 (List.map eGranaryref14Op (p4 ++ [(Granaryref14Op.mk (1 : Int) p1.Tree (ApiMsg.mk (0 : UInt64) (2 : Int) y100.Key (0 : UInt64) ([] : List UInt8) (0 : Int) (0 : UInt64)))])) true, .row 5 (List.map eApiLock p5) true]) 2 (Nat.le_of_ble_eq_true rfl) rfl rfl rfl rfl) (wc [0, 1, 2, 3, 4, 6, 7, 8] [0, 1, 2, 3, 0, 4, 6] (by kernel_rfl) rfl (by kernel_rfl)))))
       ·have q := si h1; subst q
        exact SC.skip ((Wk.trans (wq (e' := [(0, .ref 0 0 0), (3, .d ((eL 3 eApiValue) p2)), (4, .d ((eL 3 eApiValue) p3)), (7, .ref 4 0 0), (11, .ref 6 0 0), (12, .d (eS y99))]) rfl) (Wk.trans (Wk.move (e' := [(0, .ref 0 0 0), (3, .d ((eL 3 eApiValue) p2)), (4, .d ((eL 3 eApiValue) p3)), (7, .ref 4 0 0), (11, .ref 6 0 0), (12, .d (eS y99))]) (os := [.box (.agg [.slc 7 9 0 p4.length none, .slc 2 5 0 p5.length none, .slc 3 4 0 p6.length none]), .row 9 (List.map eGranaryref14Op p4) true, .row 5 (List.map eApiLock p5) true, .row 4 (List.map eGranaryref19Probe p6) true, .box (.d (eApiIndex p1)), .box (.d (eApiPair y100)), .box (.d (eApiPair y109))]) (o := .row 9 (List.map eGranaryref14Op p4) true) (σ' := [.box (.agg [.slc 7 9 0 p4.length none, .slc 2 5 0 p5.length none, .slc 3 4 0 p6.length none]), .dead, .row 5 (List.map eApiLock p5) true, .row 4 (List.map eGranaryref19Probe p6) true, .box (.d (eApiIndex p1)), .box (.d (eApiPair y100)), .box (.d (eApiPair y109)), .row 9 (List.map eGranaryref14Op p4) true]) 1 (Nat.le_of_ble_eq_true rfl) rfl rfl rfl rfl) (Wk.trans (Wk.move (e' := [(0, .ref 0 0 0), (3, .d ((eL 3 eApiValue) p2)), (4, .d ((eL 3 eApiValue) p3)), (7, .ref 4 0 0), (11, .ref 6 0 0), (12, .d (eS y99))]) (os := [.box (.agg [.slc 7 9 0 p4.length none, .slc 8 5 0 p5.length none, .slc 3 4 0 p6.length none]), .dead, .row 5 (List.map eApiLock p5) true, .row 4 (List.map eGranaryref19Probe p6) true, .box (.d (eApiIndex p1)), .box (.d (eApiPair y100)), .box (.d (eApiPair y109)), .row 9 (List.map eGranaryref14Op p4) true]) (o := .row 5 (List.map eApiLock p5) true) (σ' := [.box (.agg [.slc 7 9 0 p4.length none, .slc 8 5 0 p5.length none, .slc 3 4 0 p6.length none]), .dead, .dead, .row 4 (List.map eGranaryref19Probe p6) true, .box (.d (eApiIndex p1)), .box (.d (eApiPair y100)), .box (.d (eApiPair y109)), .row 9 (List.map eGranaryref14Op p4) true, .row 5 (List.map eApiLock p5) true]) 2 (Nat.le_of_ble_eq_true rfl) rfl rfl rfl rfl) (wc [0, 1, 2, 3, 4, 6, 7, 8] [0, 1, 2, 3, 0, 4, 6] (by kernel_rfl) rfl (by kernel_rfl))))))
     ·rintro ⟨y119, y120⟩ h0
      refine sq (sr (sm rfl (s1 (len rfl rfl rfl (len_lst un28)) (s1 (bi rfl rfl q_i64_eql) (sn (cB h0 rfl (fun h0 => ?_) (fun h0 => ?_)))))))
      ·have q := si h0; subst q
       exact SC.ret (finR (Wk.trans (wq (e' := []) rfl) (Wk.trans (Wk.move (e' := []) (os := [.box (.agg [.slc 6 9 0 y119.length none, .slc 7 5 0 y120.length none, .slc 8 4 0 p6.length none]), .dead, .dead, .row 4 (List.map eGranaryref19Probe p6) true, .box (.d (eApiIndex p1)), .box (.d (eApiPair y109)), .row 9 (List.map eGranaryref14Op y119) true, .row 5 (List.map eApiLock y120) true]) (o := .row 4 (List.map eGranaryref19Probe p6) true) (σ' := [.box (.agg [.slc 6 9 0 y119.length none, .slc 7 5 0 y120.length none, .slc 8 4 0 p6.length none]), .dead, .dead, .dead, .box (.d (eApiIndex p1)), .box (.d (eApiPair y109)), .row 9 (List.map eGranaryref14Op y119) true, .row 5 (List.map eApiLock y120) true, .row 4 (List.map eGranaryref19Probe p6) true]) 3 (Nat.le_of_ble_eq_true rfl) rfl rfl rfl rfl) (wc (e' := []) [0, 1, 2, 3, 6, 7, 8] [0, 1, 2, 3] (by kernel_rfl) rfl (by kernel_rfl)))) lresN rfl)
      ·obtain ⟨_, hq126, h0⟩ := ob h0
       refine sk (sr (sm rfl (s1 (far (k := 5) rfl fo82_5 ts3 rfl) (s1 (lod rfl (ld_box ts3 ta3 rfl rfl)) (s1 (far (k := 0) rfl fo145_0 ts9 rfl) (s1 (lod rfl (ld_box ts9 ta9 rfl rfl)) (s1 (far (k := 1) rfl fo145_1 ts9 rfl) (s1 (lod rfl (ld_box ts9 ta9 rfl rfl)) (cq [0, 6, 7, 3] [8] (ref19_Work_op_2_ok p1.Tree (1 : Int) y109.Key y109.Val y119 y120 p6 _ hq126) wf rfl rfl rfl cb40 rfl rfl rfl rfl rfl rfl rfl rfl ?_)))))))))
       refine sn (sq (sr (s1 (far (k := 4) rfl fo82_4 ts4 rfl) (s1 (lod rfl (ld_box ts4 ta4 rfl rfl)) (s1 (nt rfl) (sn (cB h0 rfl (fun h0 => ?_) (fun h0 => ?_))))))))
       ·have q := si h0; subst q
        exact SC.ret (finR (Wk.trans (wq (e' := []) rfl) (Wk.trans (Wk.move (e' := []) (os := [.box (.agg [.slc 8 9 0 ((y119 ++ [(Granaryref14Op.mk (1 : Int) p1.Tree (ApiMsg.mk (0 : UInt64) (1 : Int) y109.Key (0 : UInt64) y109.Val (0 : Int) (0 : UInt64)))]).length) none, .slc 7 5 0 y120.length none, .slc 9 4 0 p6.length none]), .dead, .dead, .row 4 (List.map eGranaryref19Probe p6) true, .box (.d (eApiIndex p1)), .box (.d (eApiPair y109)), .dead, .row 5 (List.map eApiLock y120) true, .row 9 (List.map eGranaryref14Op (y119 ++ [(Granaryref14Op.mk (1 : Int) p1.Tree (ApiMsg.mk (0 : UInt64) (1 : Int) y109.Key (0 : UInt64) y109.Val (0 : Int) (0 : UInt64)))])) true]) (o := .row 4 (List.map eGranaryref19Probe p6) true) (σ' := [.box (.agg [.slc 8 9 0 ((y119 ++ [(Granaryref14Op.mk (1 : Int) p1.Tree (ApiMsg.mk (0 : UInt64) (1 : Int) y109.Key (0 : UInt64) y109.Val (0 : Int) (0 : UInt64)))]).length) none, .slc 7 5 0 y120.length none, .slc 9 4 0 p6.length none]), .dead, .dead, .dead, .box (.d (eApiIndex p1)), .box (.d (eApiPair y109)), .dead, .row 5 (List.map eApiLock y120) true, .row 9 (List.map eGranaryref14Op (y119 ++ [(Granaryref14Op.mk (1 : Int) p1.Tree (ApiMsg.mk (0 : UInt64) (1 : Int) y109.Key (0 : UInt64) y109.Val (0 : Int) (0 : UInt64)))])) true, .row 4 (List.map eGranaryref19Probe p6) true]) 3 (Nat.le_of_ble_eq_true rfl) rfl rfl rfl rfl) (wc (e' := []) [0, 1, 2, 3, 8, 7, 9] [0, 1, 2, 3] (by kernel_rfl) rfl (by kernel_rfl)))) lresN rfl)
       ·obtain ⟨_, hq127, h0⟩ := ob h0; obtain ⟨⟨r129, r130⟩, hq128, h0⟩ := ob h0
        refine sk (sr (sm rfl (s1 (far (k := 5) rfl fo82_5 ts3 rfl) (s1 (lod rfl (ld_box ts3 ta3 rfl rfl)) (s1 (far (k := 0) rfl fo145_0 ts9 rfl) (s1 (lod rfl (ld_box ts9 ta9 rfl rfl)) (cq [0, 8, 7, 3] [9] (ref19_Work_own_2_ok p1.Tree y109.Key (y119 ++ [(Granaryref14Op.mk (1 : Int) p1.Tree (ApiMsg.mk (0 : UInt64) (1 : Int) y109.Key (0 : UInt64) y109.Val (0 : Int) (0 : UInt64)))]) y120 p6 _ hq127) wf rfl rfl rfl cb38 rfl rfl rfl rfl rfl rfl rfl rfl (sn (sr ?_)))))))))
        refine s1 (lod (v := .d (eApiIndex p1)) rfl (ld_box ts82 ta82 rfl rfl)) (sm rfl (c0 (ref17_Front_ok p1 p3 _ hq128) wf rfl rfl rfl cb75 rfl (fun _ => rfl) (fun _ => rfl) (sm rfl (s1 (ext rfl rfl) (s1 (ext rfl rfl) (sa rfl (sa rfl (sn (SC.seqP h0 (fun y => ⟨mk 149 [(0, .ref 0 0 0), (7, .ref 4 0 0), (13, .d (eS r129)), (120, .d (eB y))], [.box (.agg [.slc 5 9 0 ((y119 ++ [(Granaryref14Op.mk (1 : Int) p1.Tree (ApiMsg.mk (0 : UInt64) (1 : Int) y109.Key (0 : UInt64) y109.Val (0 : Int) (0 : UInt64)))]).length) none, .slc 6 5 0 ((y120 ++ [(ApiLock.mk p1.Tree (ApiSpan.mk y109.Key (y109.Key ++ ([0] : List UInt8)) false) true)]).length) none, .slc 3 4 0 p6.length none]), .dead, .dead, .row 4 (List.map eGranaryref19Probe p6) true, .box (.d (eApiIndex p1)), .row 9 (List.map eGranaryref14Op (y119 ++ [(Granaryref14Op.mk (1 : Int) p1.Tree (ApiMsg.mk (0 : UInt64) (1 : Int) y109.Key (0 : UInt64) y109.Val (0 : Int) (0 : UInt64)))])) true, .row 5 (List.map eApiLock (y120 ++ [(ApiLock.mk p1.Tree (ApiSpan.mk y109.Key (y109.Key ++ ([0] : List UInt8)) false) true)])) true]⟩) ?_ ?_)))))))))
        ·intro u1_132 h1
         refine SC.region (s1 (far (k := 3) rfl fo82_3 ts4 rfl) (s1 (lod rfl (ld_box ts4 ta4 rfl rfl)) (sm rfl (sp h1 (fun h1 => ?_) (fun h1 => ?_)))))
         ·refine gw rfl (mv rfl) (gw rfl (nt rfl) (s1 (pkt rfl rfl) (sm rfl (sp h1 (fun h1 => ?_) (fun h1 => ?_)))))
          ·refine gw rfl (mv rfl) (gw rfl (len rfl rfl rfl (len_lst un28)) (gw rfl (bi rfl rfl q_i64_eql) (gw rfl (mv rfl) (sp h1 (fun h1 => ?_) (fun h1 => ?_)))))
           ·have q := si h1; subst q
            exact kw rfl (kw rfl (kw rfl (gw rfl (pkt rfl rfl) (s1 (pkt rfl rfl) (SO.nil ((wc [0, 1, 2, 3, 4, 8, 9] [0, 1, 2, 3, 0, 4] (by kernel_rfl) rfl (by kernel_rfl))))))))
           ·have q := si h1; subst q
            exact gw rfl (mv rfl) (gw rfl (mv rfl) (gw rfl (bi rfl rfl q_str_neq) (gw rfl (pkf rfl rfl) (s1 (pkt rfl rfl) (SO.nil ((wc [0, 1, 2, 3, 4, 8, 9] [0, 1, 2, 3, 0, 4] (by kernel_rfl) rfl (by kernel_rfl))))))))
          ·have q := si h1; subst q
           refine kw rfl (kw rfl (kw rfl (kw rfl (kw rfl (kw rfl (kw rfl (kw rfl (s1 (pkf rfl rfl) (SO.nil ?_)))))))))
           exact (wc [0, 1, 2, 3, 4, 8, 9] [0, 1, 2, 3, 0, 4] (by kernel_rfl) rfl (by kernel_rfl))
         ·have q := si h1; subst q
          refine kw rfl (kw rfl (s1 (pkf rfl rfl) (sm rfl (kw rfl (kw rfl (kw rfl (kw rfl (kw rfl (kw rfl ?_)))))))))
          exact kw rfl (kw rfl (s1 (pkf rfl rfl) (SO.nil ((wc [0, 1, 2, 3, 4, 8, 9] [0, 1, 2, 3, 0, 4] (by kernel_rfl) rfl (by kernel_rfl))))))
        ·rintro y131 h0
         refine cB h0 rfl (fun h0 => ?_) (fun h0 => ?_)
         ·obtain ⟨r134, hq133, h0⟩ := ob h0; obtain ⟨hg135, h0⟩ := gd h0; obtain ⟨r137, hq136, h0⟩ := ob h0; obtain ⟨hg138, h0⟩ := gd h0; have q := si h0; subst q
          refine sd (by kernel_rfl) (t1 ([], false) (mv rfl) rfl (t1 ([], false) (mv rfl) rfl (t1 ([], false) (nkr rfl) rfl (t1 ([], false) (far (k := 1) rfl fo46_1 ts37 rfl) rfl (t1 ([0], false) (lod rfl (ld_box ts37 ta37 rfl rfl)) rfl (t1 ([], false) (far (k := 5) rfl fo82_5 ts3 rfl) rfl (t1 ([4], false) (lod rfl (ld_box ts3 ta3 rfl rfl)) rfl (t1 ([], false) (mv rfl) rfl (tq [] [7] ([7], true) (ref07_Under_ok r129 _ hq133) wf rfl rfl rfl cb76 rfl rfl rfl rfl rfl rfl rfl rfl rfl ?_)))))))))
          refine t1 ([], false) (bld rfl (bd137_0_1 p1.Tree r134)) rfl (t1 ([8], true) (bsn (k := 8) (ds := List.map eApiLock [(ApiLock.mk p1.Tree r134 false)]) (off := 0) (l' := [(ApiLock.mk p1.Tree r134 false)].length) rfl un37 ei137 rfl rfl (by rfl) rfl rfl rfl) rfl (t1 ([6, 8, 9], true) (app rfl rfl rfl rfl bc37 (aF (f := eApiLock) (xs := (y120 ++ [(ApiLock.mk p1.Tree (ApiSpan.mk y109.Key (y109.Key ++ ([0] : List UInt8)) false) true)])) (k := 9) rfl un37 ei137 rfl (el_full (xs := [(ApiLock.mk p1.Tree r134 false)]) rfl) hg135 rfl)) rfl (t1 ([], false) (nkr rfl) rfl (t1 ([], false) (far (k := 1) rfl fo46_1 ts37 rfl) rfl (t0 ([0, 9], true) (sto rfl rfl (sB (d' := .agg [.slc 5 9 0 ((y119 ++ [(Granaryref14Op.mk (1 : Int) p1.Tree (ApiMsg.mk (0 : UInt64) (1 : Int) y109.Key (0 : UInt64) y109.Val (0 : Int) (0 : UInt64)))]).length) none, .slc 9 5 0 (((y120 ++ [(ApiLock.mk p1.Tree (ApiSpan.mk y109.Key (y109.Key ++ ([0] : List UInt8)) false) true)]) ++ [(ApiLock.mk p1.Tree r134 false)]).length) none, .slc 3 4 0 p6.length none]) ts37 rfl rfl rfl rfl rfl rfl rfl)) rfl (tn (by decide +kernel) (SC.draws (by kernel_rfl) (t1 ([], false) (mv rfl) rfl (t1 ([], false) (mv rfl) rfl ?_)))))))))
          refine t1 ([], false) (nkr rfl) rfl (t1 ([], false) (far (k := 2) rfl fo46_2 ts44 rfl) rfl (t1 ([0], false) (lod rfl (ld_box ts44 ta44 rfl rfl)) rfl (t1 ([], false) (far (k := 5) rfl fo82_5 ts3 rfl) rfl (t1 ([4], false) (lod rfl (ld_box ts3 ta3 rfl rfl)) rfl (t1 ([], false) (mv rfl) rfl (tq [] [10] ([10], true) (ref07_Under_ok r129 _ hq136) wf rfl rfl rfl cb76 rfl rfl rfl rfl rfl rfl rfl rfl rfl (t1 ([], false) (bld rfl (bd111_0_1 p1.Tree r137)) rfl (t1 ([11], true) (bsn (k := 11) (ds := List.map eGranaryref19Probe [(Granaryref19Probe.mk p1.Tree r137)]) (off := 0) (l' := [(Granaryref19Probe.mk p1.Tree r137)].length) rfl un44 ei111 rfl rfl (by rfl) rfl rfl rfl) rfl (t1 ([3, 11, 12], true) (app rfl rfl rfl rfl bc44 (aF (f := eGranaryref19Probe) (xs := p6) (k := 12) rfl un44 ei111 rfl (el_full (xs := [(Granaryref19Probe.mk p1.Tree r137)]) rfl) hg138 rfl)) rfl ?_)))))))))
          refine t1 ([], false) (nkr rfl) rfl (t1 ([], false) (far (k := 2) rfl fo46_2 ts44 rfl) rfl (t0 ([0, 12], true) (sto rfl rfl (sB (d' := .agg [.slc 5 9 0 ((y119 ++ [(Granaryref14Op.mk (1 : Int) p1.Tree (ApiMsg.mk (0 : UInt64) (1 : Int) y109.Key (0 : UInt64) y109.Val (0 : Int) (0 : UInt64)))]).length) none, .slc 9 5 0 (((y120 ++ [(ApiLock.mk p1.Tree (ApiSpan.mk y109.Key (y109.Key ++ ([0] : List UInt8)) false) true)]) ++ [(ApiLock.mk p1.Tree r134 false)]).length) none, .slc 12 4 0 ((p6 ++ [(Granaryref19Probe.mk p1.Tree r137)]).length) none]) ts44 rfl rfl rfl rfl rfl rfl rfl)) rfl (ST.nil (And.intro (by decide +kernel) ?_))))
          exact finN (Wk.trans (wq (e' := []) rfl) (wc (e' := []) [0, 1, 2, 3, 5, 9, 12] [0, 1, 2, 3] (by kernel_rfl) rfl (by kernel_rfl))) lresN rfl
         ·have q := si h0; subst q
          exact SC.skip (finN (Wk.trans (wq (e' := []) rfl) (Wk.trans (Wk.move (e' := []) (os := [.box (.agg [.slc 5 9 0 ((y119 ++ [(Granaryref14Op.mk (1 : Int) p1.Tree (ApiMsg.mk (0 : UInt64) (1 : Int) y109.Key (0 : UInt64) y109.Val (0 : Int) (0 : UInt64)))]).length) none, .slc 6 5 0 ((y120 ++ [(ApiLock.mk p1.Tree (ApiSpan.mk y109.Key (y109.Key ++ ([0] : List UInt8)) false) true)]).length) none, .slc 7 4 0 p6.length none]), .dead, .dead, .row 4 (List.map eGranaryref19Probe p6) true, .box (.d (eApiIndex p1)), .row 9 (List.map eGranaryref14Op (y119 ++ [(Granaryref14Op.mk (1 : Int) p1.Tree (ApiMsg.mk (0 : UInt64) (1 : Int) y109.Key (0 : UInt64) y109.Val (0 : Int) (0 : UInt64)))])) true, .row 5 (List.map eApiLock (y120 ++ [(ApiLock.mk p1.Tree (ApiSpan.mk y109.Key (y109.Key ++ ([0] : List UInt8)) false) true)])) true]) (o := .row 4 (List.map eGranaryref19Probe p6) true) (σ' := [.box (.agg [.slc 5 9 0 ((y119 ++ [(Granaryref14Op.mk (1 : Int) p1.Tree (ApiMsg.mk (0 : UInt64) (1 : Int) y109.Key (0 : UInt64) y109.Val (0 : Int) (0 : UInt64)))]).length) none, .slc 6 5 0 ((y120 ++ [(ApiLock.mk p1.Tree (ApiSpan.mk y109.Key (y109.Key ++ ([0] : List UInt8)) false) true)]).length) none, .slc 7 4 0 p6.length none]), .dead, .dead, .dead, .box (.d (eApiIndex p1)), .row 9 (List.map eGranaryref14Op (y119 ++ [(Granaryref14Op.mk (1 : Int) p1.Tree (ApiMsg.mk (0 : UInt64) (1 : Int) y109.Key (0 : UInt64) y109.Val (0 : Int) (0 : UInt64)))])) true, .row 5 (List.map eApiLock (y120 ++ [(ApiLock.mk p1.Tree (ApiSpan.mk y109.Key (y109.Key ++ ([0] : List UInt8)) false) true)])) true, .row 4 (List.map eGranaryref19Probe p6) true]) 3 (Nat.le_of_ble_eq_true rfl) rfl rfl rfl rfl) (wc (e' := []) [0, 1, 2, 3, 5, 6, 7] [0, 1, 2, 3] (by kernel_rfl) rfl (by kernel_rfl)))) lresN rfl)
noncomputable def ref19_Change (p0 : ApiTable) (p1 : List Granaryref19Built) (p2 : List ApiValue) (p3 : List ApiValue) : Option (Int × (List Granaryref14Op) × (List ApiLock) × (List Granaryref19Probe)) :=
 Option.bind (α := Bool)
 (bif ((p1.length : Int) != (p0.Indexes.length : Int)) then
 some true
 else
 bif ((p2.length : Int) == (0 : Int)) then
 some ((p3.length : Int) == (0 : Int))
 else
 some false)
 fun y555 =>
 bif y555 then
 some ((1 : Int), ([] : List Granaryref14Op), ([] : List ApiLock), ([] : List Granaryref19Probe))
 else
 bindE (Y := (List UInt8)) (E := Int × (List Granaryref14Op) × (List ApiLock) × (List Granaryref19Probe))
 (Option.bind (α := ((List UInt8)) ⊕ (Int × (List Granaryref14Op) × (List ApiLock) × (List Granaryref19Probe)))
 (loop (Y := (List UInt8) × Int) (W := ((List UInt8)) ⊕ (Int × (List Granaryref14Op) × (List ApiLock) × (List Granaryref19Probe))) (fun (y618, y619) =>
 bif (decide (y619 < (2 : Int))) then
 bindE (Y := (List UInt8)) (E := Int × (List Granaryref14Op) × (List ApiLock) × (List Granaryref19Probe))
 (Option.bind (α := (List ApiValue))
 (bif (y619 == (1 : Int)) then
 some p3
 else
 some p2)
 fun y646 =>
 bif ((y646.length : Int) == (0 : Int)) then
 some (Sum.inl y618)
 else
 Option.bind (ref08_Fits p0.Cols y646) fun r649 =>
 bif (r649 != (0 : Int)) then
 some (Sum.inr (r649, ([] : List Granaryref14Op), ([] : List ApiLock), ([] : List Granaryref19Probe)))
 else
 Option.bind (ref17_Primary p0 y646) fun r651 =>
 some (Sum.inl r651))
 (fun y644 =>
 some (Sum.inl (y644, (w64 (y619 + (1 : Int))))))
 (fun e => some (Sum.inr (Sum.inr e)))
 else
 some (Sum.inr (Sum.inl y618))) (([] : List UInt8), (0 : Int)))
 (Sum.elim (fun e => some (Sum.inl e)) (fun e => some (Sum.inr e))))
 (fun y604 =>
 Option.bind (α := Bool)
 (bif (decide ((p2.length : Int) > (0 : Int))) then
 bif (decide ((p3.length : Int) > (0 : Int))) then
 Option.bind (ref17_Primary p0 p2) fun r658 =>
 some (r658 != y604)
 else
 some false
 else
 some false)
 fun y655 =>
 bif y655 then
 some ((1 : Int), ([] : List Granaryref14Op), ([] : List ApiLock), ([] : List Granaryref19Probe))
 else
 Option.bind (ref19_Work_own p0.Tree y604) fun _ =>
 Option.bind (ref08_Same p2 p3) fun r661 =>
 bif r661 then
 some ((0 : Int), ([] : List Granaryref14Op), [(ApiLock.mk p0.Tree (ApiSpan.mk y604 (y604 ++ ([0] : List UInt8)) false) true)], ([] : List Granaryref19Probe))
 else
 Option.bind (α := (List Granaryref14Op))
 (bif ((p3.length : Int) == (0 : Int)) then
 Option.bind (ref19_Work_op p0.Tree (2 : Int) y604 ([] : List UInt8) [(ApiLock.mk p0.Tree (ApiSpan.mk y604 (y604 ++ ([0] : List UInt8)) false) true)]) fun _ =>
 some [(Granaryref14Op.mk (1 : Int) p0.Tree (ApiMsg.mk (0 : UInt64) (2 : Int) y604 (0 : UInt64) ([] : List UInt8) (0 : Int) (0 : UInt64)))]
 else
 Option.bind (ref08_Bytes p3) fun r670 =>
 Option.bind (ref19_Work_op p0.Tree (1 : Int) y604 r670 [(ApiLock.mk p0.Tree (ApiSpan.mk y604 (y604 ++ ([0] : List UInt8)) false) true)]) fun _ =>
 some [(Granaryref14Op.mk (1 : Int) p0.Tree (ApiMsg.mk (0 : UInt64) (1 : Int) y604 (0 : UInt64) r670 (0 : Int) (0 : UInt64)))])
 fun y666 =>
 Option.bind (α := (List Granaryref14Op) × (List ApiLock) × (List Granaryref19Probe))
 (Option.bind (α := (List Granaryref14Op) × (List ApiLock) × (List Granaryref19Probe))
 (loop (Y := Int × (List Granaryref14Op) × (List ApiLock) × (List Granaryref19Probe)) (W := (List Granaryref14Op) × (List ApiLock) × (List Granaryref19Probe)) (fun (y775, y776, y777, y778) =>
 bif (decide (y775 < (p0.Indexes.length : Int))) then
 Option.bind (α := (List Granaryref14Op) × (List ApiLock) × (List Granaryref19Probe))
 (Option.bind (getI p0.Indexes y775) fun v820 =>
 Option.bind (getI p1 y775) fun v821 =>
 Option.bind (ref19_Kept v820 v821 y604) fun r823 =>
 bif r823 then
 Option.bind (getI p0.Indexes y775) fun v824 =>
 Option.bind (ref19_Work_index_1 p0 v824 p2 p3 y776 y777 y778) fun (r826, r827, r828) =>
 some (r826, r827, r828)
 else
 some (y776, y777, y778))
 fun (y816, y817, y818) =>
 some (Sum.inl ((w64 (y775 + (1 : Int))), y816, y817, y818))
 else
 some (Sum.inr (y776, y777, y778))) ((0 : Int), y666, [(ApiLock.mk p0.Tree (ApiSpan.mk y604 (y604 ++ ([0] : List UInt8)) false) true)], ([] : List Granaryref19Probe)))
 (fun e => some e))
 fun (y749, y750, y751) =>
 some ((0 : Int), y749, y750, y751))
 (fun e => some e)
theorem ref19_Change_ok (p0 : ApiTable) (p1 : List Granaryref19Built) (p2 : List ApiValue) (p3 : List ApiValue) (r : Int × (List Granaryref14Op) × (List ApiLock) × (List Granaryref19Probe)) (h0 : ref19_Change p0 p1 p2 p3 = some r) : CallAt Tryz.prog 11 [.d (eApiTable p0), .d ((eL 2 eGranaryref19Built) p1), .d ((eL 3 eApiValue) p2), .d ((eL 3 eApiValue) p3)] [] (.tuple [.agg [.slc 1 9 0 r.2.1.length none, .slc 2 5 0 r.2.2.1.length none, .slc 3 4 0 r.2.2.2.length none], .d (eI r.1)]) [.box (.agg [.slc 1 9 0 r.2.1.length none, .slc 2 5 0 r.2.2.1.length none, .slc 3 4 0 r.2.2.2.length none]), .row 9 (List.map eGranaryref14Op r.2.1) true, .row 5 (List.map eApiLock r.2.2.1) true, .row 4 (List.map eGranaryref19Probe r.2.2.2) true] := by
 unfold ref19_Change at h0
 refine fn0 [0, 1, 2, 3] Tryz.func11 rfl rfl rfl rfl rfl ?_
 refine sr (s1 (bxo (k := 0) rfl rfl rfl) (s1 (alo (k := 1) zo46 rfl) (sa rfl (sn (sq (SC.seqP h0 (fun y => ⟨mk 121 [(1, .d ((eL 2 eGranaryref19Built) p1)), (2, .d ((eL 3 eApiValue) p2)), (3, .d ((eL 3 eApiValue) p3)), (4, .ref 0 0 0), (8, .ref 1 0 0), (31, .d (eB y))], [.box (.d (eApiTable p0)), .box (.d (.agg [.nils, .nils, .nils]))]⟩) ?_ ?_))))))
 ·intro u1_556 h1
  refine SC.region (sm rfl (s1 (len rfl rfl rfl (len_lst un49)) (s1 (far (k := 3) rfl fo26_3 ts24 rfl) (s1 (lod rfl (ld_box ts24 ta24 rfl rfl)) (s1 (len rfl rfl rfl (len_lst un24)) (s1 (bi rfl rfl q_i64_neq) (sm rfl (sp h1 (fun h1 => ?_) (fun h1 => ?_)))))))))
  ·have q := si h1; subst q
   refine kw rfl (kw rfl (kw rfl (kw rfl (kw rfl (kw rfl (kw rfl (kw rfl (s1 (pkt rfl rfl) (SO.nil ?_)))))))))
   exact (wq rfl)
  ·refine gw rfl (mv rfl) (gw rfl (len rfl rfl rfl (len_lst un28)) (gw rfl (bi rfl rfl q_i64_eql) (gw rfl (mv rfl) (sp h1 (fun h1 => ?_) (fun h1 => ?_)))))
   ·have q := si h1; subst q
    exact gw rfl (mv rfl) (gw rfl (len rfl rfl rfl (len_lst un28)) (gw rfl (bi rfl rfl q_i64_eql) (gw rfl (pkt rfl rfl) (s1 (pkf rfl rfl) (SO.nil ((wq rfl)))))))
   ·have q := si h1; subst q
    exact kw rfl (kw rfl (kw rfl (gw rfl (pkf rfl rfl) (s1 (pkf rfl rfl) (SO.nil ((wq rfl)))))))
 ·rintro y555 h0
  refine cB h0 rfl (fun h0 => ?_) (fun h0 => ?_)
  ·have q := si h0; subst q
   exact sr (s1 (bld rfl (bd46_ )) (s0 (sto rfl rfl (sB (d' := .d (.agg [.nils, .nils, .nils])) ts46 rfl rfl rfl rfl rfl rfl rfl)) (sa rfl (sn (SC.ret (finR (Wk.trans (Wk.pushE (σ' := [.box (.d (eApiTable p0)), .box (.d (.agg [.nils, .nils, .nils])), .row 9 (List.map eGranaryref14Op ([] : List Granaryref14Op)) true]) (.row 9 [] true) (fun _ hh => by cases hh) rfl) (Wk.trans (Wk.boxE (id := 1) (y := .agg [.slc 2 9 0 (([] : List Granaryref14Op).length) none, .d .nils, .d .nils]) (σ' := [.box (.d (eApiTable p0)), .box (.agg [.slc 2 9 0 (([] : List Granaryref14Op).length) none, .d .nils, .d .nils]), .row 9 (List.map eGranaryref14Op ([] : List Granaryref14Op)) true]) rfl (AWs.cons (AW.slcn _ _ _) (AWs.cons (AW.refl _) (AWs.cons (AW.refl _) AWs.nil))) rfl) (Wk.trans (Wk.pushE (σ' := [.box (.d (eApiTable p0)), .box (.agg [.slc 2 9 0 (([] : List Granaryref14Op).length) none, .d .nils, .d .nils]), .row 9 (List.map eGranaryref14Op ([] : List Granaryref14Op)) true, .row 5 (List.map eApiLock ([] : List ApiLock)) true]) (.row 5 [] true) (fun _ hh => by cases hh) rfl) (Wk.trans (Wk.boxE (id := 1) (y := .agg [.slc 2 9 0 (([] : List Granaryref14Op).length) none, .slc 3 5 0 (([] : List ApiLock).length) none, .d .nils]) (σ' := [.box (.d (eApiTable p0)), .box (.agg [.slc 2 9 0 (([] : List Granaryref14Op).length) none, .slc 3 5 0 (([] : List ApiLock).length) none, .d .nils]), .row 9 (List.map eGranaryref14Op ([] : List Granaryref14Op)) true, .row 5 (List.map eApiLock ([] : List ApiLock)) true]) rfl (AWs.cons (AW.refl _) (AWs.cons (AW.slcn _ _ _) (AWs.cons (AW.refl _) AWs.nil))) rfl) (Wk.trans (Wk.pushE (σ' := [.box (.d (eApiTable p0)), .box (.agg [.slc 2 9 0 (([] : List Granaryref14Op).length) none, .slc 3 5 0 (([] : List ApiLock).length) none, .d .nils]), .row 9 (List.map eGranaryref14Op ([] : List Granaryref14Op)) true, .row 5 (List.map eApiLock ([] : List ApiLock)) true, .row 4 (List.map eGranaryref19Probe ([] : List Granaryref19Probe)) true]) (.row 4 [] true) (fun _ hh => by cases hh) rfl) (Wk.trans (Wk.boxE (id := 1) (y := .agg [.slc 2 9 0 (([] : List Granaryref14Op).length) none, .slc 3 5 0 (([] : List ApiLock).length) none, .slc 4 4 0 (([] : List Granaryref19Probe).length) none]) (σ' := [.box (.d (eApiTable p0)), .box (.agg [.slc 2 9 0 (([] : List Granaryref14Op).length) none, .slc 3 5 0 (([] : List ApiLock).length) none, .slc 4 4 0 (([] : List Granaryref19Probe).length) none]), .row 9 (List.map eGranaryref14Op ([] : List Granaryref14Op)) true, .row 5 (List.map eApiLock ([] : List ApiLock)) true, .row 4 (List.map eGranaryref19Probe ([] : List Granaryref19Probe)) true]) rfl (AWs.cons (AW.refl _) (AWs.cons (AW.refl _) (AWs.cons (AW.slcn _ _ _) AWs.nil))) rfl) (wc (e' := [(8, .ref 0 0 0), (9, .d (eI (1 : Int)))]) [1, 2, 3, 4] [1] (by kernel_rfl) rfl (by kernel_rfl)))))))) (lresC rfl (ld_box ts46 ta46 rfl rfl) (lresT rfl lresN)) rfl))))))
  ·refine sk (sr (s1 (asg (v := .d (eS ([] : List UInt8))) rfl) (sn (SC.seqB h0 (fun y => ⟨mk 121 [(1, .d ((eL 2 eGranaryref19Built) p1)), (2, .d ((eL 3 eApiValue) p2)), (3, .d ((eL 3 eApiValue) p3)), (4, .ref 0 0 0), (8, .ref 1 0 0), (10, .d (eS y))], [.box (.d (eApiTable p0)), .box (.d (.agg [.nils, .nils, .nils]))]⟩) ?_ ?_))))
   ·intro u1_605 h1 h0
    obtain ⟨u2_637, h2, h1⟩ := ob h1
    refine sr (sa rfl (sn (SC.blk (SC.loopB h2 (fun y => ⟨mk 121 [(1, .d ((eL 2 eGranaryref19Built) p1)), (2, .d ((eL 3 eApiValue) p2)), (3, .d ((eL 3 eApiValue) p3)), (4, .ref 0 0 0), (8, .ref 1 0 0), (10, .d (eS y.1)), (11, .d (eI y.2))], [.box (.d (eApiTable p0)), .box (.d (.agg [.nils, .nils, .nils]))]⟩) (wq rfl) ?_))))
    intro n652
    rintro ⟨y618, y619⟩ w2_636 h3 hv3
    refine sq (sr (sm rfl (s1 (bi rfl rfl q_i64_lss) (sn (cB h3 rfl (fun h3 => ?_) (fun h3 => ?_))))))
    ·refine sk (SC.seqB h3 (fun y => ⟨mk 121 [(1, .d ((eL 2 eGranaryref19Built) p1)), (2, .d ((eL 3 eApiValue) p2)), (3, .d ((eL 3 eApiValue) p3)), (4, .ref 0 0 0), (8, .ref 1 0 0), (10, .d (eS y)), (11, .d (eI y619))], [.box (.d (eApiTable p0)), .box (.d (.agg [.nils, .nils, .nils]))]⟩) ?_ ?_)
     ·intro u4_645 h4 h3
      refine SC.blk (sr (sm rfl (sa rfl (sn (SC.seqP h4 (fun y => ⟨mk 121 [(1, .d ((eL 2 eGranaryref19Built) p1)), (2, .d ((eL 3 eApiValue) p2)), (3, .d ((eL 3 eApiValue) p3)), (4, .ref 0 0 0), (8, .ref 1 0 0), (10, .d (eS y618)), (11, .d (eI y619)), (12, .d ((eL 3 eApiValue) y))], [.box (.d (eApiTable p0)), .box (.d (.agg [.nils, .nils, .nils]))]⟩) ?_ ?_)))))
      ·intro u5_647 h5
       refine sr (sm rfl (s1 (bi rfl rfl q_i64_eql) (sn (cB h5 rfl (fun h5 => ?_) (fun h5 => ?_)))))
       ·have q := si h5; subst q
        exact SC.region (sm rfl (sa rfl (SO.nil ((wq rfl)))))
       ·have q := si h5; subst q
        exact SC.skip ((wq rfl))
      ·rintro y646 h4
       refine sq (sr (sm rfl (s1 (len rfl rfl rfl (len_lst un28)) (s1 (bi rfl rfl q_i64_eql) (sn (cB h4 rfl (fun h4 => ?_) (fun h4 => ?_)))))))
       ·have q := si h4; subst q
        exact SC.exit (lf (wq rfl))
       ·obtain ⟨r649, hq648, h4⟩ := ob h4
        refine sk (sr (s1 (far (k := 1) rfl fo26_1 ts22 rfl) (s1 (lod rfl (ld_box ts22 ta22 rfl rfl)) (sm rfl (c0 (ref08_Fits_ok p0.Cols y646 _ hq648) wf rfl rfl rfl cb36 rfl (fun _ => rfl) (fun _ => rfl) (sa rfl (sn (sq (sr ?_)))))))))
        refine sm rfl (s1 (bi rfl rfl q_i64_neq) (sn (cB h4 rfl (fun h4 => ?_) (fun h4 => ?_))))
        ·have q := si h4; subst q; have q := si h3; subst q; have q : _ = _ := hv3; subst q; have q := si h1; subst q; have q := si h0; subst q
         exact sr (s1 (bld rfl (bd46_ )) (sm rfl (s0 (sto rfl rfl (sB (d' := .d (.agg [.nils, .nils, .nils])) ts46 rfl rfl rfl rfl rfl rfl rfl)) (sa rfl (sn (SC.ret (finR (Wk.trans (Wk.pushE (σ' := [.box (.d (eApiTable p0)), .box (.d (.agg [.nils, .nils, .nils])), .row 9 (List.map eGranaryref14Op ([] : List Granaryref14Op)) true]) (.row 9 [] true) (fun _ hh => by cases hh) rfl) (Wk.trans (Wk.boxE (id := 1) (y := .agg [.slc 2 9 0 (([] : List Granaryref14Op).length) none, .d .nils, .d .nils]) (σ' := [.box (.d (eApiTable p0)), .box (.agg [.slc 2 9 0 (([] : List Granaryref14Op).length) none, .d .nils, .d .nils]), .row 9 (List.map eGranaryref14Op ([] : List Granaryref14Op)) true]) rfl (AWs.cons (AW.slcn _ _ _) (AWs.cons (AW.refl _) (AWs.cons (AW.refl _) AWs.nil))) rfl) (Wk.trans (Wk.pushE (σ' := [.box (.d (eApiTable p0)), .box (.agg [.slc 2 9 0 (([] : List Granaryref14Op).length) none, .d .nils, .d .nils]), .row 9 (List.map eGranaryref14Op ([] : List Granaryref14Op)) true, .row 5 (List.map eApiLock ([] : List ApiLock)) true]) (.row 5 [] true) (fun _ hh => by cases hh) rfl) (Wk.trans (Wk.boxE (id := 1) (y := .agg [.slc 2 9 0 (([] : List Granaryref14Op).length) none, .slc 3 5 0 (([] : List ApiLock).length) none, .d .nils]) (σ' := [.box (.d (eApiTable p0)), .box (.agg [.slc 2 9 0 (([] : List Granaryref14Op).length) none, .slc 3 5 0 (([] : List ApiLock).length) none, .d .nils]), .row 9 (List.map eGranaryref14Op ([] : List Granaryref14Op)) true, .row 5 (List.map eApiLock ([] : List ApiLock)) true]) rfl (AWs.cons (AW.refl _) (AWs.cons (AW.slcn _ _ _) (AWs.cons (AW.refl _) AWs.nil))) rfl) (Wk.trans (Wk.pushE (σ' := [.box (.d (eApiTable p0)), .box (.agg [.slc 2 9 0 (([] : List Granaryref14Op).length) none, .slc 3 5 0 (([] : List ApiLock).length) none, .d .nils]), .row 9 (List.map eGranaryref14Op ([] : List Granaryref14Op)) true, .row 5 (List.map eApiLock ([] : List ApiLock)) true, .row 4 (List.map eGranaryref19Probe ([] : List Granaryref19Probe)) true]) (.row 4 [] true) (fun _ hh => by cases hh) rfl) (Wk.trans (Wk.boxE (id := 1) (y := .agg [.slc 2 9 0 (([] : List Granaryref14Op).length) none, .slc 3 5 0 (([] : List ApiLock).length) none, .slc 4 4 0 (([] : List Granaryref19Probe).length) none]) (σ' := [.box (.d (eApiTable p0)), .box (.agg [.slc 2 9 0 (([] : List Granaryref14Op).length) none, .slc 3 5 0 (([] : List ApiLock).length) none, .slc 4 4 0 (([] : List Granaryref19Probe).length) none]), .row 9 (List.map eGranaryref14Op ([] : List Granaryref14Op)) true, .row 5 (List.map eApiLock ([] : List ApiLock)) true, .row 4 (List.map eGranaryref19Probe ([] : List Granaryref19Probe)) true]) rfl (AWs.cons (AW.refl _) (AWs.cons (AW.refl _) (AWs.cons (AW.slcn _ _ _) AWs.nil))) rfl) (wc (e' := [(8, .ref 0 0 0), (9, .d (eI r649))]) [1, 2, 3, 4] [1] (by kernel_rfl) rfl (by kernel_rfl)))))))) (lresC rfl (ld_box ts46 ta46 rfl rfl) (lresT rfl lresN)) rfl)))))))
        ·obtain ⟨r651, hq650, h4⟩ := ob h4; have q := si h4; subst q
         exact sk (SC.region (s1 (lod (v := .d (eApiTable p0)) rfl (ld_box ts26 ta26 rfl rfl)) (sm rfl (c0 (ref17_Primary_ok p0 y646 _ hq650) wf rfl rfl rfl cb37 rfl (fun _ => rfl) (fun _ => rfl) (sa rfl (SO.nil (lf (wq rfl))))))))
     ·rintro y644 h3
      have q := si h3; subst q
      exact SC.region (sm rfl (s1 (bi rfl rfl q_i64_add) (sa rfl (SO.nil (lf (wq rfl))))))
    ·have q := si h3; subst q; have q : _ = _ := hv3; subst q; have q := si h1; subst q
     exact SC.exit (lf (wq rfl))
   ·rintro y604 h0
    refine sq (SC.seqP h0 (fun y => ⟨mk 121 [(1, .d ((eL 2 eGranaryref19Built) p1)), (2, .d ((eL 3 eApiValue) p2)), (3, .d ((eL 3 eApiValue) p3)), (4, .ref 0 0 0), (8, .ref 1 0 0), (10, .d (eS y604)), (69, .d (eB y))], [.box (.d (eApiTable p0)), .box (.d (.agg [.nils, .nils, .nils]))]⟩) ?_ ?_)
    ·intro u1_656 h1
     refine SC.region (sm rfl (s1 (len rfl rfl rfl (len_lst un28)) (s1 (bi rfl rfl q_i64_gtr) (sm rfl (sp h1 (fun h1 => ?_) (fun h1 => ?_))))))
     ·refine gw rfl (mv rfl) (gw rfl (len rfl rfl rfl (len_lst un28)) (gw rfl (bi rfl rfl q_i64_gtr) (s1 (pkt rfl rfl) (sm rfl (sp h1 (fun h1 => ?_) (fun h1 => ?_))))))
      ·obtain ⟨r658, hq657, h1⟩ := ob h1; have q := si h1; subst q
       exact gw rfl (lod (v := .d (eApiTable p0)) rfl (ld_box ts26 ta26 rfl rfl)) (gw rfl (mv rfl) (c0 (ref17_Primary_ok p0 p2 _ hq657) (ww rfl) rfl rfl rfl cb37 rfl (fun _ => rfl) (fun _ => rfl) (gw rfl (mv rfl) (gw rfl (bi rfl rfl q_str_neq) (s1 (pkt rfl rfl) (SO.nil ((wq rfl))))))))
      ·have q := si h1; subst q
       exact kw rfl (kw rfl (kw rfl (kw rfl (kw rfl (s1 (pkf rfl rfl) (SO.nil ((wq rfl))))))))
     ·have q := si h1; subst q
      refine kw rfl (kw rfl (kw rfl (s1 (pkf rfl rfl) (sm rfl (kw rfl (kw rfl (kw rfl (kw rfl (kw rfl ?_)))))))))
      exact s1 (pkf rfl rfl) (SO.nil ((wq rfl)))
    ·rintro y655 h0
     refine cB h0 rfl (fun h0 => ?_) (fun h0 => ?_)
     ·have q := si h0; subst q
      exact sr (s1 (bld rfl (bd46_ )) (s0 (sto rfl rfl (sB (d' := .d (.agg [.nils, .nils, .nils])) ts46 rfl rfl rfl rfl rfl rfl rfl)) (sa rfl (sn (SC.ret (finR (Wk.trans (Wk.pushE (σ' := [.box (.d (eApiTable p0)), .box (.d (.agg [.nils, .nils, .nils])), .row 9 (List.map eGranaryref14Op ([] : List Granaryref14Op)) true]) (.row 9 [] true) (fun _ hh => by cases hh) rfl) (Wk.trans (Wk.boxE (id := 1) (y := .agg [.slc 2 9 0 (([] : List Granaryref14Op).length) none, .d .nils, .d .nils]) (σ' := [.box (.d (eApiTable p0)), .box (.agg [.slc 2 9 0 (([] : List Granaryref14Op).length) none, .d .nils, .d .nils]), .row 9 (List.map eGranaryref14Op ([] : List Granaryref14Op)) true]) rfl (AWs.cons (AW.slcn _ _ _) (AWs.cons (AW.refl _) (AWs.cons (AW.refl _) AWs.nil))) rfl) (Wk.trans (Wk.pushE (σ' := [.box (.d (eApiTable p0)), .box (.agg [.slc 2 9 0 (([] : List Granaryref14Op).length) none, .d .nils, .d .nils]), .row 9 (List.map eGranaryref14Op ([] : List Granaryref14Op)) true, .row 5 (List.map eApiLock ([] : List ApiLock)) true]) (.row 5 [] true) (fun _ hh => by cases hh) rfl) (Wk.trans (Wk.boxE (id := 1) (y := .agg [.slc 2 9 0 (([] : List Granaryref14Op).length) none, .slc 3 5 0 (([] : List ApiLock).length) none, .d .nils]) (σ' := [.box (.d (eApiTable p0)), .box (.agg [.slc 2 9 0 (([] : List Granaryref14Op).length) none, .slc 3 5 0 (([] : List ApiLock).length) none, .d .nils]), .row 9 (List.map eGranaryref14Op ([] : List Granaryref14Op)) true, .row 5 (List.map eApiLock ([] : List ApiLock)) true]) rfl (AWs.cons (AW.refl _) (AWs.cons (AW.slcn _ _ _) (AWs.cons (AW.refl _) AWs.nil))) rfl) (Wk.trans (Wk.pushE (σ' := [.box (.d (eApiTable p0)), .box (.agg [.slc 2 9 0 (([] : List Granaryref14Op).length) none, .slc 3 5 0 (([] : List ApiLock).length) none, .d .nils]), .row 9 (List.map eGranaryref14Op ([] : List Granaryref14Op)) true, .row 5 (List.map eApiLock ([] : List ApiLock)) true, .row 4 (List.map eGranaryref19Probe ([] : List Granaryref19Probe)) true]) (.row 4 [] true) (fun _ hh => by cases hh) rfl) (Wk.trans (Wk.boxE (id := 1) (y := .agg [.slc 2 9 0 (([] : List Granaryref14Op).length) none, .slc 3 5 0 (([] : List ApiLock).length) none, .slc 4 4 0 (([] : List Granaryref19Probe).length) none]) (σ' := [.box (.d (eApiTable p0)), .box (.agg [.slc 2 9 0 (([] : List Granaryref14Op).length) none, .slc 3 5 0 (([] : List ApiLock).length) none, .slc 4 4 0 (([] : List Granaryref19Probe).length) none]), .row 9 (List.map eGranaryref14Op ([] : List Granaryref14Op)) true, .row 5 (List.map eApiLock ([] : List ApiLock)) true, .row 4 (List.map eGranaryref19Probe ([] : List Granaryref19Probe)) true]) rfl (AWs.cons (AW.refl _) (AWs.cons (AW.refl _) (AWs.cons (AW.slcn _ _ _) AWs.nil))) rfl) (wc (e' := [(8, .ref 0 0 0), (9, .d (eI (1 : Int)))]) [1, 2, 3, 4] [1] (by kernel_rfl) rfl (by kernel_rfl)))))))) (lresC rfl (ld_box ts46 ta46 rfl rfl) (lresT rfl lresN)) rfl))))))
     ·obtain ⟨_, hq659, h0⟩ := ob h0; obtain ⟨r661, hq660, h0⟩ := ob h0
      refine sk (sr (s1 (bld rfl (bd46_ )) (s1 (alo (k := 2) zo46 rfl) (s0 (sto rfl rfl (sB (d' := .d (.agg [.nils, .nils, .nils])) ts46 rfl rfl rfl rfl rfl rfl rfl)) (sn (sr (s1 (far (k := 4) rfl fo26_4 ts3 rfl) (s1 (lod rfl (ld_box ts3 ta3 rfl rfl)) (sm rfl ?_)))))))))
      refine cq [2] [3] (ref19_Work_own_ok p0.Tree y604 _ hq659) wf rfl rfl rfl cb38 rfl rfl rfl rfl rfl rfl rfl rfl (sn (sq (sr (sm rfl (sm rfl (c0 (ref08_Same_ok p2 p3 _ hq660) wf rfl rfl rfl cb39 rfl (fun _ => rfl) (fun _ => rfl) (sn (cB h0 rfl (fun h0 => ?_) (fun h0 => ?_)))))))))
      ·have q := si h0; subst q
       exact sr (s1 (lod (v := .agg [.d .nils, .slc 3 5 0 ([(ApiLock.mk p0.Tree (ApiSpan.mk y604 (y604 ++ ([0] : List UInt8)) false) true)].length) none, .d .nils]) rfl (ld_box ts46 ta46 rfl rfl)) (s0 (sto rfl rfl (sB (d' := .agg [.d .nils, .slc 3 5 0 ([(ApiLock.mk p0.Tree (ApiSpan.mk y604 (y604 ++ ([0] : List UInt8)) false) true)].length) none, .d .nils]) ts46 rfl rfl rfl rfl rfl rfl rfl)) (sa rfl (sn (SC.ret (finR (Wk.trans (Wk.pushE (σ' := [.box (.d (eApiTable p0)), .box (.agg [.d .nils, .slc 3 5 0 ([(ApiLock.mk p0.Tree (ApiSpan.mk y604 (y604 ++ ([0] : List UInt8)) false) true)].length) none, .d .nils]), .box (.agg [.d .nils, .slc 3 5 0 ([(ApiLock.mk p0.Tree (ApiSpan.mk y604 (y604 ++ ([0] : List UInt8)) false) true)].length) none, .d .nils]), .row 5 (List.map eApiLock [(ApiLock.mk p0.Tree (ApiSpan.mk y604 (y604 ++ ([0] : List UInt8)) false) true)]) true, .row 9 (List.map eGranaryref14Op ([] : List Granaryref14Op)) true]) (.row 9 [] true) (fun _ hh => by cases hh) rfl) (Wk.trans (Wk.boxE (id := 1) (y := .agg [.slc 4 9 0 (([] : List Granaryref14Op).length) none, .slc 3 5 0 ([(ApiLock.mk p0.Tree (ApiSpan.mk y604 (y604 ++ ([0] : List UInt8)) false) true)].length) none, .d .nils]) (σ' := [.box (.d (eApiTable p0)), .box (.agg [.slc 4 9 0 (([] : List Granaryref14Op).length) none, .slc 3 5 0 ([(ApiLock.mk p0.Tree (ApiSpan.mk y604 (y604 ++ ([0] : List UInt8)) false) true)].length) none, .d .nils]), .box (.agg [.d .nils, .slc 3 5 0 ([(ApiLock.mk p0.Tree (ApiSpan.mk y604 (y604 ++ ([0] : List UInt8)) false) true)].length) none, .d .nils]), .row 5 (List.map eApiLock [(ApiLock.mk p0.Tree (ApiSpan.mk y604 (y604 ++ ([0] : List UInt8)) false) true)]) true, .row 9 (List.map eGranaryref14Op ([] : List Granaryref14Op)) true]) rfl (AWs.cons (AW.slcn _ _ _) (AWs.cons (AW.refl _) (AWs.cons (AW.refl _) AWs.nil))) rfl) (Wk.trans (Wk.pushE (σ' := [.box (.d (eApiTable p0)), .box (.agg [.slc 4 9 0 (([] : List Granaryref14Op).length) none, .slc 3 5 0 ([(ApiLock.mk p0.Tree (ApiSpan.mk y604 (y604 ++ ([0] : List UInt8)) false) true)].length) none, .d .nils]), .box (.agg [.d .nils, .slc 3 5 0 ([(ApiLock.mk p0.Tree (ApiSpan.mk y604 (y604 ++ ([0] : List UInt8)) false) true)].length) none, .d .nils]), .row 5 (List.map eApiLock [(ApiLock.mk p0.Tree (ApiSpan.mk y604 (y604 ++ ([0] : List UInt8)) false) true)]) true, .row 9 (List.map eGranaryref14Op ([] : List Granaryref14Op)) true, .row 4 (List.map eGranaryref19Probe ([] : List Granaryref19Probe)) true]) (.row 4 [] true) (fun _ hh => by cases hh) rfl) (Wk.trans (Wk.boxE (id := 1) (y := .agg [.slc 4 9 0 (([] : List Granaryref14Op).length) none, .slc 3 5 0 ([(ApiLock.mk p0.Tree (ApiSpan.mk y604 (y604 ++ ([0] : List UInt8)) false) true)].length) none, .slc 5 4 0 (([] : List Granaryref19Probe).length) none]) (σ' := [.box (.d (eApiTable p0)), .box (.agg [.slc 4 9 0 (([] : List Granaryref14Op).length) none, .slc 3 5 0 ([(ApiLock.mk p0.Tree (ApiSpan.mk y604 (y604 ++ ([0] : List UInt8)) false) true)].length) none, .slc 5 4 0 (([] : List Granaryref19Probe).length) none]), .box (.agg [.d .nils, .slc 3 5 0 ([(ApiLock.mk p0.Tree (ApiSpan.mk y604 (y604 ++ ([0] : List UInt8)) false) true)].length) none, .d .nils]), .row 5 (List.map eApiLock [(ApiLock.mk p0.Tree (ApiSpan.mk y604 (y604 ++ ([0] : List UInt8)) false) true)]) true, .row 9 (List.map eGranaryref14Op ([] : List Granaryref14Op)) true, .row 4 (List.map eGranaryref19Probe ([] : List Granaryref19Probe)) true]) rfl (AWs.cons (AW.refl _) (AWs.cons (AW.refl _) (AWs.cons (AW.slcn _ _ _) AWs.nil))) rfl) (wc (e' := [(8, .ref 0 0 0), (9, .d (eI (0 : Int)))]) [1, 4, 3, 5] [1] (by kernel_rfl) rfl (by kernel_rfl)))))) (lresC rfl (ld_box ts46 ta46 rfl rfl) (lresT rfl lresN)) rfl))))))
      ·refine sk (SC.seqP h0 (fun y => ⟨mk 121 [(1, .d ((eL 2 eGranaryref19Built) p1)), (2, .d ((eL 3 eApiValue) p2)), (3, .d ((eL 3 eApiValue) p3)), (4, .ref 0 0 0), (8, .ref 1 0 0), (10, .d (eS y604)), (14, .ref 2 0 0)], [.box (.d (eApiTable p0)), .box (.d (.agg [.nils, .nils, .nils])), .box (.agg [.slc 3 9 0 y.length none, .slc 4 5 0 ([(ApiLock.mk p0.Tree (ApiSpan.mk y604 (y604 ++ ([0] : List UInt8)) false) true)].length) none, .d .nils]), .row 9 (List.map eGranaryref14Op y) true, .row 5 (List.map eApiLock [(ApiLock.mk p0.Tree (ApiSpan.mk y604 (y604 ++ ([0] : List UInt8)) false) true)]) true]⟩) ?_ ?_)
       ·intro u1_667 h1
        refine sr (sm rfl (s1 (len rfl rfl rfl (len_lst un28)) (s1 (bi rfl rfl q_i64_eql) (sn (cB h1 rfl (fun h1 => ?_) (fun h1 => ?_))))))
        ·obtain ⟨_, hq668, h1⟩ := ob h1; have q := si h1; subst q
         exact SC.region (s1 (far (k := 4) rfl fo26_4 ts3 rfl) (s1 (lod rfl (ld_box ts3 ta3 rfl rfl)) (sm rfl (cq [2, 3] [4] (ref19_Work_op_ok p0.Tree (2 : Int) y604 ([] : List UInt8) [(ApiLock.mk p0.Tree (ApiSpan.mk y604 (y604 ++ ([0] : List UInt8)) false) true)] _ hq668) wf rfl rfl rfl cb40 rfl rfl rfl rfl rfl rfl rfl rfl (SO.nil ((wc [0, 1, 2, 4, 3] [0, 1, 2] (by kernel_rfl) rfl (by kernel_rfl))))))))
        ·obtain ⟨r670, hq669, h1⟩ := ob h1; obtain ⟨_, hq671, h1⟩ := ob h1; have q := si h1; subst q
         refine SC.draws (by kernel_rfl) (t1 ([], false) (far (k := 4) rfl fo26_4 ts3 rfl) rfl (t1 ([0], false) (lod rfl (ld_box ts3 ta3 rfl rfl)) rfl (t1 ([], false) (mv rfl) rfl (t1 ([], false) (mv rfl) rfl (tc0 (ref08_Bytes_ok p3 _ hq669) wf rfl rfl rfl cb18 rfl (fun _ => rfl) (fun _ => rfl) (tq [2, 3] [4] ([2, 3, 4], true) (ref19_Work_op_ok p0.Tree (1 : Int) y604 r670 [(ApiLock.mk p0.Tree (ApiSpan.mk y604 (y604 ++ ([0] : List UInt8)) false) true)] _ hq671) wf rfl rfl rfl cb40 rfl rfl rfl rfl rfl rfl rfl rfl rfl (ST.nil (And.intro (by decide +kernel) ?_))))))))
         exact (wc [0, 1, 2, 4, 3] [0, 1, 2] (by kernel_rfl) rfl (by kernel_rfl))
       ·rintro y666 h0
        refine SC.seqP h0 (fun y => ⟨mk 121 [(8, .ref 0 0 0), (14, .ref 1 0 0)], [.box (.d (.agg [.nils, .nils, .nils])), .box (.agg [.slc 2 9 0 y.1.length none, .slc 3 5 0 y.2.1.length none, .slc 4 4 0 y.2.2.length none]), .row 9 (List.map eGranaryref14Op y.1) true, .row 5 (List.map eApiLock y.2.1) true, .row 4 (List.map eGranaryref19Probe y.2.2) true]⟩) ?_ ?_
        ·intro u1_752 h1
         obtain ⟨u2_806, h2, h1⟩ := ob h1
         refine sr (sa rfl (sn (SC.blk (SC.loopB h2 (fun y => ⟨mk 121 [(1, .d ((eL 2 eGranaryref19Built) p1)), (2, .d ((eL 3 eApiValue) p2)), (3, .d ((eL 3 eApiValue) p3)), (4, .ref 0 0 0), (8, .ref 1 0 0), (10, .d (eS y604)), (14, .ref 2 0 0), (15, .d (eI y.1))], [.box (.d (eApiTable p0)), .box (.d (.agg [.nils, .nils, .nils])), .box (.agg [.slc 3 9 0 y.2.1.length none, .slc 4 5 0 y.2.2.1.length none, .slc 5 4 0 y.2.2.2.length none]), .row 9 (List.map eGranaryref14Op y.2.1) true, .row 5 (List.map eApiLock y.2.2.1) true, .row 4 (List.map eGranaryref19Probe y.2.2.2) true]⟩) (Wk.trans (Wk.pushE (σ' := [.box (.d (eApiTable p0)), .box (.d (.agg [.nils, .nils, .nils])), .box (.agg [.slc 3 9 0 y666.length none, .slc 4 5 0 ([(ApiLock.mk p0.Tree (ApiSpan.mk y604 (y604 ++ ([0] : List UInt8)) false) true)].length) none, .d .nils]), .row 9 (List.map eGranaryref14Op y666) true, .row 5 (List.map eApiLock [(ApiLock.mk p0.Tree (ApiSpan.mk y604 (y604 ++ ([0] : List UInt8)) false) true)]) true, .row 4 (List.map eGranaryref19Probe ([] : List Granaryref19Probe)) true]) (.row 4 [] true) (fun _ hh => by cases hh) rfl) (Wk.trans (Wk.boxE (id := 2) (y := .agg [.slc 3 9 0 y666.length none, .slc 4 5 0 ([(ApiLock.mk p0.Tree (ApiSpan.mk y604 (y604 ++ ([0] : List UInt8)) false) true)].length) none, .slc 5 4 0 (([] : List Granaryref19Probe).length) none]) (σ' := [.box (.d (eApiTable p0)), .box (.d (.agg [.nils, .nils, .nils])), .box (.agg [.slc 3 9 0 y666.length none, .slc 4 5 0 ([(ApiLock.mk p0.Tree (ApiSpan.mk y604 (y604 ++ ([0] : List UInt8)) false) true)].length) none, .slc 5 4 0 (([] : List Granaryref19Probe).length) none]), .row 9 (List.map eGranaryref14Op y666) true, .row 5 (List.map eApiLock [(ApiLock.mk p0.Tree (ApiSpan.mk y604 (y604 ++ ([0] : List UInt8)) false) true)]) true, .row 4 (List.map eGranaryref19Probe ([] : List Granaryref19Probe)) true]) rfl (AWs.cons (AW.refl _) (AWs.cons (AW.refl _) (AWs.cons (AW.slcn _ _ _) AWs.nil))) rfl) (wq rfl))) ?_))))
         intro n829
         rintro ⟨y775, y776, y777, y778⟩ w2_805 h3 hv3
         refine sq (sr (sm rfl (s1 (far (k := 3) rfl fo26_3 ts24 rfl) (s1 (lod rfl (ld_box ts24 ta24 rfl rfl)) (s1 (len rfl rfl rfl (len_lst un24)) (s1 (bi rfl rfl q_i64_lss) (sn (cB h3 rfl (fun h3 => ?_) (fun h3 => ?_)))))))))
         ·refine sk (SC.seqP h3 (fun y => ⟨mk 121 [(1, .d ((eL 2 eGranaryref19Built) p1)), (2, .d ((eL 3 eApiValue) p2)), (3, .d ((eL 3 eApiValue) p3)), (4, .ref 0 0 0), (8, .ref 1 0 0), (10, .d (eS y604)), (14, .ref 2 0 0), (15, .d (eI y775))], [.box (.d (eApiTable p0)), .box (.d (.agg [.nils, .nils, .nils])), .box (.agg [.slc 3 9 0 y.1.length none, .slc 4 5 0 y.2.1.length none, .slc 5 4 0 y.2.2.length none]), .row 9 (List.map eGranaryref14Op y.1) true, .row 5 (List.map eApiLock y.2.1) true, .row 4 (List.map eGranaryref19Probe y.2.2) true]⟩) ?_ ?_)
          ·intro u4_819 h4
           obtain ⟨v820, hv820, h4⟩ := ob h4; obtain ⟨v821, hv821, h4⟩ := ob h4; obtain ⟨r823, hq822, h4⟩ := ob h4
           refine SC.blk (sd (by kernel_rfl) (t1 ([], false) (far (k := 3) rfl fo26_3 ts24 rfl) rfl (t1 ([0], false) (lod rfl (ld_box ts24 ta24 rfl rfl)) rfl (t1 ([], false) (mv rfl) rfl (t1 ([], false) (ial rfl rfl un24 ts82 (getI_some hv820).1 (map_get (getI_some hv820).2) rfl) rfl (t1 ([], false) (lod (v := .d (eApiIndex v820)) rfl (ld_rop ts82 ta82 rfl)) rfl (t1 ([], false) (mv rfl) rfl (t1 ([], false) (mv rfl) rfl (t1 ([], false) (ial rfl rfl un49 ts105 (getI_some hv821).1 (map_get (getI_some hv821).2) rfl) rfl ?_)))))))))
           refine t1 ([], false) (lod (v := .d (eGranaryref19Built v821)) rfl (ld_rop ts105 ta105 rfl)) rfl (t1 ([], false) (mv rfl) rfl (tc0 (ref19_Kept_ok v820 v821 y604 _ hq822) wf rfl rfl rfl cb41 rfl (fun _ => rfl) (fun _ => rfl) (tn (by decide +kernel) (cB h4 rfl (fun h4 => ?_) (fun h4 => ?_)))))
           ·obtain ⟨v824, hv824, h4⟩ := ob h4; obtain ⟨⟨r826, r827, r828⟩, hq825, h4⟩ := ob h4; have q := si h4; subst q
            refine SC.draws (by kernel_rfl) (t1 ([0], false) (lod (v := .d (eApiTable p0)) rfl (ld_box ts26 ta26 rfl rfl)) rfl (t1 ([], false) (far (k := 3) rfl fo26_3 ts24 rfl) rfl (t1 ([0], false) (lod rfl (ld_box ts24 ta24 rfl rfl)) rfl (t1 ([], false) (mv rfl) rfl (t1 ([], false) (ial rfl rfl un24 ts82 (getI_some hv824).1 (map_get (getI_some hv824).2) rfl) rfl (t1 ([], false) (lod (v := .d (eApiIndex v824)) rfl (ld_rop ts82 ta82 rfl)) rfl (t1 ([], false) (mv rfl) rfl (t1 ([], false) (mv rfl) rfl (tq [2, 3, 4, 5] [6, 7, 8] ([2, 3, 4, 5, 6, 7, 8], true) (ref19_Work_index_1_ok p0 v824 p2 p3 y776 y777 y778 _ hq825) wf rfl rfl rfl cb42 rfl rfl rfl rfl rfl rfl rfl rfl rfl ?_)))))))))
            refine ST.nil (And.intro (by decide +kernel) ?_)
            exact (wc [0, 1, 2, 6, 7, 8] [0, 1, 2] (by kernel_rfl) rfl (by kernel_rfl))
           ·have q := si h4; subst q
            exact SC.skip ((wq rfl))
          ·rintro ⟨y816, y817, y818⟩ h3
           have q := si h3; subst q
           exact SC.region (sm rfl (s1 (bi rfl rfl q_i64_add) (sa rfl (SO.nil (lf (wq rfl))))))
         ·have q := si h3; subst q; have q : _ = _ := hv3; subst q; have q := si h1; subst q
          exact SC.exit ((wc [1, 2, 3, 4, 5] [1, 2] (by kernel_rfl) rfl (by kernel_rfl)))
        ·rintro ⟨y749, y750, y751⟩ h0
         have q := si h0; subst q
         exact sr (s1 (lod (v := .agg [.slc 2 9 0 y749.length none, .slc 3 5 0 y750.length none, .slc 4 4 0 y751.length none]) rfl (ld_box ts46 ta46 rfl rfl)) (s0 (sto rfl rfl (sB (d' := .agg [.slc 2 9 0 y749.length none, .slc 3 5 0 y750.length none, .slc 4 4 0 y751.length none]) ts46 rfl rfl rfl rfl rfl rfl rfl)) (sa rfl (sn (SC.ret (finR (wc (e' := [(8, .ref 0 0 0), (9, .d (eI (0 : Int)))]) [0, 2, 3, 4] [0] (by kernel_rfl) rfl (by kernel_rfl)) (lresC rfl (ld_box ts46 ta46 rfl rfl) (lresT rfl lresN)) rfl))))))
noncomputable def raw_Locks (p0 : List ApiLock) (p1 : List ApiLock) : Option Bool :=
 bif ((p0.length : Int) != (p1.length : Int)) then
 some false
 else
 bindE (Y := Unit) (E := Bool)
 (Option.bind (α := Unit ⊕ Bool)
 (loop (Y := Int) (W := Unit ⊕ Bool) (fun y62 =>
 bif (decide (y62 < (p0.length : Int))) then
 Option.bind (getI p0 y62) fun v68 =>
 Option.bind (getI p1 y62) fun v69 =>
 bif (!(eqApiLock v68 v69)) then
 some (Sum.inr (Sum.inr false))
 else
 some (Sum.inl (w64 (y62 + (1 : Int))))
 else
 some (Sum.inr (Sum.inl ()))) (0 : Int))
 (Sum.elim (fun e => some (Sum.inl e)) (fun e => some (Sum.inr e))))
 (fun _ =>
 some true)
 (fun e => some e)
theorem raw_Locks_ok (p0 : List ApiLock) (p1 : List ApiLock) (r : Bool) (h0 : raw_Locks p0 p1 = some r) : CallAt Tryz.prog 43 [.d ((eL 5 eApiLock) p0), .d ((eL 5 eApiLock) p1)] [] (.d (eB r)) [] := by
 unfold raw_Locks at h0
 refine fn0 [0, 1] Tryz.func43 rfl rfl rfl rfl rfl ?_
 refine sr (sa rfl (sn (sq (sr (sm rfl (s1 (len rfl rfl rfl (len_lst un37)) (sm rfl (s1 (len rfl rfl rfl (len_lst un37)) (s1 (bi rfl rfl q_i64_neq) ?_)))))))))
 refine sn (cB h0 rfl (fun h0 => ?_) (fun h0 => ?_))
 ·have q := si h0; subst q
  exact sr (sa rfl (sn (SC.ret (finR (Wk.refl _) (lresT rfl lresN) rfl))))
 ·refine sk (SC.seqB h0 (fun y => ⟨mk 26 [], []⟩) ?_ ?_)
  ·intro u1_59 h1 h0
   obtain ⟨u2_67, h2, h1⟩ := ob h1
   refine sr (sa rfl (sn (SC.blk (SC.loopB h2 (fun y => ⟨mk 26 [(0, .d ((eL 5 eApiLock) p0)), (1, .d ((eL 5 eApiLock) p1)), (5, .d (eI y))], []⟩) (wq rfl) ?_))))
   intro n70
   rintro y62 w2_66 h3 hv3
   refine sq (sr (sm rfl (sm rfl (s1 (len rfl rfl rfl (len_lst un37)) (s1 (bi rfl rfl q_i64_lss) (sn (cB h3 rfl (fun h3 => ?_) (fun h3 => ?_))))))))
   ·obtain ⟨v68, hv68, h3⟩ := ob h3; obtain ⟨v69, hv69, h3⟩ := ob h3
    refine sk (sq (SC.blk (sd (by kernel_rfl) (t1 ([], false) (mv rfl) rfl (t1 ([], false) (mv rfl) rfl (t1 ([], false) (ial rfl rfl un37 ts137 (getI_some hv68).1 (map_get (getI_some hv68).2) rfl) rfl (t1 ([], false) (lod (v := .d (eApiLock v68)) rfl (ld_rop ts137 ta137 rfl)) rfl (t1 ([], false) (mv rfl) rfl (t1 ([], false) (mv rfl) rfl ?_)))))))))
    refine t1 ([], false) (ial rfl rfl un37 ts137 (getI_some hv69).1 (map_get (getI_some hv69).2) rfl) rfl (t1 ([], false) (lod (v := .d (eApiLock v69)) rfl (ld_rop ts137 ta137 rfl)) rfl (t1 ([], false) (bi (v := .d (eB (!(eqApiLock v68 v69)))) rfl rfl (fun X Y => eqApiLock_neq_137 X Y v68 v69)) rfl (tn (by decide +kernel) (cB h3 rfl (fun h3 => ?_) (fun h3 => ?_)))))
    ·have q := si h3; subst q; have q : _ = _ := hv3; subst q; have q := si h1; subst q; have q := si h0; subst q
     exact sr (sa rfl (sn (SC.ret (finR (Wk.refl _) (lresT rfl lresN) rfl))))
    ·refine SC.skip ?_
     change SC _ _ _ _ _
     have q := si h3; subst q
     exact SC.region (sm rfl (s1 (bi rfl rfl q_i64_add) (sa rfl (SO.nil (lf (wq rfl))))))
   ·have q := si h3; subst q; have q : _ = _ := hv3; subst q; have q := si h1; subst q
    exact SC.exit (lf (wq rfl))
  ·intro _ h0
   have q := si h0; subst q
   exact sr (sa rfl (sn (SC.ret (finR (Wk.refl _) (lresT rfl lresN) rfl))))
noncomputable def law19_same (p0 : FanWork) (p1 : Granaryref19Work) : Option Bool :=
 Option.bind (α := Bool)
 (bif ((p0.Ops.length : Int) != (p1.Ops.length : Int)) then
 some true
 else
 Option.bind (raw_Locks p0.Locks p1.Locks) fun r351 =>
 bif (!r351) then
 some true
 else
 some ((p0.Probes.length : Int) != (p1.Probes.length : Int)))
 fun y348 =>
 bif y348 then
 some false
 else
 bindE (Y := Unit) (E := Bool)
 (Option.bind (α := Unit ⊕ Bool)
 (loop (Y := Int) (W := Unit ⊕ Bool) (fun y414 =>
 bif (decide (y414 < (p0.Ops.length : Int))) then
 Option.bind (α := Bool)
 (Option.bind (getI p0.Ops y414) fun v440 =>
 Option.bind (getI p1.Ops y414) fun v441 =>
 bif (v440.Kind != v441.Kind) then
 some true
 else
 Option.bind (getI p0.Ops y414) fun v442 =>
 Option.bind (getI p1.Ops y414) fun v443 =>
 bif (v442.Tree != v443.Tree) then
 some true
 else
 Option.bind (getI p0.Ops y414) fun v444 =>
 Option.bind (getI p1.Ops y414) fun v445 =>
 some (!(eqApiMsg v444.Msg v445.Msg)))
 fun y438 =>
 bif y438 then
 some (Sum.inr (Sum.inr false))
 else
 some (Sum.inl (w64 (y414 + (1 : Int))))
 else
 some (Sum.inr (Sum.inl ()))) (0 : Int))
 (Sum.elim (fun e => some (Sum.inl e)) (fun e => some (Sum.inr e))))
 (fun _ =>
 bindE (Y := Unit) (E := Bool)
 (Option.bind (α := Unit ⊕ Bool)
 (loop (Y := Int) (W := Unit ⊕ Bool) (fun y493 =>
 bif (decide (y493 < (p0.Probes.length : Int))) then
 Option.bind (α := Bool)
 (Option.bind (getI p0.Probes y493) fun v513 =>
 Option.bind (getI p1.Probes y493) fun v514 =>
 bif (v513.Tree != v514.Tree) then
 some true
 else
 Option.bind (getI p0.Probes y493) fun v515 =>
 Option.bind (getI p1.Probes y493) fun v516 =>
 some (!(eqApiSpan v515.Span v516.Span)))
 fun y511 =>
 bif y511 then
 some (Sum.inr (Sum.inr false))
 else
 some (Sum.inl (w64 (y493 + (1 : Int))))
 else
 some (Sum.inr (Sum.inl ()))) (0 : Int))
 (Sum.elim (fun e => some (Sum.inl e)) (fun e => some (Sum.inr e))))
 (fun _ =>
 some true)
 (fun e => some e))
 (fun e => some e)
theorem law19_same_ok (p0 : FanWork) (p1 : Granaryref19Work) (r : Bool) (h0 : law19_same p0 p1 = some r) : CallAt Tryz.prog 13 [.d (eFanWork p0), .d (eGranaryref19Work p1)] [] (.d (eB r)) [] := by
 unfold law19_same at h0
 refine fn0 [0, 1] Tryz.func13 rfl rfl rfl rfl rfl ?_
 refine sr (s1 (bxo (k := 0) rfl rfl rfl) (s1 (bxo (k := 1) rfl rfl rfl) (sa rfl (sn (sq (SC.seqP h0 (fun y => ⟨mk 116 [(2, .ref 0 0 0), (3, .ref 1 0 0), (30, .d (eB y))], [.box (.d (eFanWork p0)), .box (.d (eGranaryref19Work p1))]⟩) ?_ ?_))))))
 ·intro u1_349 h1
  refine SC.region (s1 (far (k := 0) rfl fo40_0 ts36 rfl) (s1 (lod rfl (ld_box ts36 ta36 rfl rfl)) (s1 (len rfl rfl rfl (len_lst un36)) (s1 (far (k := 0) rfl fo46_0 ts43 rfl) (s1 (lod rfl (ld_box ts43 ta43 rfl rfl)) (s1 (len rfl rfl rfl (len_lst un43)) (s1 (bi rfl rfl q_i64_neq) (sm rfl (sp h1 (fun h1 => ?_) (fun h1 => ?_))))))))))
  ·have q := si h1; subst q
   refine kw rfl (kw rfl (kw rfl (kw rfl (kw rfl (kw rfl (s1 (pkt rfl rfl) (sm rfl (kw rfl (kw rfl ?_)))))))))
   exact kw rfl (kw rfl (kw rfl (kw rfl (kw rfl (s1 (pkt rfl rfl) (SO.nil ((wq rfl))))))))
  ·obtain ⟨r351, hq350, h1⟩ := ob h1
   refine gw rfl (far (k := 1) rfl fo40_1 ts37 rfl) (gw rfl (lod rfl (ld_box ts37 ta37 rfl rfl)) (gw rfl (far (k := 1) rfl fo46_1 ts37 rfl) (gw rfl (lod rfl (ld_box ts37 ta37 rfl rfl)) (c0 (raw_Locks_ok p0.Locks p1.Locks _ hq350) (ww rfl) rfl rfl rfl cb43 rfl (fun _ => rfl) (fun _ => rfl) (gw rfl (nt rfl) (s1 (pkf rfl rfl) (sm rfl (sp h1 (fun h1 => ?_) (fun h1 => ?_)))))))))
   ·have q := si h1; subst q
    exact kw rfl (kw rfl (kw rfl (kw rfl (kw rfl (kw rfl (kw rfl (s1 (pkt rfl rfl) (SO.nil ((wq rfl))))))))))
   ·have q := si h1; subst q
    exact gw rfl (far (k := 2) rfl fo40_2 ts38 rfl) (gw rfl (lod rfl (ld_box ts38 ta38 rfl rfl)) (gw rfl (len rfl rfl rfl (len_lst un38)) (gw rfl (far (k := 2) rfl fo46_2 ts44 rfl) (gw rfl (lod rfl (ld_box ts44 ta44 rfl rfl)) (gw rfl (len rfl rfl rfl (len_lst un44)) (gw rfl (bi rfl rfl q_i64_neq) (s1 (pkf rfl rfl) (SO.nil ((wq rfl))))))))))
 ·rintro y348 h0
  refine cB h0 rfl (fun h0 => ?_) (fun h0 => ?_)
  ·have q := si h0; subst q
   exact sr (sa rfl (sn (SC.ret (finR (wc (e' := [(4, .d (eB false))]) [] [] (by kernel_rfl) rfl (by kernel_rfl)) (lresT rfl lresN) rfl))))
  ·refine sk (SC.seqB h0 (fun y => ⟨mk 116 [(2, .ref 0 0 0), (3, .ref 1 0 0)], [.box (.d (eFanWork p0)), .box (.d (eGranaryref19Work p1))]⟩) ?_ ?_)
   ·intro u1_399 h1 h0
    obtain ⟨u2_431, h2, h1⟩ := ob h1
    refine sr (sa rfl (sn (SC.blk (SC.loopB h2 (fun y => ⟨mk 116 [(2, .ref 0 0 0), (3, .ref 1 0 0), (5, .d (eI y))], [.box (.d (eFanWork p0)), .box (.d (eGranaryref19Work p1))]⟩) (wq rfl) ?_))))
    intro n446
    rintro y414 w2_430 h3 hv3
    refine sq (sr (sm rfl (s1 (far (k := 0) rfl fo40_0 ts36 rfl) (s1 (lod rfl (ld_box ts36 ta36 rfl rfl)) (s1 (len rfl rfl rfl (len_lst un36)) (s1 (bi rfl rfl q_i64_lss) (sn (cB h3 rfl (fun h3 => ?_) (fun h3 => ?_)))))))))
    ·refine sk (sq (SC.blk (SC.seqP h3 (fun y => ⟨mk 116 [(2, .ref 0 0 0), (3, .ref 1 0 0), (5, .d (eI y414)), (80, .d (eB y))], [.box (.d (eFanWork p0)), .box (.d (eGranaryref19Work p1))]⟩) ?_ ?_)))
     ·intro u4_439 h4
      obtain ⟨v440, hv440, h4⟩ := ob h4; obtain ⟨v441, hv441, h4⟩ := ob h4
      refine SC.draws (by kernel_rfl) (t1 ([], false) (far (k := 0) rfl fo40_0 ts36 rfl) rfl (t1 ([0], false) (lod rfl (ld_box ts36 ta36 rfl rfl)) rfl (t1 ([], false) (mv rfl) rfl (t1 ([], false) (ial rfl rfl un36 ts65 (getI_some hv440).1 (map_get (getI_some hv440).2) rfl) rfl (t1 ([], false) (fap rfl fo65_0 ts3 rfl) rfl (t1 ([], false) (lod rfl (ld_rop ts3 ta3 rfl)) rfl (t1 ([], false) (far (k := 0) rfl fo46_0 ts43 rfl) rfl (t1 ([1], false) (lod rfl (ld_box ts43 ta43 rfl rfl)) rfl (t1 ([], false) (mv rfl) rfl ?_)))))))))
      refine t1 ([], false) (ial rfl rfl un43 ts108 (getI_some hv441).1 (map_get (getI_some hv441).2) rfl) rfl (t1 ([], false) (fap rfl fo108_0 ts3 rfl) rfl (t1 ([], false) (lod rfl (ld_rop ts3 ta3 rfl)) rfl (t1 ([], false) (bi rfl rfl q_i64_neq) rfl (t1 ([], false) (mv rfl) rfl (tp h4 (fun h4 => ?_) (fun h4 => ?_))))))
      ·have q := si h4; subst q
       refine jw rfl (jw rfl (jw rfl (jw rfl (jw rfl (jw rfl (jw rfl (jw rfl (jw rfl (jw rfl ?_)))))))))
       refine jw rfl (jw rfl (jw rfl (t1 ([], false) (pkt rfl rfl) rfl (t1 ([], false) (mv rfl) rfl (jw rfl (jw rfl (jw rfl (jw rfl (jw rfl ?_)))))))))
       refine jw rfl (jw rfl (jw rfl (jw rfl (jw rfl (jw rfl (jw rfl (jw rfl (t1 ([], false) (pkt rfl rfl) rfl (ST.nil (And.intro (by decide +kernel) ?_))))))))))
       exact (wq rfl)
      ·obtain ⟨v442, hv442, h4⟩ := ob h4; obtain ⟨v443, hv443, h4⟩ := ob h4
       refine u1 ([], false) (ww rfl) (far (k := 0) rfl fo40_0 ts36 rfl) rfl (u1 ([0], false) (ww rfl) (lod rfl (ld_box ts36 ta36 rfl rfl)) rfl (u1 ([], false) (ww rfl) (mv rfl) rfl (u1 ([], false) (ww rfl) (ial rfl rfl un36 ts65 (getI_some hv442).1 (map_get (getI_some hv442).2) rfl) rfl (u1 ([], false) (ww rfl) (fap rfl fo65_1 ts3 rfl) rfl (u1 ([], false) (ww rfl) (lod rfl (ld_rop ts3 ta3 rfl)) rfl (u1 ([], false) (ww rfl) (far (k := 0) rfl fo46_0 ts43 rfl) rfl (u1 ([1], false) (ww rfl) (lod rfl (ld_box ts43 ta43 rfl rfl)) rfl (u1 ([], false) (ww rfl) (mv rfl) rfl (u1 ([], false) (ww rfl) (ial rfl rfl un43 ts108 (getI_some hv443).1 (map_get (getI_some hv443).2) rfl) rfl ?_)))))))))
       refine u1 ([], false) (ww rfl) (fap rfl fo108_1 ts3 rfl) rfl (u1 ([], false) (ww rfl) (lod rfl (ld_rop ts3 ta3 rfl)) rfl (u1 ([], false) (ww rfl) (bi rfl rfl q_i64_neq) rfl (t1 ([], false) (pkf rfl rfl) rfl (t1 ([], false) (mv rfl) rfl (tp h4 (fun h4 => ?_) (fun h4 => ?_))))))
       ·have q := si h4; subst q
        refine jw rfl (jw rfl (jw rfl (jw rfl (jw rfl (jw rfl (jw rfl (jw rfl (jw rfl (jw rfl ?_)))))))))
        refine jw rfl (jw rfl (jw rfl (t1 ([], false) (pkt rfl rfl) rfl (ST.nil (And.intro (by decide +kernel) ?_)))))
        exact (wq rfl)
       ·obtain ⟨v444, hv444, h4⟩ := ob h4; obtain ⟨v445, hv445, h4⟩ := ob h4; have q := si h4; subst q
        refine u1 ([], false) (ww rfl) (far (k := 0) rfl fo40_0 ts36 rfl) rfl (u1 ([0], false) (ww rfl) (lod rfl (ld_box ts36 ta36 rfl rfl)) rfl (u1 ([], false) (ww rfl) (mv rfl) rfl (u1 ([], false) (ww rfl) (ial rfl rfl un36 ts65 (getI_some hv444).1 (map_get (getI_some hv444).2) rfl) rfl (u1 ([], false) (ww rfl) (fap rfl fo65_2 ts63 rfl) rfl (u1 ([], false) (ww rfl) (lod (v := .d (eApiMsg v444.Msg)) rfl (ld_rop ts63 ta63 rfl)) rfl (u1 ([], false) (ww rfl) (far (k := 0) rfl fo46_0 ts43 rfl) rfl (u1 ([1], false) (ww rfl) (lod rfl (ld_box ts43 ta43 rfl rfl)) rfl (u1 ([], false) (ww rfl) (mv rfl) rfl (u1 ([], false) (ww rfl) (ial rfl rfl un43 ts108 (getI_some hv445).1 (map_get (getI_some hv445).2) rfl) rfl ?_)))))))))
        refine u1 ([], false) (ww rfl) (fap rfl fo108_2 ts63 rfl) rfl (u1 ([], false) (ww rfl) (lod (v := .d (eApiMsg v445.Msg)) rfl (ld_rop ts63 ta63 rfl)) rfl (u1 ([], false) (ww rfl) (bi (v := .d (eB (!(eqApiMsg v444.Msg v445.Msg)))) rfl rfl (fun X Y => eqApiMsg_neq_63 X Y v444.Msg v445.Msg)) rfl (t1 ([], false) (pkf rfl rfl) rfl (ST.nil (And.intro (by decide +kernel) ?_)))))
        exact (wq rfl)
     ·rintro y438 h3
      refine cB h3 rfl (fun h3 => ?_) (fun h3 => ?_)
      ·have q := si h3; subst q; have q : _ = _ := hv3; subst q; have q := si h1; subst q; have q := si h0; subst q
       exact sr (sa rfl (sn (SC.ret (finR (wc (e' := [(4, .d (eB false))]) [] [] (by kernel_rfl) rfl (by kernel_rfl)) (lresT rfl lresN) rfl))))
      ·refine SC.skip ?_
       change SC _ _ _ _ _
       have q := si h3; subst q
       exact SC.region (sm rfl (s1 (bi rfl rfl q_i64_add) (sa rfl (SO.nil (lf (wq rfl))))))
    ·have q := si h3; subst q; have q : _ = _ := hv3; subst q; have q := si h1; subst q
     exact SC.exit (lf (wq rfl))
   ·intro _ h0
    refine SC.seqB h0 (fun y => ⟨mk 116 [], []⟩) ?_ ?_
    ·intro u1_482 h1 h0
     obtain ⟨u2_506, h2, h1⟩ := ob h1
     refine sr (sa rfl (sn (SC.blk (SC.loopB h2 (fun y => ⟨mk 116 [(2, .ref 0 0 0), (3, .ref 1 0 0), (6, .d (eI y))], [.box (.d (eFanWork p0)), .box (.d (eGranaryref19Work p1))]⟩) (wq rfl) ?_))))
     intro n517
     rintro y493 w2_505 h3 hv3
     refine sq (sr (sm rfl (s1 (far (k := 2) rfl fo40_2 ts38 rfl) (s1 (lod rfl (ld_box ts38 ta38 rfl rfl)) (s1 (len rfl rfl rfl (len_lst un38)) (s1 (bi rfl rfl q_i64_lss) (sn (cB h3 rfl (fun h3 => ?_) (fun h3 => ?_)))))))))
     ·refine sk (sq (SC.blk (SC.seqP h3 (fun y => ⟨mk 116 [(2, .ref 0 0 0), (3, .ref 1 0 0), (6, .d (eI y493)), (115, .d (eB y))], [.box (.d (eFanWork p0)), .box (.d (eGranaryref19Work p1))]⟩) ?_ ?_)))
      ·intro u4_512 h4
       obtain ⟨v513, hv513, h4⟩ := ob h4; obtain ⟨v514, hv514, h4⟩ := ob h4
       refine SC.draws (by kernel_rfl) (t1 ([], false) (far (k := 2) rfl fo40_2 ts38 rfl) rfl (t1 ([0], false) (lod rfl (ld_box ts38 ta38 rfl rfl)) rfl (t1 ([], false) (mv rfl) rfl (t1 ([], false) (ial rfl rfl un38 ts110 (getI_some hv513).1 (map_get (getI_some hv513).2) rfl) rfl (t1 ([], false) (fap rfl fo110_0 ts3 rfl) rfl (t1 ([], false) (lod rfl (ld_rop ts3 ta3 rfl)) rfl (t1 ([], false) (far (k := 2) rfl fo46_2 ts44 rfl) rfl (t1 ([1], false) (lod rfl (ld_box ts44 ta44 rfl rfl)) rfl (t1 ([], false) (mv rfl) rfl ?_)))))))))
       refine t1 ([], false) (ial rfl rfl un44 ts111 (getI_some hv514).1 (map_get (getI_some hv514).2) rfl) rfl (t1 ([], false) (fap rfl fo111_0 ts3 rfl) rfl (t1 ([], false) (lod rfl (ld_rop ts3 ta3 rfl)) rfl (t1 ([], false) (bi rfl rfl q_i64_neq) rfl (t1 ([], false) (mv rfl) rfl (tp h4 (fun h4 => ?_) (fun h4 => ?_))))))
       ·have q := si h4; subst q
        refine jw rfl (jw rfl (jw rfl (jw rfl (jw rfl (jw rfl (jw rfl (jw rfl (jw rfl (jw rfl ?_)))))))))
        refine jw rfl (jw rfl (jw rfl (t1 ([], false) (pkt rfl rfl) rfl (ST.nil (And.intro (by decide +kernel) ?_)))))
        exact (wq rfl)
       ·obtain ⟨v515, hv515, h4⟩ := ob h4; obtain ⟨v516, hv516, h4⟩ := ob h4; have q := si h4; subst q
        refine u1 ([], false) (ww rfl) (far (k := 2) rfl fo40_2 ts38 rfl) rfl (u1 ([0], false) (ww rfl) (lod rfl (ld_box ts38 ta38 rfl rfl)) rfl (u1 ([], false) (ww rfl) (mv rfl) rfl (u1 ([], false) (ww rfl) (ial rfl rfl un38 ts110 (getI_some hv515).1 (map_get (getI_some hv515).2) rfl) rfl (u1 ([], false) (ww rfl) (fap rfl fo110_1 ts31 rfl) rfl (u1 ([], false) (ww rfl) (lod (v := .d (eApiSpan v515.Span)) rfl (ld_rop ts31 ta31 rfl)) rfl (u1 ([], false) (ww rfl) (far (k := 2) rfl fo46_2 ts44 rfl) rfl (u1 ([1], false) (ww rfl) (lod rfl (ld_box ts44 ta44 rfl rfl)) rfl (u1 ([], false) (ww rfl) (mv rfl) rfl (u1 ([], false) (ww rfl) (ial rfl rfl un44 ts111 (getI_some hv516).1 (map_get (getI_some hv516).2) rfl) rfl ?_)))))))))
        refine u1 ([], false) (ww rfl) (fap rfl fo111_1 ts31 rfl) rfl (u1 ([], false) (ww rfl) (lod (v := .d (eApiSpan v516.Span)) rfl (ld_rop ts31 ta31 rfl)) rfl (u1 ([], false) (ww rfl) (bi (v := .d (eB (!(eqApiSpan v515.Span v516.Span)))) rfl rfl (fun X Y => eqApiSpan_neq_31 X Y v515.Span v516.Span)) rfl (t1 ([], false) (pkf rfl rfl) rfl (ST.nil (And.intro (by decide +kernel) ?_)))))
        exact (wq rfl)
      ·rintro y511 h3
       refine cB h3 rfl (fun h3 => ?_) (fun h3 => ?_)
       ·have q := si h3; subst q; have q : _ = _ := hv3; subst q; have q := si h1; subst q; have q := si h0; subst q
        exact sr (sa rfl (sn (SC.ret (finR (wc (e' := [(4, .d (eB false))]) [] [] (by kernel_rfl) rfl (by kernel_rfl)) (lresT rfl lresN) rfl))))
       ·refine SC.skip ?_
        change SC _ _ _ _ _
        have q := si h3; subst q
        exact SC.region (sm rfl (s1 (bi rfl rfl q_i64_add) (sa rfl (SO.nil (lf (wq rfl))))))
     ·have q := si h3; subst q; have q : _ = _ := hv3; subst q; have q := si h1; subst q
      exact SC.exit (lf (wc [] [] (by kernel_rfl) rfl (by kernel_rfl)))
    ·intro _ h0
     have q := si h0; subst q
     exact sr (sa rfl (sn (SC.ret (finR (Wk.refl _) (lresT rfl lresN) rfl))))
noncomputable def raw_Ints (p0 : List Int) (p1 : List Int) : Option Bool :=
 bif ((p0.length : Int) != (p1.length : Int)) then
 some false
 else
 bindE (Y := Unit) (E := Bool)
 (Option.bind (α := Unit ⊕ Bool)
 (loop (Y := Int) (W := Unit ⊕ Bool) (fun y62 =>
 bif (decide (y62 < (p0.length : Int))) then
 Option.bind (getI p0 y62) fun v68 =>
 Option.bind (getI p1 y62) fun v69 =>
 bif (v68 != v69) then
 some (Sum.inr (Sum.inr false))
 else
 some (Sum.inl (w64 (y62 + (1 : Int))))
 else
 some (Sum.inr (Sum.inl ()))) (0 : Int))
 (Sum.elim (fun e => some (Sum.inl e)) (fun e => some (Sum.inr e))))
 (fun _ =>
 some true)
 (fun e => some e)
theorem raw_Ints_ok (p0 : List Int) (p1 : List Int) (r : Bool) (h0 : raw_Ints p0 p1 = some r) : CallAt Tryz.prog 44 [.d ((eL 1 eI) p0), .d ((eL 1 eI) p1)] [] (.d (eB r)) [] := by
 unfold raw_Ints at h0
 refine fn0 [0, 1] Tryz.func44 rfl rfl rfl rfl rfl ?_
 refine sr (sa rfl (sn (sq (sr (sm rfl (s1 (len rfl rfl rfl (len_lst un23)) (sm rfl (s1 (len rfl rfl rfl (len_lst un23)) (s1 (bi rfl rfl q_i64_neq) ?_)))))))))
 refine sn (cB h0 rfl (fun h0 => ?_) (fun h0 => ?_))
 ·have q := si h0; subst q
  exact sr (sa rfl (sn (SC.ret (finR (Wk.refl _) (lresT rfl lresN) rfl))))
 ·refine sk (SC.seqB h0 (fun y => ⟨mk 26 [], []⟩) ?_ ?_)
  ·intro u1_59 h1 h0
   obtain ⟨u2_67, h2, h1⟩ := ob h1
   refine sr (sa rfl (sn (SC.blk (SC.loopB h2 (fun y => ⟨mk 26 [(0, .d ((eL 1 eI) p0)), (1, .d ((eL 1 eI) p1)), (5, .d (eI y))], []⟩) (wq rfl) ?_))))
   intro n70
   rintro y62 w2_66 h3 hv3
   refine sq (sr (sm rfl (sm rfl (s1 (len rfl rfl rfl (len_lst un23)) (s1 (bi rfl rfl q_i64_lss) (sn (cB h3 rfl (fun h3 => ?_) (fun h3 => ?_))))))))
   ·obtain ⟨v68, hv68, h3⟩ := ob h3; obtain ⟨v69, hv69, h3⟩ := ob h3
    refine sk (sq (SC.blk (sd (by kernel_rfl) (t1 ([], false) (mv rfl) rfl (t1 ([], false) (mv rfl) rfl (t1 ([], false) (ial rfl rfl un23 ts3 (getI_some hv68).1 (map_get (getI_some hv68).2) rfl) rfl (t1 ([], false) (lod rfl (ld_rop ts3 ta3 rfl)) rfl (t1 ([], false) (mv rfl) rfl (t1 ([], false) (mv rfl) rfl ?_)))))))))
    refine t1 ([], false) (ial rfl rfl un23 ts3 (getI_some hv69).1 (map_get (getI_some hv69).2) rfl) rfl (t1 ([], false) (lod rfl (ld_rop ts3 ta3 rfl)) rfl (t1 ([], false) (bi rfl rfl q_i64_neq) rfl (tn (by decide +kernel) (cB h3 rfl (fun h3 => ?_) (fun h3 => ?_)))))
    ·have q := si h3; subst q; have q : _ = _ := hv3; subst q; have q := si h1; subst q; have q := si h0; subst q
     exact sr (sa rfl (sn (SC.ret (finR (Wk.refl _) (lresT rfl lresN) rfl))))
    ·refine SC.skip ?_
     change SC _ _ _ _ _
     have q := si h3; subst q
     exact SC.region (sm rfl (s1 (bi rfl rfl q_i64_add) (sa rfl (SO.nil (lf (wq rfl))))))
   ·have q := si h3; subst q; have q : _ = _ := hv3; subst q; have q := si h1; subst q
    exact SC.exit (lf (wq rfl))
  ·intro _ h0
   have q := si h0; subst q
   exact sr (sa rfl (sn (SC.ret (finR (Wk.refl _) (lresT rfl lresN) rfl))))
noncomputable def ref17_Same (p0 : ApiTable) (p1 : ApiTable) : Option Bool :=
 Option.bind (α := Bool)
 (bif (p0.Name != p1.Name) then
 some true
 else
 bif (p0.Tree != p1.Tree) then
 some true
 else
 bif ((p0.Cols.length : Int) != (p1.Cols.length : Int)) then
 some true
 else
 Option.bind (raw_Ints p0.Primary p1.Primary) fun r555 =>
 bif (!r555) then
 some true
 else
 some ((p0.Indexes.length : Int) != (p1.Indexes.length : Int)))
 fun y552 =>
 bif y552 then
 some false
 else
 bindE (Y := Unit) (E := Bool)
 (Option.bind (α := Unit ⊕ Bool)
 (loop (Y := Int) (W := Unit ⊕ Bool) (fun y570 =>
 bif (decide (y570 < (p0.Cols.length : Int))) then
 Option.bind (getI p0.Cols y570) fun v576 =>
 Option.bind (getI p1.Cols y570) fun v577 =>
 bif (!(eqApiColumn v576 v577)) then
 some (Sum.inr (Sum.inr false))
 else
 some (Sum.inl (w64 (y570 + (1 : Int))))
 else
 some (Sum.inr (Sum.inl ()))) (0 : Int))
 (Sum.elim (fun e => some (Sum.inl e)) (fun e => some (Sum.inr e))))
 (fun _ =>
 bindE (Y := Unit) (E := Bool)
 (Option.bind (α := Unit ⊕ Bool)
 (loop (Y := Int) (W := Unit ⊕ Bool) (fun y741 =>
 bif (decide (y741 < (p0.Indexes.length : Int))) then
 bindE (Y := Unit) (E := Bool)
 (Option.bind (getI p0.Indexes y741) fun v804 =>
 Option.bind (getI p1.Indexes y741) fun v805 =>
 Option.bind (α := Bool)
 (bif (v804.Name != v805.Name) then
 some true
 else
 bif (v804.Unique != v805.Unique) then
 some true
 else
 bif (v804.Ready != v805.Ready) then
 some true
 else
 bif (v804.Tree != v805.Tree) then
 some true
 else
 Option.bind (raw_Ints v804.Extra v805.Extra) fun r811 =>
 bif (!r811) then
 some true
 else
 some ((v804.Parts.length : Int) != (v805.Parts.length : Int)))
 fun y808 =>
 bif y808 then
 some (Sum.inr false)
 else
 Option.bind (α := Unit ⊕ Bool)
 (loop (Y := Int) (W := Unit ⊕ Bool) (fun y814 =>
 bif (decide (y814 < (v804.Parts.length : Int))) then
 Option.bind (getI v804.Parts y814) fun v820 =>
 Option.bind (getI v805.Parts y814) fun v821 =>
 bif (!(eqApiPart v820 v821)) then
 some (Sum.inr (Sum.inr false))
 else
 some (Sum.inl (w64 (y814 + (1 : Int))))
 else
 some (Sum.inr (Sum.inl ()))) (0 : Int))
 (Sum.elim (fun e => some (Sum.inl e)) (fun e => some (Sum.inr e))))
 (fun _ =>
 some (Sum.inl (w64 (y741 + (1 : Int)))))
 (fun e => some (Sum.inr (Sum.inr e)))
 else
 some (Sum.inr (Sum.inl ()))) (0 : Int))
 (Sum.elim (fun e => some (Sum.inl e)) (fun e => some (Sum.inr e))))
 (fun _ =>
 some true)
 (fun e => some e))
 (fun e => some e)
theorem ref17_Same_ok (p0 : ApiTable) (p1 : ApiTable) (r : Bool) (h0 : ref17_Same p0 p1 = some r) : CallAt Tryz.prog 14 [.d (eApiTable p0), .d (eApiTable p1)] [] (.d (eB r)) [] := by
 unfold ref17_Same at h0
 refine fn0 [0, 1] Tryz.func14 rfl rfl rfl rfl rfl ?_
 refine sr (s1 (bxo (k := 0) rfl rfl rfl) (s1 (bxo (k := 1) rfl rfl rfl) (sa rfl (sn (sq (SC.seqP h0 (fun y => ⟨mk 144 [(2, .ref 0 0 0), (3, .ref 1 0 0), (47, .d (eB y))], [.box (.d (eApiTable p0)), .box (.d (eApiTable p1))]⟩) ?_ ?_))))))
 ·intro u1_553 h1
  refine SC.region (s1 (far (k := 0) rfl fo26_0 ts9 rfl) (s1 (lod rfl (ld_box ts9 ta9 rfl rfl)) (s1 (far (k := 0) rfl fo26_0 ts9 rfl) (s1 (lod rfl (ld_box ts9 ta9 rfl rfl)) (s1 (bi rfl rfl q_str_neq) (sm rfl (sp h1 (fun h1 => ?_) (fun h1 => ?_))))))))
  ·have q := si h1; subst q
   refine kw rfl (kw rfl (kw rfl (kw rfl (kw rfl (s1 (pkt rfl rfl) (sm rfl (kw rfl (kw rfl (kw rfl ?_)))))))))
   refine kw rfl (kw rfl (kw rfl (kw rfl (s1 (pkt rfl rfl) (sm rfl (kw rfl (kw rfl (kw rfl (kw rfl ?_)))))))))
   refine kw rfl (kw rfl (s1 (pkt rfl rfl) (sm rfl (kw rfl (kw rfl (kw rfl (kw rfl (kw rfl (kw rfl ?_)))))))))
   exact kw rfl (s1 (pkt rfl rfl) (SO.nil ((wq rfl))))
  ·refine gw rfl (far (k := 4) rfl fo26_4 ts3 rfl) (gw rfl (lod rfl (ld_box ts3 ta3 rfl rfl)) (gw rfl (far (k := 4) rfl fo26_4 ts3 rfl) (gw rfl (lod rfl (ld_box ts3 ta3 rfl rfl)) (gw rfl (bi rfl rfl q_i64_neq) (s1 (pkf rfl rfl) (sm rfl (sp h1 (fun h1 => ?_) (fun h1 => ?_))))))))
   ·have q := si h1; subst q
    refine kw rfl (kw rfl (kw rfl (kw rfl (kw rfl (kw rfl (kw rfl (s1 (pkt rfl rfl) (sm rfl (kw rfl ?_)))))))))
    refine kw rfl (kw rfl (kw rfl (kw rfl (kw rfl (s1 (pkt rfl rfl) (sm rfl (kw rfl (kw rfl (kw rfl ?_)))))))))
    exact kw rfl (kw rfl (kw rfl (kw rfl (s1 (pkt rfl rfl) (SO.nil ((wq rfl)))))))
   ·refine gw rfl (far (k := 1) rfl fo26_1 ts22 rfl) (gw rfl (lod rfl (ld_box ts22 ta22 rfl rfl)) (gw rfl (len rfl rfl rfl (len_lst un22)) (gw rfl (far (k := 1) rfl fo26_1 ts22 rfl) (gw rfl (lod rfl (ld_box ts22 ta22 rfl rfl)) (gw rfl (len rfl rfl rfl (len_lst un22)) (gw rfl (bi rfl rfl q_i64_neq) (s1 (pkf rfl rfl) (sm rfl (sp h1 (fun h1 => ?_) (fun h1 => ?_))))))))))
    ·have q := si h1; subst q
     refine kw rfl (kw rfl (kw rfl (kw rfl (kw rfl (kw rfl (s1 (pkt rfl rfl) (sm rfl (kw rfl (kw rfl ?_)))))))))
     exact kw rfl (kw rfl (kw rfl (kw rfl (kw rfl (s1 (pkt rfl rfl) (SO.nil ((wq rfl))))))))
    ·obtain ⟨r555, hq554, h1⟩ := ob h1
     refine gw rfl (far (k := 2) rfl fo26_2 ts23 rfl) (gw rfl (lod rfl (ld_box ts23 ta23 rfl rfl)) (gw rfl (far (k := 2) rfl fo26_2 ts23 rfl) (gw rfl (lod rfl (ld_box ts23 ta23 rfl rfl)) (c0 (raw_Ints_ok p0.Primary p1.Primary _ hq554) (ww rfl) rfl rfl rfl cb44 rfl (fun _ => rfl) (fun _ => rfl) (gw rfl (nt rfl) (s1 (pkf rfl rfl) (sm rfl (sp h1 (fun h1 => ?_) (fun h1 => ?_)))))))))
     ·have q := si h1; subst q
      exact kw rfl (kw rfl (kw rfl (kw rfl (kw rfl (kw rfl (kw rfl (s1 (pkt rfl rfl) (SO.nil ((wq rfl))))))))))
     ·have q := si h1; subst q
      exact gw rfl (far (k := 3) rfl fo26_3 ts24 rfl) (gw rfl (lod rfl (ld_box ts24 ta24 rfl rfl)) (gw rfl (len rfl rfl rfl (len_lst un24)) (gw rfl (far (k := 3) rfl fo26_3 ts24 rfl) (gw rfl (lod rfl (ld_box ts24 ta24 rfl rfl)) (gw rfl (len rfl rfl rfl (len_lst un24)) (gw rfl (bi rfl rfl q_i64_neq) (s1 (pkf rfl rfl) (SO.nil ((wq rfl))))))))))
 ·rintro y552 h0
  refine cB h0 rfl (fun h0 => ?_) (fun h0 => ?_)
  ·have q := si h0; subst q
   exact sr (sa rfl (sn (SC.ret (finR (wc (e' := [(4, .d (eB false))]) [] [] (by kernel_rfl) rfl (by kernel_rfl)) (lresT rfl lresN) rfl))))
  ·refine sk (SC.seqB h0 (fun y => ⟨mk 144 [(2, .ref 0 0 0), (3, .ref 1 0 0)], [.box (.d (eApiTable p0)), .box (.d (eApiTable p1))]⟩) ?_ ?_)
   ·intro u1_567 h1 h0
    obtain ⟨u2_575, h2, h1⟩ := ob h1
    refine sr (sa rfl (sn (SC.blk (SC.loopB h2 (fun y => ⟨mk 144 [(2, .ref 0 0 0), (3, .ref 1 0 0), (5, .d (eI y))], [.box (.d (eApiTable p0)), .box (.d (eApiTable p1))]⟩) (wq rfl) ?_))))
    intro n578
    rintro y570 w2_574 h3 hv3
    refine sq (sr (sm rfl (s1 (far (k := 1) rfl fo26_1 ts22 rfl) (s1 (lod rfl (ld_box ts22 ta22 rfl rfl)) (s1 (len rfl rfl rfl (len_lst un22)) (s1 (bi rfl rfl q_i64_lss) (sn (cB h3 rfl (fun h3 => ?_) (fun h3 => ?_)))))))))
    ·obtain ⟨v576, hv576, h3⟩ := ob h3; obtain ⟨v577, hv577, h3⟩ := ob h3
     refine sk (sq (SC.blk (sd (by kernel_rfl) (t1 ([], false) (far (k := 1) rfl fo26_1 ts22 rfl) rfl (t1 ([0], false) (lod rfl (ld_box ts22 ta22 rfl rfl)) rfl (t1 ([], false) (mv rfl) rfl (t1 ([], false) (ial rfl rfl un22 ts77 (getI_some hv576).1 (map_get (getI_some hv576).2) rfl) rfl (t1 ([], false) (lod (v := .d (eApiColumn v576)) rfl (ld_rop ts77 ta77 rfl)) rfl (t1 ([], false) (far (k := 1) rfl fo26_1 ts22 rfl) rfl ?_)))))))))
     refine t1 ([1], false) (lod rfl (ld_box ts22 ta22 rfl rfl)) rfl (t1 ([], false) (mv rfl) rfl (t1 ([], false) (ial rfl rfl un22 ts77 (getI_some hv577).1 (map_get (getI_some hv577).2) rfl) rfl (t1 ([], false) (lod (v := .d (eApiColumn v577)) rfl (ld_rop ts77 ta77 rfl)) rfl (t1 ([], false) (bi (v := .d (eB (!(eqApiColumn v576 v577)))) rfl rfl (fun X Y => eqApiColumn_neq_77 X Y v576 v577)) rfl (tn (by decide +kernel) (cB h3 rfl (fun h3 => ?_) (fun h3 => ?_)))))))
     ·have q := si h3; subst q; have q : _ = _ := hv3; subst q; have q := si h1; subst q; have q := si h0; subst q
      exact sr (sa rfl (sn (SC.ret (finR (wc (e' := [(4, .d (eB false))]) [] [] (by kernel_rfl) rfl (by kernel_rfl)) (lresT rfl lresN) rfl))))
     ·refine SC.skip ?_
      change SC _ _ _ _ _
      have q := si h3; subst q
      exact SC.region (sm rfl (s1 (bi rfl rfl q_i64_add) (sa rfl (SO.nil (lf (wq rfl))))))
    ·have q := si h3; subst q; have q : _ = _ := hv3; subst q; have q := si h1; subst q
     exact SC.exit (lf (wq rfl))
   ·intro _ h0
    refine SC.seqB h0 (fun y => ⟨mk 144 [], []⟩) ?_ ?_
    ·intro u1_701 h1 h0
     obtain ⟨u2_783, h2, h1⟩ := ob h1
     refine sr (sa rfl (sn (SC.blk (SC.loopB h2 (fun y => ⟨mk 144 [(2, .ref 0 0 0), (3, .ref 1 0 0), (6, .d (eI y))], [.box (.d (eApiTable p0)), .box (.d (eApiTable p1))]⟩) (wq rfl) ?_))))
     intro n823
     rintro y741 w2_782 h3 hv3
     refine sq (sr (sm rfl (s1 (far (k := 3) rfl fo26_3 ts24 rfl) (s1 (lod rfl (ld_box ts24 ta24 rfl rfl)) (s1 (len rfl rfl rfl (len_lst un24)) (s1 (bi rfl rfl q_i64_lss) (sn (cB h3 rfl (fun h3 => ?_) (fun h3 => ?_)))))))))
     ·refine sk (SC.seqB h3 (fun y => ⟨mk 144 [(2, .ref 0 0 0), (3, .ref 1 0 0), (6, .d (eI y741))], [.box (.d (eApiTable p0)), .box (.d (eApiTable p1))]⟩) ?_ ?_)
      ·intro u4_803 h4 h3
       obtain ⟨v804, hv804, h4⟩ := ob h4; obtain ⟨v805, hv805, h4⟩ := ob h4
       refine SC.blk (sr (s1 (far (k := 3) rfl fo26_3 ts24 rfl) (s1 (lod rfl (ld_box ts24 ta24 rfl rfl)) (sm rfl (s1 (ial rfl rfl un24 ts82 (getI_some hv804).1 (map_get (getI_some hv804).2) rfl) (s1 (lod (v := .d (eApiIndex v804)) rfl (ld_rop ts82 ta82 rfl)) (s1 (alo (k := 2) zo82 rfl) (s0 (sto rfl rfl (sB (d' := .d (eApiIndex v804)) ts82 rfl rfl rfl rfl rfl rfl rfl)) (sn ?_)))))))))
       refine sr (s1 (far (k := 3) rfl fo26_3 ts24 rfl) (s1 (lod rfl (ld_box ts24 ta24 rfl rfl)) (sm rfl (s1 (ial rfl rfl un24 ts82 (getI_some hv805).1 (map_get (getI_some hv805).2) rfl) (s1 (lod (v := .d (eApiIndex v805)) rfl (ld_rop ts82 ta82 rfl)) (s1 (alo (k := 3) zo82 rfl) (s0 (sto rfl rfl (sB (d' := .d (eApiIndex v805)) ts82 rfl rfl rfl rfl rfl rfl rfl)) (sn (sq ?_)))))))))
       refine SC.seqP h4 (fun y => ⟨mk 144 [(2, .ref 0 0 0), (3, .ref 1 0 0), (6, .d (eI y741)), (7, .ref 2 0 0), (8, .ref 3 0 0), (125, .d (eB y))], [.box (.d (eApiTable p0)), .box (.d (eApiTable p1)), .box (.d (eApiIndex v804)), .box (.d (eApiIndex v805))]⟩) ?_ ?_
       ·intro u5_809 h5
        refine SC.region (s1 (far (k := 0) rfl fo82_0 ts9 rfl) (s1 (lod rfl (ld_box ts9 ta9 rfl rfl)) (s1 (far (k := 0) rfl fo82_0 ts9 rfl) (s1 (lod rfl (ld_box ts9 ta9 rfl rfl)) (s1 (bi rfl rfl q_str_neq) (sm rfl (sp h5 (fun h5 => ?_) (fun h5 => ?_))))))))
        ·have q := si h5; subst q
         refine kw rfl (kw rfl (kw rfl (kw rfl (kw rfl (s1 (pkt rfl rfl) (sm rfl (kw rfl (kw rfl (kw rfl ?_)))))))))
         refine kw rfl (kw rfl (s1 (pkt rfl rfl) (sm rfl (kw rfl (kw rfl (kw rfl (kw rfl (kw rfl (s1 (pkt rfl rfl) ?_)))))))))
         refine sm rfl (kw rfl (kw rfl (kw rfl (kw rfl (kw rfl (kw rfl (s1 (pkt rfl rfl) (sm rfl (kw rfl ?_)))))))))
         exact kw rfl (kw rfl (kw rfl (kw rfl (kw rfl (kw rfl (s1 (pkt rfl rfl) (SO.nil ((wq rfl)))))))))
        ·refine gw rfl (far (k := 3) rfl fo82_3 ts4 rfl) (gw rfl (lod rfl (ld_box ts4 ta4 rfl rfl)) (gw rfl (far (k := 3) rfl fo82_3 ts4 rfl) (gw rfl (lod rfl (ld_box ts4 ta4 rfl rfl)) (gw rfl (bi (v := .d (eB (v804.Unique != v805.Unique))) rfl rfl (fun X Y => b_bool_neq un4 X Y v804.Unique v805.Unique)) (s1 (pkf rfl rfl) (sm rfl (sp h5 (fun h5 => ?_) (fun h5 => ?_))))))))
         ·have q := si h5; subst q
          refine kw rfl (kw rfl (kw rfl (kw rfl (kw rfl (s1 (pkt rfl rfl) (sm rfl (kw rfl (kw rfl (kw rfl ?_)))))))))
          refine kw rfl (kw rfl (s1 (pkt rfl rfl) (sm rfl (kw rfl (kw rfl (kw rfl (kw rfl (kw rfl (kw rfl ?_)))))))))
          refine s1 (pkt rfl rfl) (sm rfl (kw rfl (kw rfl (kw rfl (kw rfl (kw rfl (kw rfl (kw rfl (s1 (pkt rfl rfl) ?_)))))))))
          exact SO.nil ((wq rfl))
         ·refine gw rfl (far (k := 4) rfl fo82_4 ts4 rfl) (gw rfl (lod rfl (ld_box ts4 ta4 rfl rfl)) (gw rfl (far (k := 4) rfl fo82_4 ts4 rfl) (gw rfl (lod rfl (ld_box ts4 ta4 rfl rfl)) (gw rfl (bi (v := .d (eB (v804.Ready != v805.Ready))) rfl rfl (fun X Y => b_bool_neq un4 X Y v804.Ready v805.Ready)) (s1 (pkf rfl rfl) (sm rfl (sp h5 (fun h5 => ?_) (fun h5 => ?_))))))))
          ·have q := si h5; subst q
           refine kw rfl (kw rfl (kw rfl (kw rfl (kw rfl (s1 (pkt rfl rfl) (sm rfl (kw rfl (kw rfl (kw rfl ?_)))))))))
           refine kw rfl (kw rfl (kw rfl (s1 (pkt rfl rfl) (sm rfl (kw rfl (kw rfl (kw rfl (kw rfl (kw rfl ?_)))))))))
           exact kw rfl (kw rfl (s1 (pkt rfl rfl) (SO.nil ((wq rfl)))))
          ·refine gw rfl (far (k := 5) rfl fo82_5 ts3 rfl) (gw rfl (lod rfl (ld_box ts3 ta3 rfl rfl)) (gw rfl (far (k := 5) rfl fo82_5 ts3 rfl) (gw rfl (lod rfl (ld_box ts3 ta3 rfl rfl)) (gw rfl (bi rfl rfl q_i64_neq) (s1 (pkf rfl rfl) (sm rfl (sp h5 (fun h5 => ?_) (fun h5 => ?_))))))))
           ·have q := si h5; subst q
            refine kw rfl (kw rfl (kw rfl (kw rfl (kw rfl (kw rfl (s1 (pkt rfl rfl) (sm rfl (kw rfl (kw rfl ?_)))))))))
            exact kw rfl (kw rfl (kw rfl (kw rfl (kw rfl (s1 (pkt rfl rfl) (SO.nil ((wq rfl))))))))
           ·obtain ⟨r811, hq810, h5⟩ := ob h5
            refine gw rfl (far (k := 2) rfl fo82_2 ts23 rfl) (gw rfl (lod rfl (ld_box ts23 ta23 rfl rfl)) (gw rfl (far (k := 2) rfl fo82_2 ts23 rfl) (gw rfl (lod rfl (ld_box ts23 ta23 rfl rfl)) (c0 (raw_Ints_ok v804.Extra v805.Extra _ hq810) (ww rfl) rfl rfl rfl cb44 rfl (fun _ => rfl) (fun _ => rfl) (gw rfl (nt rfl) (s1 (pkf rfl rfl) (sm rfl (sp h5 (fun h5 => ?_) (fun h5 => ?_)))))))))
            ·have q := si h5; subst q
             exact kw rfl (kw rfl (kw rfl (kw rfl (kw rfl (kw rfl (kw rfl (s1 (pkt rfl rfl) (SO.nil ((wq rfl))))))))))
            ·have q := si h5; subst q
             exact gw rfl (far (k := 1) rfl fo82_1 ts80 rfl) (gw rfl (lod rfl (ld_box ts80 ta80 rfl rfl)) (gw rfl (len rfl rfl rfl (len_lst un80)) (gw rfl (far (k := 1) rfl fo82_1 ts80 rfl) (gw rfl (lod rfl (ld_box ts80 ta80 rfl rfl)) (gw rfl (len rfl rfl rfl (len_lst un80)) (gw rfl (bi rfl rfl q_i64_neq) (s1 (pkf rfl rfl) (SO.nil ((wq rfl))))))))))
       ·rintro y808 h4
        refine cB h4 rfl (fun h4 => ?_) (fun h4 => ?_)
        ·have q := si h4; subst q; have q := si h3; subst q; have q : _ = _ := hv3; subst q; have q := si h1; subst q; have q := si h0; subst q
         exact sr (sa rfl (sn (SC.ret (finR (wc (e' := [(4, .d (eB false))]) [] [] (by kernel_rfl) rfl (by kernel_rfl)) (lresT rfl lresN) rfl))))
        ·obtain ⟨u5_819, h5, h4⟩ := ob h4
         refine sk (sr (sa rfl (sn (SC.blk (SC.loopB h5 (fun y => ⟨mk 144 [(2, .ref 0 0 0), (3, .ref 1 0 0), (6, .d (eI y741)), (7, .ref 2 0 0), (8, .ref 3 0 0), (9, .d (eI y))], [.box (.d (eApiTable p0)), .box (.d (eApiTable p1)), .box (.d (eApiIndex v804)), .box (.d (eApiIndex v805))]⟩) (wq rfl) ?_)))))
         intro n822
         rintro y814 w5_818 h6 hv6
         refine sq (sr (sm rfl (s1 (far (k := 1) rfl fo82_1 ts80 rfl) (s1 (lod rfl (ld_box ts80 ta80 rfl rfl)) (s1 (len rfl rfl rfl (len_lst un80)) (s1 (bi rfl rfl q_i64_lss) (sn (cB h6 rfl (fun h6 => ?_) (fun h6 => ?_)))))))))
         ·obtain ⟨v820, hv820, h6⟩ := ob h6; obtain ⟨v821, hv821, h6⟩ := ob h6
          refine sk (sq (SC.blk (sd (by kernel_rfl) (t1 ([], false) (far (k := 1) rfl fo82_1 ts80 rfl) rfl (t1 ([2], false) (lod rfl (ld_box ts80 ta80 rfl rfl)) rfl (t1 ([], false) (mv rfl) rfl (t1 ([], false) (ial rfl rfl un80 ts79 (getI_some hv820).1 (map_get (getI_some hv820).2) rfl) rfl (t1 ([], false) (lod (v := .d (eApiPart v820)) rfl (ld_rop ts79 ta79 rfl)) rfl (t1 ([], false) (far (k := 1) rfl fo82_1 ts80 rfl) rfl ?_)))))))))
          refine t1 ([3], false) (lod rfl (ld_box ts80 ta80 rfl rfl)) rfl (t1 ([], false) (mv rfl) rfl (t1 ([], false) (ial rfl rfl un80 ts79 (getI_some hv821).1 (map_get (getI_some hv821).2) rfl) rfl (t1 ([], false) (lod (v := .d (eApiPart v821)) rfl (ld_rop ts79 ta79 rfl)) rfl (t1 ([], false) (bi (v := .d (eB (!(eqApiPart v820 v821)))) rfl rfl (fun X Y => eqApiPart_neq_79 X Y v820 v821)) rfl (tn (by decide +kernel) (cB h6 rfl (fun h6 => ?_) (fun h6 => ?_)))))))
          ·have q := si h6; subst q; have q : _ = _ := hv6; subst q; have q := si h4; subst q; have q := si h3; subst q; have q : _ = _ := hv3; subst q; have q := si h1; subst q; have q := si h0; subst q
           exact sr (sa rfl (sn (SC.ret (finR (wc (e' := [(4, .d (eB false))]) [] [] (by kernel_rfl) rfl (by kernel_rfl)) (lresT rfl lresN) rfl))))
          ·refine SC.skip ?_
           change SC _ _ _ _ _
           have q := si h6; subst q
           exact SC.region (sm rfl (s1 (bi rfl rfl q_i64_add) (sa rfl (SO.nil (lf (wq rfl))))))
         ·have q := si h6; subst q; have q : _ = _ := hv6; subst q; have q := si h4; subst q
          exact SC.exit (lf (wc [0, 1] [0, 1] (by kernel_rfl) rfl (by kernel_rfl)))
      ·intro _ h3
       have q := si h3; subst q
       exact SC.region (sm rfl (s1 (bi rfl rfl q_i64_add) (sa rfl (SO.nil (lf (wq rfl))))))
     ·have q := si h3; subst q; have q : _ = _ := hv3; subst q; have q := si h1; subst q
      exact SC.exit (lf (wc [] [] (by kernel_rfl) rfl (by kernel_rfl)))
    ·intro _ h0
     have q := si h0; subst q
     exact sr (sa rfl (sn (SC.ret (finR (Wk.refl _) (lresT rfl lresN) rfl))))
noncomputable def law19_FanChanges (p0 : ApiTable) (p1 : List FanBuilt) (p2 : List ApiValue) (p3 : List ApiValue) (p4 : List UInt8) : Option Bool :=
 Option.bind (α := Bool)
 (Option.bind law19_awake fun r87 =>
 bif (!r87) then
 some true
 else
 Option.bind (fan_Point p4) fun _ =>
 Option.bind (ref19_Point p4) fun _ =>
 some (!(eqApiSpan (ApiSpan.mk p4 (p4 ++ ([0] : List UInt8)) false) (ApiSpan.mk p4 (p4 ++ ([0] : List UInt8)) false))))
 fun y84 =>
 bif y84 then
 some false
 else
 Option.bind (ref17_Check p0) fun r91 =>
 bif (r91 != (0 : Int)) then
 some true
 else
 Option.bind (ref17_Copy p0) fun r93 =>
 bif decide ((([] : List FanBuilt).length + p1.length) * 24 ≤ room) then
 bif decide ((([] : List ApiValue).length + p2.length) * 32 ≤ room) then
 bif decide ((([] : List ApiValue).length + p3.length) * 32 ≤ room) then
 Option.bind (fan_Change (ApiTable.mk p0.Name (([] : List ApiColumn) ++ p0.Cols) (([] : List Int) ++ p0.Primary) r93 p0.Tree) (([] : List FanBuilt) ++ p1) (([] : List ApiValue) ++ p2) (([] : List ApiValue) ++ p3)) fun (r98, r99, r100, r101) =>
 Option.bind (law19_built p1) fun r103 =>
 Option.bind (ref19_Change p0 r103 p2 p3) fun (r105, r106, r107, r108) =>
 Option.bind (α := Bool)
 (bif (r98 == r105) then
 Option.bind (law19_same (FanWork.mk r99 r100 r101) (Granaryref19Work.mk r106 r107 r108)) fun r116 =>
 bif r116 then
 Option.bind (ref17_Same (ApiTable.mk p0.Name (([] : List ApiColumn) ++ p0.Cols) (([] : List Int) ++ p0.Primary) r93 p0.Tree) p0) fun r118 =>
 some r118
 else
 some false
 else
 some false)
 fun y113 =>
 some y113
 else none
 else none
 else none
theorem law19_FanChanges_ok (p0 : ApiTable) (p1 : List FanBuilt) (p2 : List ApiValue) (p3 : List ApiValue) (p4 : List UInt8) (r : Bool) (h0 : law19_FanChanges p0 p1 p2 p3 p4 = some r) : CallAt Tryz.prog 3 [.d (eApiTable p0), .d ((eL 2 eFanBuilt) p1), .d ((eL 3 eApiValue) p2), .d ((eL 3 eApiValue) p3), .d (eS p4)] [] (.d (eB r)) [] := by
 unfold law19_FanChanges at h0
 refine fn0 [0, 1, 2, 3, 4] Tryz.func3 rfl rfl rfl rfl rfl ?_
 refine sr (s1 (bxo (k := 0) rfl rfl rfl) (sa rfl (sn (sq (SC.seqP h0 (fun y => ⟨mk 66 [(1, .d ((eL 2 eFanBuilt) p1)), (2, .d ((eL 3 eApiValue) p2)), (3, .d ((eL 3 eApiValue) p3)), (5, .ref 0 0 0), (24, .d (eB y))], [.box (.d (eApiTable p0))]⟩) ?_ ?_)))))
 ·intro u1_85 h1
  obtain ⟨r87, hq86, h1⟩ := ob h1
  refine SC.region (c0 (law19_awake_ok _ hq86) wf rfl rfl rfl cb5 rfl (fun _ => rfl) (fun _ => rfl) (s1 (nt rfl) (sm rfl (sp h1 (fun h1 => ?_) (fun h1 => ?_)))))
  ·have q := si h1; subst q
   exact kw rfl (kw rfl (kw rfl (kw rfl (kw rfl (s1 (pkt rfl rfl) (SO.nil ((wq rfl))))))))
  ·obtain ⟨_, hq88, h1⟩ := ob h1; obtain ⟨_, hq89, h1⟩ := ob h1; have q := si h1; subst q
   exact gw rfl (mv rfl) (cq [] [1] (fan_Point_ok p4 _ hq88) (ww rfl) rfl rfl rfl cb6 rfl rfl rfl rfl rfl rfl rfl rfl (gw rfl (mv rfl) (cq [] [2] (ref19_Point_ok p4 _ hq89) (ww rfl) rfl rfl rfl cb7 rfl rfl rfl rfl rfl rfl rfl rfl (gw rfl (bi (v := .d (eB (!(eqApiSpan (ApiSpan.mk p4 (p4 ++ ([0] : List UInt8)) false) (ApiSpan.mk p4 (p4 ++ ([0] : List UInt8)) false))))) rfl rfl (fun X Y => eqApiSpan_neq_31 X Y (ApiSpan.mk p4 (p4 ++ ([0] : List UInt8)) false) (ApiSpan.mk p4 (p4 ++ ([0] : List UInt8)) false))) (s1 (pkf rfl rfl) (SO.nil ((wc [0] [0] (by kernel_rfl) rfl (by kernel_rfl)))))))))
 ·rintro y84 h0
  refine cB h0 rfl (fun h0 => ?_) (fun h0 => ?_)
  ·have q := si h0; subst q
   exact sr (sa rfl (sn (SC.ret (finR (wc (e' := [(10, .d (eB false))]) [] [] (by kernel_rfl) rfl (by kernel_rfl)) (lresT rfl lresN) rfl))))
  ·obtain ⟨r91, hq90, h0⟩ := ob h0
   refine sk (sq (sr (s1 (lod (v := .d (eApiTable p0)) rfl (ld_box ts26 ta26 rfl rfl)) (c0 (ref17_Check_ok p0 _ hq90) wf rfl rfl rfl cb8 rfl (fun _ => rfl) (fun _ => rfl) (s1 (bi rfl rfl q_i64_neq) (sn (cB h0 rfl (fun h0 => ?_) (fun h0 => ?_))))))))
   ·have q := si h0; subst q
    exact sr (sa rfl (sn (SC.ret (finR (wc (e' := [(10, .d (eB true))]) [] [] (by kernel_rfl) rfl (by kernel_rfl)) (lresT rfl lresN) rfl))))
   ·obtain ⟨r93, hq92, h0⟩ := ob h0; obtain ⟨hg94, h0⟩ := gd h0; obtain ⟨hg95, h0⟩ := gd h0; obtain ⟨hg96, h0⟩ := gd h0; obtain ⟨⟨r98, r99, r100, r101⟩, hq97, h0⟩ := ob h0; obtain ⟨r103, hq102, h0⟩ := ob h0; obtain ⟨⟨r105, r106, r107, r108⟩, hq104, h0⟩ := ob h0
    refine sk (sr (s1 (lod (v := .d (eApiTable p0)) rfl (ld_box ts26 ta26 rfl rfl)) (cq [] [1, 2, 3, 4] (ref17_Copy_ok_f p0 _ hq92) wf rfl rfl rfl cb9 rfl rfl rfl rfl rfl rfl rfl rfl (s1 (alo (k := 5) zo26 rfl) (s0 (sto rfl rfl (sB (d' := .d (eApiTable (ApiTable.mk p0.Name (([] : List ApiColumn) ++ p0.Cols) (([] : List Int) ++ p0.Primary) r93 p0.Tree))) ts26 rfl rfl rfl rfl rfl rfl rfl)) (sn (sd (by kernel_rfl) (t1 ([5], false) (lod (v := .d (eApiTable (ApiTable.mk p0.Name (([] : List ApiColumn) ++ p0.Cols) (([] : List Int) ++ p0.Primary) r93 p0.Tree))) rfl (ld_box ts26 ta26 rfl rfl)) rfl (t1 ([6], true) (bsn (k := 6) (ds := List.map eFanBuilt ([] : List FanBuilt)) (off := 0) (l' := ([] : List FanBuilt).length) rfl un27 ei99 rfl rfl rfl rfl rfl rfl) rfl ?_)))))))))
    refine t1 ([], false) (mv rfl) rfl (t1 ([6, 7], true) (app rfl rfl rfl rfl bc27 (aF (f := eFanBuilt) (xs := ([] : List FanBuilt)) (k := 7) rfl un27 ei99 rfl el_lst hg94 rfl)) rfl (t1 ([8], true) (bsn (k := 8) (ds := List.map eApiValue ([] : List ApiValue)) (off := 0) (l' := ([] : List ApiValue).length) rfl un28 ei68 rfl rfl rfl rfl rfl rfl) rfl (t1 ([], false) (mv rfl) rfl (t1 ([8, 9], true) (app rfl rfl rfl rfl bc28 (aF (f := eApiValue) (xs := ([] : List ApiValue)) (k := 9) rfl un28 ei68 rfl el_lst hg95 rfl)) rfl (t1 ([10], true) (bsn (k := 10) (ds := List.map eApiValue ([] : List ApiValue)) (off := 0) (l' := ([] : List ApiValue).length) rfl un28 ei68 rfl rfl rfl rfl rfl rfl) rfl (t1 ([], false) (mv rfl) rfl (t1 ([10, 11], true) (app rfl rfl rfl rfl bc28 (aF (f := eApiValue) (xs := ([] : List ApiValue)) (k := 11) rfl un28 ei68 rfl el_lst hg96 rfl)) rfl (tq (args' := [.d (eApiTable (ApiTable.mk p0.Name (([] : List ApiColumn) ++ p0.Cols) (([] : List Int) ++ p0.Primary) r93 p0.Tree)), .slc 0 2 0 ((([] : List FanBuilt) ++ p1).length) none, .slc 1 3 0 ((([] : List ApiValue) ++ p2).length) none, .slc 2 3 0 ((([] : List ApiValue) ++ p3).length) none]) (σc := [.row 2 (List.map eFanBuilt (([] : List FanBuilt) ++ p1)) true, .row 3 (List.map eApiValue (([] : List ApiValue) ++ p2)) true, .row 3 (List.map eApiValue (([] : List ApiValue) ++ p3)) true]) [7, 9, 11] [12, 13, 14, 15] ([7, 9, 11, 12, 13, 14, 15], true) (CallAt.frz (ArgF.keep (ArgF.frz (fF rfl rfl rfl) (ArgF.frz (fF rfl rfl rfl) (ArgF.frz (fF rfl rfl rfl) (ArgF.nil _))))) (fq [] [3, 4, 5, 6] (fan_Change_ok (ApiTable.mk p0.Name (([] : List ApiColumn) ++ p0.Cols) (([] : List Int) ++ p0.Primary) r93 p0.Tree) (([] : List FanBuilt) ++ p1) (([] : List ApiValue) ++ p2) (([] : List ApiValue) ++ p3) _ hq97) rfl rfl rfl rfl rfl rfl rfl rfl)) wf rfl rfl rfl cb10 rfl rfl rfl rfl rfl rfl rfl rfl rfl ?_))))))))
    refine t1 ([], false) (mv rfl) rfl (t1 ([], false) (ext rfl rfl) rfl (t1 ([], false) (ext rfl rfl) rfl (t1 ([16], true) (alo (k := 16) zo40 rfl) rfl (t0 ([16, 13, 14, 15], true) (sto rfl rfl (sB (d' := .agg [.slc 13 9 0 r99.length none, .slc 14 5 0 r100.length none, .slc 15 4 0 r101.length none]) ts40 rfl rfl rfl rfl rfl rfl rfl)) rfl (t1 ([], false) (asg rfl) rfl (tn (by decide +kernel) (sd (by kernel_rfl) (t1 ([0], false) (lod (v := .d (eApiTable p0)) rfl (ld_box ts26 ta26 rfl rfl)) rfl (t1 ([], false) (mv rfl) rfl ?_)))))))))
    refine tc0 (law19_built_ok p1 _ hq102) wf rfl rfl rfl cb12 rfl (fun _ => rfl) (fun _ => rfl) (t1 ([], false) (mv rfl) rfl (t1 ([], false) (mv rfl) rfl (tq [] [17, 18, 19, 20] ([17, 18, 19, 20], true) (ref19_Change_ok p0 r103 p2 p3 _ hq104) wf rfl rfl rfl cb11 rfl rfl rfl rfl rfl rfl rfl rfl rfl (t1 ([], false) (mv rfl) rfl (t1 ([], false) (ext rfl rfl) rfl (t1 ([], false) (ext rfl rfl) rfl (t1 ([21], true) (alo (k := 21) zo46 rfl) rfl (t0 ([21, 18, 19, 20], true) (sto rfl rfl (sB (d' := .agg [.slc 18 9 0 r106.length none, .slc 19 5 0 r107.length none, .slc 20 4 0 r108.length none]) ts46 rfl rfl rfl rfl rfl rfl rfl)) rfl (t1 ([], false) (asg rfl) rfl ?_)))))))))
    refine tn (by decide +kernel) (SC.seqP h0 (fun y => ⟨mk 66 [(10, .d (eB y))], []⟩) ?_ ?_)
    ·intro u1_114 h1
     refine SC.region (sm rfl (sm rfl (s1 (bi rfl rfl q_i64_eql) (sm rfl (sp h1 (fun h1 => ?_) (fun h1 => ?_))))))
     ·obtain ⟨r116, hq115, h1⟩ := ob h1
      refine gw rfl (lod (v := .agg [.slc 13 9 0 r99.length none, .slc 14 5 0 r100.length none, .slc 15 4 0 r101.length none]) rfl (ld_box ts40 ta40 rfl rfl)) (gw rfl (lod (v := .agg [.slc 18 9 0 r106.length none, .slc 19 5 0 r107.length none, .slc 20 4 0 r108.length none]) rfl (ld_box ts46 ta46 rfl rfl)) (cq (args' := [.agg [.slc 0 9 0 r99.length none, .slc 1 5 0 r100.length none, .slc 2 4 0 r101.length none], .agg [.slc 3 9 0 r106.length none, .slc 4 5 0 r107.length none, .slc 5 4 0 r108.length none]]) (σc := [.row 9 (List.map eForestOp r99) true, .row 5 (List.map eApiLock r100) true, .row 4 (List.map eFanProbe r101) true, .row 9 (List.map eGranaryref14Op r106) true, .row 5 (List.map eApiLock r107) true, .row 4 (List.map eGranaryref19Probe r108) true]) [13, 14, 15, 18, 19, 20] [] (CallAt.frz (ArgF.frzw (y := .d (eFanWork (FanWork.mk r99 r100 r101))) rfl (frzs_slc (fF rfl rfl rfl) (frzs_slc (fF rfl rfl rfl) (frzs_slc (fF rfl rfl rfl) frzs_nil))) (AW.aggd rfl (AWs.cons (AW.refl _) (AWs.cons (AW.refl _) (AWs.cons (AW.refl _) AWs.nil)))) (ArgF.frzw (y := .d (eGranaryref19Work (Granaryref19Work.mk r106 r107 r108))) rfl (frzs_slc (fF rfl rfl rfl) (frzs_slc (fF rfl rfl rfl) (frzs_slc (fF rfl rfl rfl) frzs_nil))) (AW.aggd rfl (AWs.cons (AW.refl _) (AWs.cons (AW.refl _) (AWs.cons (AW.refl _) AWs.nil)))) (ArgF.nil _))) (fq [] [] (law19_same_ok (FanWork.mk r99 r100 r101) (Granaryref19Work.mk r106 r107 r108) _ hq115) rfl rfl rfl rfl rfl rfl rfl rfl)) (ww rfl) rfl rfl rfl cb13 rfl rfl rfl rfl rfl rfl rfl rfl ?_))
      refine s1 (pkt rfl rfl) (sm rfl (sp h1 (fun h1 => ?_) (fun h1 => ?_)))
      ·obtain ⟨r118, hq117, h1⟩ := ob h1; have q := si h1; subst q
       exact gw rfl (lod (v := .d (eApiTable (ApiTable.mk p0.Name (([] : List ApiColumn) ++ p0.Cols) (([] : List Int) ++ p0.Primary) r93 p0.Tree))) rfl (ld_box ts26 ta26 rfl rfl)) (gw rfl (lod (v := .d (eApiTable p0)) rfl (ld_box ts26 ta26 rfl rfl)) (c0 (ref17_Same_ok (ApiTable.mk p0.Name (([] : List ApiColumn) ++ p0.Cols) (([] : List Int) ++ p0.Primary) r93 p0.Tree) p0 _ hq117) (ww rfl) rfl rfl rfl cb14 rfl (fun _ => rfl) (fun _ => rfl) (s1 (pkt rfl rfl) (sa rfl (SO.nil ((wc [] [] (by kernel_rfl) rfl (by kernel_rfl))))))))
      ·have q := si h1; subst q
       exact kw rfl (kw rfl (kw rfl (s1 (pkf rfl rfl) (sa rfl (SO.nil ((wc [] [] (by kernel_rfl) rfl (by kernel_rfl))))))))
     ·have q := si h1; subst q
      refine kw rfl (kw rfl (kw rfl (s1 (pkf rfl rfl) (sm rfl (kw rfl (kw rfl (kw rfl (s1 (pkf rfl rfl) (sa rfl ?_)))))))))
      exact SO.nil ((wc [] [] (by kernel_rfl) rfl (by kernel_rfl)))
    ·rintro y113 h0
     have q := si h0; subst q
     exact SC.ret (finR (Wk.refl _) (lresT rfl lresN) rfl)
end Lv
