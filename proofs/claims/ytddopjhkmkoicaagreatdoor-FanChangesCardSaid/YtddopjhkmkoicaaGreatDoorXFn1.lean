/- Part of the proof of a law: functions and their walks. -/
import Derived.Test.YtddopjhkmkoicaaGreatDoorXFn0
namespace Lv
open Go Go.Proofs
set_option linter.unusedVariables false
set_option linter.unusedSimpArgs false
set_option linter.unusedSectionVars false
set_option maxRecDepth 100000
variable [BaseTab] [TabOk]
noncomputable def fan_Work_index_1_1 (p0 : ApiMsg) (p1 : ApiIndex) (p2 : List ForestOp) (p3 : List ApiLock) (p4 : List FanProbe) : Option ((List ApiLock)) :=
 Option.bind (fan_Work_do_2 p1.Tree p0 p2 p3 p4) fun _ =>
 bif p1.Ready then
 Option.bind (fan_Work_own_2 p1.Tree p0.Key (p2 ++ [(ForestOp.mk (1 : Int) p1.Tree p0)]) p3 p4) fun _ =>
 some (p3 ++ [(ApiLock.mk p1.Tree (ApiSpan.mk p0.Key (p0.Key ++ ([0] : List UInt8)) false) true)])
 else
 some p3
theorem fan_Work_index_1_1_ok (p0 : ApiMsg) (p1 : ApiIndex) (p2 : List ForestOp) (p3 : List ApiLock) (p4 : List FanProbe) (r : (List ApiLock)) (h0 : fan_Work_index_1_1 p0 p1 p2 p3 p4 = some r) : CallAt Tryz.prog 70 [.d (eApiMsg p0), .ref 0 0 0, .ref 1 0 0] [.box (.ref 2 0 0), .box (.d (eApiIndex p1)), .box (.agg [.slc 3 9 0 p2.length none, .slc 4 5 0 p3.length none, .slc 5 4 0 p4.length none]), .row 9 (List.map eForestOp p2) true, .row 5 (List.map eApiLock p3) true, .row 4 (List.map eFanProbe p4) true] (.tuple []) [.box (.ref 2 0 0), .box (.d (eApiIndex p1)), .box (.agg [.slc 6 9 0 ((p2 ++ [(ForestOp.mk (1 : Int) p1.Tree p0)]).length) none, .slc 7 5 0 r.length none, .slc 5 4 0 p4.length none]), .dead, .dead, .row 4 (List.map eFanProbe p4) true, .row 9 (List.map eForestOp (p2 ++ [(ForestOp.mk (1 : Int) p1.Tree p0)])) true, .row 5 (List.map eApiLock r) true] := by
 unfold fan_Work_index_1_1 at h0
 refine fn0 [0, 1, 2] Tryz.func70 rfl rfl rfl rfl rfl ?_
 obtain ⟨_, hq6, h0⟩ := ob h0
 refine sr (s1 (bxo (k := 6) rfl rfl rfl) (sn (sr (s1 (lod rfl (ld_box ts135 ta135 rfl rfl)) (s1 (far (k := 5) rfl fo82_5 ts3 rfl) (s1 (lod rfl (ld_box ts3 ta3 rfl rfl)) (s1 (lod (v := .d (eApiMsg p0)) rfl (ld_box ts63 ta63 rfl rfl)) (cq [2, 3, 4, 5] [7] (fan_Work_do_2_ok p1.Tree p0 p2 p3 p4 _ hq6) wf rfl rfl rfl cb34 rfl rfl rfl rfl rfl rfl rfl rfl (sn ?_)))))))))
 refine sr (s1 (far (k := 4) rfl fo82_4 ts4 rfl) (s1 (lod rfl (ld_box ts4 ta4 rfl rfl)) (sn (cB h0 rfl (fun h0 => ?_) (fun h0 => ?_)))))
 ·obtain ⟨_, hq7, h0⟩ := ob h0; have q := si h0; subst q
  exact SC.region (s1 (lod rfl (ld_box ts135 ta135 rfl rfl)) (s1 (far (k := 5) rfl fo82_5 ts3 rfl) (s1 (lod rfl (ld_box ts3 ta3 rfl rfl)) (s1 (far (k := 2) rfl fo63_2 ts9 rfl) (s1 (lod rfl (ld_box ts9 ta9 rfl rfl)) (cq [2, 7, 4, 5] [8] (fan_Work_own_2_ok p1.Tree p0.Key (p2 ++ [(ForestOp.mk (1 : Int) p1.Tree p0)]) p3 p4 _ hq7) wf rfl rfl rfl cb31 rfl rfl rfl rfl rfl rfl rfl rfl (SO.nil (finN (Wk.trans (wq (e' := []) rfl) (wc (e' := []) [0, 1, 2, 3, 4, 5, 7, 8] [0, 1, 2, 3, 4, 5] (by kernel_rfl) rfl (by kernel_rfl))) lresN rfl))))))))
 ·have q := si h0; subst q
  exact SC.skip (finN (Wk.trans (wq (e' := []) rfl) (Wk.trans (Wk.move (e' := []) (os := [.box (.ref 2 0 0), .box (.d (eApiIndex p1)), .box (.agg [.slc 7 9 0 ((p2 ++ [(ForestOp.mk (1 : Int) p1.Tree p0)]).length) none, .slc 8 5 0 p3.length none, .slc 5 4 0 p4.length none]), .dead, .row 5 (List.map eApiLock p3) true, .row 4 (List.map eFanProbe p4) true, .box (.d (eApiMsg p0)), .row 9 (List.map eForestOp (p2 ++ [(ForestOp.mk (1 : Int) p1.Tree p0)])) true]) (o := .row 5 (List.map eApiLock p3) true) (σ' := [.box (.ref 2 0 0), .box (.d (eApiIndex p1)), .box (.agg [.slc 7 9 0 ((p2 ++ [(ForestOp.mk (1 : Int) p1.Tree p0)]).length) none, .slc 8 5 0 p3.length none, .slc 5 4 0 p4.length none]), .dead, .dead, .row 4 (List.map eFanProbe p4) true, .box (.d (eApiMsg p0)), .row 9 (List.map eForestOp (p2 ++ [(ForestOp.mk (1 : Int) p1.Tree p0)])) true, .row 5 (List.map eApiLock p3) true]) 4 (Nat.le_of_ble_eq_true rfl) rfl rfl rfl rfl) (wc (e' := []) [0, 1, 2, 3, 4, 5, 7, 8] [0, 1, 2, 3, 4, 5] (by kernel_rfl) rfl (by kernel_rfl)))) lresN rfl)
noncomputable def fan_Work_index_2 (p0 : ApiTable) (p1 : ApiIndex) (p2 : FanSide) (p3 : FanSide) (p4 : List ForestOp) (p5 : List ApiLock) (p6 : List FanProbe) : Option ((List ForestOp) × (List ApiLock) × (List FanProbe)) :=
 Option.bind (α := (List UInt8) × ApiPair)
 (Option.bind (fan_side_there p2) fun _ =>
 bif (decide ((p2.row.length : Int) > (0 : Int))) then
 Option.bind (schema_Entry p0 p1 p2.row) fun (r147, r148) =>
 Option.bind (schema_Front p0 p1 p2.row) fun (r150, r151, r152) =>
 some (r150, r148)
 else
 some (([] : List UInt8), (ApiPair.mk ([] : List UInt8) ([] : List UInt8))))
 fun (y142, y143) =>
 Option.bind (α := (List UInt8) × Bool × ApiPair)
 (Option.bind (fan_side_there p3) fun _ =>
 bif (decide ((p3.row.length : Int) > (0 : Int))) then
 Option.bind (schema_Entry p0 p1 p3.row) fun (r167, r168) =>
 Option.bind (schema_Front p0 p1 p3.row) fun (r170, r171, r172) =>
 some (r170, r171, r168)
 else
 some (([] : List UInt8), false, (ApiPair.mk ([] : List UInt8) ([] : List UInt8))))
 fun (y161, y162, y163) =>
 bif (eqApiPair y143 y163) then
 some (p4, p5, p6)
 else
 Option.bind (α := (List ForestOp) × (List ApiLock))
 (Option.bind (α := Bool)
 (Option.bind (fan_side_there p2) fun _ =>
 bif (decide ((p2.row.length : Int) > (0 : Int))) then
 some (y143.Key != y163.Key)
 else
 some false)
 fun y183 =>
 bif y183 then
 Option.bind (fan_Work_index_1_1 (ApiMsg.mk (0 : UInt64) (2 : Int) y143.Key (0 : UInt64) ([] : List UInt8) (0 : Int) (0 : UInt64)) p1 p4 p5 p6) fun r187 =>
 some ((p4 ++ [(ForestOp.mk (1 : Int) p1.Tree (ApiMsg.mk (0 : UInt64) (2 : Int) y143.Key (0 : UInt64) ([] : List UInt8) (0 : Int) (0 : UInt64)))]), r187)
 else
 some (p4, p5))
 fun (y179, y180) =>
 Option.bind (fan_side_there p3) fun _ =>
 bif (!(decide ((p3.row.length : Int) > (0 : Int)))) then
 some (y179, y180, p6)
 else
 Option.bind (fan_Work_index_1_1 (ApiMsg.mk (0 : UInt64) (1 : Int) y163.Key (0 : UInt64) y163.Val (0 : Int) (0 : UInt64)) p1 y179 y180 p6) fun r190 =>
 Option.bind (α := Bool)
 (bif p1.Ready then
 bif p1.Unique then
 bif (!y162) then
 Option.bind (fan_side_there p2) fun _ =>
 bif (decide ((p2.row.length : Int) > (0 : Int))) then
 some (!(y142 == y161))
 else
 some true
 else
 some false
 else
 some false
 else
 some false)
 fun y192 =>
 bif y192 then
 Option.bind (key_Under y161) fun r196 =>
 bif decide ((r190.length + [(ApiLock.mk p1.Tree r196 false)].length) * 56 ≤ room) then
 bif decide ((p6.length + [(FanProbe.mk p1.Tree r196)].length) * 48 ≤ room) then
 some ((y179 ++ [(ForestOp.mk (1 : Int) p1.Tree (ApiMsg.mk (0 : UInt64) (1 : Int) y163.Key (0 : UInt64) y163.Val (0 : Int) (0 : UInt64)))]), (r190 ++ [(ApiLock.mk p1.Tree r196 false)]), (p6 ++ [(FanProbe.mk p1.Tree r196)]))
 else none
 else none
 else
 some ((y179 ++ [(ForestOp.mk (1 : Int) p1.Tree (ApiMsg.mk (0 : UInt64) (1 : Int) y163.Key (0 : UInt64) y163.Val (0 : Int) (0 : UInt64)))]), r190, p6)
theorem fan_Work_index_2_ok (p0 : ApiTable) (p1 : ApiIndex) (p2 : FanSide) (p3 : FanSide) (p4 : List ForestOp) (p5 : List ApiLock) (p6 : List FanProbe) (r : (List ForestOp) × (List ApiLock) × (List FanProbe)) (h0 : fan_Work_index_2 p0 p1 p2 p3 p4 p5 p6 = some r) : CallAt Tryz.prog 35 [.ref 0 0 0, .d (eApiTable p0), .d (eApiIndex p1), .d (eFanSide p2), .d (eFanSide p3)] [.box (.agg [.slc 1 9 0 p4.length none, .slc 2 5 0 p5.length none, .slc 3 4 0 p6.length none]), .row 9 (List.map eForestOp p4) true, .row 5 (List.map eApiLock p5) true, .row 4 (List.map eFanProbe p6) true] (.tuple []) [.box (.agg [.slc 4 9 0 r.1.length none, .slc 5 5 0 r.2.1.length none, .slc 6 4 0 r.2.2.length none]), .dead, .dead, .dead, .row 9 (List.map eForestOp r.1) true, .row 5 (List.map eApiLock r.2.1) true, .row 4 (List.map eFanProbe r.2.2) true] := by
 unfold fan_Work_index_2 at h0
 refine fn0 [0, 1, 2, 3, 4] Tryz.func35 rfl rfl rfl rfl rfl ?_
 refine sr (s1 (bxo (k := 4) rfl rfl rfl) (s1 (bxo (k := 5) rfl rfl rfl) (s1 (bxo (k := 6) rfl rfl rfl) (s1 (bxo (k := 7) rfl rfl rfl) (s1 (bxo (k := 8) rfl rfl rfl) (sn (sr (s1 (alo (k := 9) zo145 rfl) (s1 (alo (k := 10) zo145 rfl) ?_)))))))))
 refine sn (sr (s1 (asg (v := .d (eS ([] : List UInt8))) rfl) (s1 (asg (v := .d (eS ([] : List UInt8))) rfl) (sn (sr (sa rfl (sn (SC.seqP h0 (fun y => ⟨mk 131 [(5, .ref 4 0 0), (6, .ref 5 0 0), (7, .ref 6 0 0), (8, .ref 7 0 0), (9, .ref 8 0 0), (10, .ref 9 0 0), (11, .ref 10 0 0), (12, .d (eS y.1)), (13, .d (eS ([] : List UInt8))), (14, .d (eB false))], [.box (.agg [.slc 1 9 0 p4.length none, .slc 2 5 0 p5.length none, .slc 3 4 0 p6.length none]), .row 9 (List.map eForestOp p4) true, .row 5 (List.map eApiLock p5) true, .row 4 (List.map eFanProbe p6) true, .box (.ref 0 0 0), .box (.d (eApiTable p0)), .box (.d (eApiIndex p1)), .box (.d (eFanSide p2)), .box (.d (eFanSide p3)), .box (.d (eApiPair y.2)), .box (.d (eApiPair (ApiPair.mk ([] : List UInt8) ([] : List UInt8))))]⟩) ?_ ?_))))))))
 ·intro u1_144 h1
  obtain ⟨_, hq145, h1⟩ := ob h1
  refine sr (s1 (lod (v := .d (eFanSide p2)) rfl (ld_box ts91 ta91 rfl rfl)) (c0 (fan_side_there_ok p2 _ hq145) wf rfl rfl rfl cb30 rfl (fun _ => rfl) (fun _ => rfl) (sn (cB h1 rfl (fun h1 => ?_) (fun h1 => ?_)))))
  ·obtain ⟨⟨r147, r148⟩, hq146, h1⟩ := ob h1; obtain ⟨⟨r150, r151, r152⟩, hq149, h1⟩ := ob h1; have q := si h1; subst q
   refine sr (s1 (lod (v := .d (eApiTable p0)) rfl (ld_box ts26 ta26 rfl rfl)) (s1 (lod (v := .d (eApiIndex p1)) rfl (ld_box ts82 ta82 rfl rfl)) (s1 (far (k := 0) rfl fo91_0 ts28 rfl) (s1 (lod rfl (ld_box ts28 ta28 rfl rfl)) (cq [] [11] (schema_Entry_ok p0 p1 p2.row _ hq146) wf rfl rfl rfl cb68 rfl rfl rfl rfl rfl rfl rfl rfl (sm rfl (s1 (ext rfl rfl) (s1 (ext rfl rfl) (s0 (sto rfl rfl (sB (d' := .d (eApiPair r148)) ts145 rfl rfl rfl rfl rfl rfl rfl)) ?_)))))))))
   refine sn (SC.region (s1 (lod (v := .d (eApiTable p0)) rfl (ld_box ts26 ta26 rfl rfl)) (s1 (lod (v := .d (eApiIndex p1)) rfl (ld_box ts82 ta82 rfl rfl)) (s1 (far (k := 0) rfl fo91_0 ts28 rfl) (s1 (lod rfl (ld_box ts28 ta28 rfl rfl)) (c0 (schema_Front_ok p0 p1 p2.row _ hq149) wf rfl rfl rfl cb69 rfl (fun _ => rfl) (fun _ => rfl) (sm rfl (s1 (ext rfl rfl) (s1 (ext rfl rfl) ?_)))))))))
   exact s1 (ext rfl rfl) (sa rfl (SO.nil ((wc [0, 1, 2, 3, 4, 5, 6, 7, 8, 9, 10] [0, 1, 2, 3, 4, 5, 6, 7, 8, 9, 10] (by kernel_rfl) rfl (by kernel_rfl)))))
  ·have q := si h1; subst q
   exact SC.skip ((wq rfl))
 ·rintro ⟨y142, y143⟩ h0
  refine SC.seqP h0 (fun y => ⟨mk 131 [(5, .ref 4 0 0), (7, .ref 5 0 0), (8, .ref 6 0 0), (9, .ref 7 0 0), (10, .ref 8 0 0), (11, .ref 9 0 0), (12, .d (eS y142)), (13, .d (eS y.1)), (14, .d (eB y.2.1))], [.box (.agg [.slc 1 9 0 p4.length none, .slc 2 5 0 p5.length none, .slc 3 4 0 p6.length none]), .row 9 (List.map eForestOp p4) true, .row 5 (List.map eApiLock p5) true, .row 4 (List.map eFanProbe p6) true, .box (.ref 0 0 0), .box (.d (eApiIndex p1)), .box (.d (eFanSide p2)), .box (.d (eFanSide p3)), .box (.d (eApiPair y143)), .box (.d (eApiPair y.2.2))]⟩) ?_ ?_
  ·intro u1_164 h1
   obtain ⟨_, hq165, h1⟩ := ob h1
   refine sr (s1 (lod (v := .d (eFanSide p3)) rfl (ld_box ts91 ta91 rfl rfl)) (c0 (fan_side_there_ok p3 _ hq165) wf rfl rfl rfl cb30 rfl (fun _ => rfl) (fun _ => rfl) (sn (cB h1 rfl (fun h1 => ?_) (fun h1 => ?_)))))
   ·obtain ⟨⟨r167, r168⟩, hq166, h1⟩ := ob h1; obtain ⟨⟨r170, r171, r172⟩, hq169, h1⟩ := ob h1; have q := si h1; subst q
    refine sr (s1 (lod (v := .d (eApiTable p0)) rfl (ld_box ts26 ta26 rfl rfl)) (s1 (lod (v := .d (eApiIndex p1)) rfl (ld_box ts82 ta82 rfl rfl)) (s1 (far (k := 0) rfl fo91_0 ts28 rfl) (s1 (lod rfl (ld_box ts28 ta28 rfl rfl)) (cq [] [11] (schema_Entry_ok p0 p1 p3.row _ hq166) wf rfl rfl rfl cb68 rfl rfl rfl rfl rfl rfl rfl rfl (sm rfl (s1 (ext rfl rfl) (s1 (ext rfl rfl) (s0 (sto rfl rfl (sB (d' := .d (eApiPair r168)) ts145 rfl rfl rfl rfl rfl rfl rfl)) ?_)))))))))
    refine sn (SC.region (s1 (lod (v := .d (eApiTable p0)) rfl (ld_box ts26 ta26 rfl rfl)) (s1 (lod (v := .d (eApiIndex p1)) rfl (ld_box ts82 ta82 rfl rfl)) (s1 (far (k := 0) rfl fo91_0 ts28 rfl) (s1 (lod rfl (ld_box ts28 ta28 rfl rfl)) (c0 (schema_Front_ok p0 p1 p3.row _ hq169) wf rfl rfl rfl cb69 rfl (fun _ => rfl) (fun _ => rfl) (sm rfl (s1 (ext rfl rfl) (s1 (ext rfl rfl) ?_)))))))))
    exact s1 (ext rfl rfl) (sa rfl (sa rfl (SO.nil ((wc [0, 1, 2, 3, 4, 6, 7, 8, 9, 10] [0, 1, 2, 3, 4, 6, 7, 8, 9, 10] (by kernel_rfl) rfl (by kernel_rfl))))))
   ·have q := si h1; subst q
    exact SC.skip ((wc [0, 1, 2, 3, 4, 6, 7, 8, 9, 10] [0, 1, 2, 3, 4, 6, 7, 8, 9, 10] (by kernel_rfl) rfl (by kernel_rfl)))
  ·rintro ⟨y161, y162, y163⟩ h0
   refine sr (s1 (mkf rfl rfl) (sa rfl (sn (sq (sr (s1 (lod (v := .d (eApiPair y143)) rfl (ld_box ts145 ta145 rfl rfl)) (s1 (lod (v := .d (eApiPair y163)) rfl (ld_box ts145 ta145 rfl rfl)) (s1 (bi (v := .d (eB (eqApiPair y143 y163))) rfl rfl (fun X Y => eqApiPair_eql_145 X Y y143 y163)) (sn ?_)))))))))
   refine cB h0 rfl (fun h0 => ?_) (fun h0 => ?_)
   ·have q := si h0; subst q
    exact SC.ret (finR (Wk.trans (wq (e' := []) rfl) (Wk.trans (Wk.move (e' := []) (os := [.box (.agg [.slc 10 9 0 p4.length none, .slc 2 5 0 p5.length none, .slc 3 4 0 p6.length none]), .row 9 (List.map eForestOp p4) true, .row 5 (List.map eApiLock p5) true, .row 4 (List.map eFanProbe p6) true, .box (.ref 0 0 0), .box (.d (eApiIndex p1)), .box (.d (eFanSide p2)), .box (.d (eFanSide p3)), .box (.d (eApiPair y143)), .box (.d (eApiPair y163))]) (o := .row 9 (List.map eForestOp p4) true) (σ' := [.box (.agg [.slc 10 9 0 p4.length none, .slc 2 5 0 p5.length none, .slc 3 4 0 p6.length none]), .dead, .row 5 (List.map eApiLock p5) true, .row 4 (List.map eFanProbe p6) true, .box (.ref 0 0 0), .box (.d (eApiIndex p1)), .box (.d (eFanSide p2)), .box (.d (eFanSide p3)), .box (.d (eApiPair y143)), .box (.d (eApiPair y163)), .row 9 (List.map eForestOp p4) true]) 1 (Nat.le_of_ble_eq_true rfl) rfl rfl rfl rfl) (Wk.trans (Wk.move (e' := []) (os := [.box (.agg [.slc 10 9 0 p4.length none, .slc 11 5 0 p5.length none, .slc 3 4 0 p6.length none]), .dead, .row 5 (List.map eApiLock p5) true, .row 4 (List.map eFanProbe p6) true, .box (.ref 0 0 0), .box (.d (eApiIndex p1)), .box (.d (eFanSide p2)), .box (.d (eFanSide p3)), .box (.d (eApiPair y143)), .box (.d (eApiPair y163)), .row 9 (List.map eForestOp p4) true]) (o := .row 5 (List.map eApiLock p5) true) (σ' := [.box (.agg [.slc 10 9 0 p4.length none, .slc 11 5 0 p5.length none, .slc 3 4 0 p6.length none]), .dead, .dead, .row 4 (List.map eFanProbe p6) true, .box (.ref 0 0 0), .box (.d (eApiIndex p1)), .box (.d (eFanSide p2)), .box (.d (eFanSide p3)), .box (.d (eApiPair y143)), .box (.d (eApiPair y163)), .row 9 (List.map eForestOp p4) true, .row 5 (List.map eApiLock p5) true]) 2 (Nat.le_of_ble_eq_true rfl) rfl rfl rfl rfl) (Wk.trans (Wk.move (e' := []) (os := [.box (.agg [.slc 10 9 0 p4.length none, .slc 11 5 0 p5.length none, .slc 12 4 0 p6.length none]), .dead, .dead, .row 4 (List.map eFanProbe p6) true, .box (.ref 0 0 0), .box (.d (eApiIndex p1)), .box (.d (eFanSide p2)), .box (.d (eFanSide p3)), .box (.d (eApiPair y143)), .box (.d (eApiPair y163)), .row 9 (List.map eForestOp p4) true, .row 5 (List.map eApiLock p5) true]) (o := .row 4 (List.map eFanProbe p6) true) (σ' := [.box (.agg [.slc 10 9 0 p4.length none, .slc 11 5 0 p5.length none, .slc 12 4 0 p6.length none]), .dead, .dead, .dead, .box (.ref 0 0 0), .box (.d (eApiIndex p1)), .box (.d (eFanSide p2)), .box (.d (eFanSide p3)), .box (.d (eApiPair y143)), .box (.d (eApiPair y163)), .row 9 (List.map eForestOp p4) true, .row 5 (List.map eApiLock p5) true, .row 4 (List.map eFanProbe p6) true]) 3 (Nat.le_of_ble_eq_true rfl) rfl rfl rfl rfl) (wc (e' := []) [0, 1, 2, 3, 10, 11, 12] [0, 1, 2, 3] (by kernel_rfl) rfl (by kernel_rfl)))))) lresN rfl)
   ·refine sk (SC.seqP h0 (fun y => ⟨mk 131 [(5, .ref 4 0 0), (7, .ref 5 0 0), (8, .ref 6 0 0), (9, .ref 7 0 0), (11, .ref 8 0 0), (12, .d (eS y142)), (13, .d (eS y161)), (14, .d (eB y162)), (15, .fn (.func 70) [] [.ref 4 0 0, .ref 5 0 0])], [.box (.agg [.slc 9 9 0 y.1.length none, .slc 10 5 0 y.2.length none, .slc 3 4 0 p6.length none]), .dead, .dead, .row 4 (List.map eFanProbe p6) true, .box (.ref 0 0 0), .box (.d (eApiIndex p1)), .box (.d (eFanSide p2)), .box (.d (eFanSide p3)), .box (.d (eApiPair y163)), .row 9 (List.map eForestOp y.1) true, .row 5 (List.map eApiLock y.2) true]⟩) ?_ ?_)
    ·intro u1_181 h1
     refine SC.seqP h1 (fun y => ⟨mk 131 [(5, .ref 4 0 0), (7, .ref 5 0 0), (8, .ref 6 0 0), (9, .ref 7 0 0), (10, .ref 8 0 0), (11, .ref 9 0 0), (12, .d (eS y142)), (13, .d (eS y161)), (14, .d (eB y162)), (15, .fn (.func 70) [] [.ref 4 0 0, .ref 5 0 0]), (67, .d (eB y))], [.box (.agg [.slc 1 9 0 p4.length none, .slc 2 5 0 p5.length none, .slc 3 4 0 p6.length none]), .row 9 (List.map eForestOp p4) true, .row 5 (List.map eApiLock p5) true, .row 4 (List.map eFanProbe p6) true, .box (.ref 0 0 0), .box (.d (eApiIndex p1)), .box (.d (eFanSide p2)), .box (.d (eFanSide p3)), .box (.d (eApiPair y143)), .box (.d (eApiPair y163))]⟩) ?_ ?_
     ·intro u2_184 h2
      obtain ⟨_, hq185, h2⟩ := ob h2
      refine SC.region (s1 (lod (v := .d (eFanSide p2)) rfl (ld_box ts91 ta91 rfl rfl)) (c0 (fan_side_there_ok p2 _ hq185) wf rfl rfl rfl cb30 rfl (fun _ => rfl) (fun _ => rfl) (sm rfl (sp h2 (fun h2 => ?_) (fun h2 => ?_)))))
      ·have q := si h2; subst q
       exact gw rfl (far (k := 0) rfl fo145_0 ts9 rfl) (gw rfl (lod rfl (ld_box ts9 ta9 rfl rfl)) (gw rfl (far (k := 0) rfl fo145_0 ts9 rfl) (gw rfl (lod rfl (ld_box ts9 ta9 rfl rfl)) (gw rfl (bi rfl rfl q_str_neq) (s1 (pkt rfl rfl) (SO.nil ((wq rfl))))))))
      ·have q := si h2; subst q
       exact kw rfl (kw rfl (kw rfl (kw rfl (kw rfl (s1 (pkf rfl rfl) (SO.nil ((wq rfl))))))))
     ·rintro y183 h1
      refine cB h1 rfl (fun h1 => ?_) (fun h1 => ?_)
      ·obtain ⟨r187, hq186, h1⟩ := ob h1; have q := si h1; subst q
       exact SC.region (sm rfl (s1 (far (k := 0) rfl fo145_0 ts9 rfl) (s1 (lod rfl (ld_box ts9 ta9 rfl rfl)) (s1 (bld rfl (bd63_1_2 (2 : Int) y143.Key)) (cq [4, 5, 0, 1, 2, 3] [10, 11] (fan_Work_index_1_1_ok (ApiMsg.mk (0 : UInt64) (2 : Int) y143.Key (0 : UInt64) ([] : List UInt8) (0 : Int) (0 : UInt64)) p1 p4 p5 p6 _ hq186) wf rfl rfl rfl cb70 rfl rfl rfl rfl rfl rfl rfl rfl (SO.nil ((Wk.trans (wq (e' := [(5, .ref 4 0 0), (7, .ref 5 0 0), (8, .ref 6 0 0), (9, .ref 7 0 0), (11, .ref 9 0 0), (12, .d (eS y142)), (13, .d (eS y161)), (14, .d (eB y162)), (15, .fn (.func 70) [] [.ref 4 0 0, .ref 5 0 0])]) rfl) (wc [0, 1, 2, 3, 4, 5, 6, 7, 9, 10, 11] [0, 1, 2, 3, 4, 5, 6, 7, 9, 4, 5] (by kernel_rfl) rfl (by kernel_rfl))))))))))
      ·have q := si h1; subst q
       exact SC.skip ((Wk.trans (wq (e' := [(5, .ref 4 0 0), (7, .ref 5 0 0), (8, .ref 6 0 0), (9, .ref 7 0 0), (11, .ref 9 0 0), (12, .d (eS y142)), (13, .d (eS y161)), (14, .d (eB y162)), (15, .fn (.func 70) [] [.ref 4 0 0, .ref 5 0 0])]) rfl) (Wk.trans (Wk.move (e' := [(5, .ref 4 0 0), (7, .ref 5 0 0), (8, .ref 6 0 0), (9, .ref 7 0 0), (11, .ref 9 0 0), (12, .d (eS y142)), (13, .d (eS y161)), (14, .d (eB y162)), (15, .fn (.func 70) [] [.ref 4 0 0, .ref 5 0 0])]) (os := [.box (.agg [.slc 10 9 0 p4.length none, .slc 2 5 0 p5.length none, .slc 3 4 0 p6.length none]), .row 9 (List.map eForestOp p4) true, .row 5 (List.map eApiLock p5) true, .row 4 (List.map eFanProbe p6) true, .box (.ref 0 0 0), .box (.d (eApiIndex p1)), .box (.d (eFanSide p2)), .box (.d (eFanSide p3)), .box (.d (eApiPair y143)), .box (.d (eApiPair y163))]) (o := .row 9 (List.map eForestOp p4) true) (σ' := [.box (.agg [.slc 10 9 0 p4.length none, .slc 2 5 0 p5.length none, .slc 3 4 0 p6.length none]), .dead, .row 5 (List.map eApiLock p5) true, .row 4 (List.map eFanProbe p6) true, .box (.ref 0 0 0), .box (.d (eApiIndex p1)), .box (.d (eFanSide p2)), .box (.d (eFanSide p3)), .box (.d (eApiPair y143)), .box (.d (eApiPair y163)), .row 9 (List.map eForestOp p4) true]) 1 (Nat.le_of_ble_eq_true rfl) rfl rfl rfl rfl) (Wk.trans (Wk.move (e' := [(5, .ref 4 0 0), (7, .ref 5 0 0), (8, .ref 6 0 0), (9, .ref 7 0 0), (11, .ref 9 0 0), (12, .d (eS y142)), (13, .d (eS y161)), (14, .d (eB y162)), (15, .fn (.func 70) [] [.ref 4 0 0, .ref 5 0 0])]) (os := [.box (.agg [.slc 10 9 0 p4.length none, .slc 11 5 0 p5.length none, .slc 3 4 0 p6.length none]), .dead, .row 5 (List.map eApiLock p5) true, .row 4 (List.map eFanProbe p6) true, .box (.ref 0 0 0), .box (.d (eApiIndex p1)), .box (.d (eFanSide p2)), .box (.d (eFanSide p3)), .box (.d (eApiPair y143)), .box (.d (eApiPair y163)), .row 9 (List.map eForestOp p4) true]) (o := .row 5 (List.map eApiLock p5) true) (σ' := [.box (.agg [.slc 10 9 0 p4.length none, .slc 11 5 0 p5.length none, .slc 3 4 0 p6.length none]), .dead, .dead, .row 4 (List.map eFanProbe p6) true, .box (.ref 0 0 0), .box (.d (eApiIndex p1)), .box (.d (eFanSide p2)), .box (.d (eFanSide p3)), .box (.d (eApiPair y143)), .box (.d (eApiPair y163)), .row 9 (List.map eForestOp p4) true, .row 5 (List.map eApiLock p5) true]) 2 (Nat.le_of_ble_eq_true rfl) rfl rfl rfl rfl) (wc [0, 1, 2, 3, 4, 5, 6, 7, 9, 10, 11] [0, 1, 2, 3, 4, 5, 6, 7, 9, 4, 5] (by kernel_rfl) rfl (by kernel_rfl))))))
    ·rintro ⟨y179, y180⟩ h0
     obtain ⟨_, hq188, h0⟩ := ob h0
     refine sq (sr (s1 (lod (v := .d (eFanSide p3)) rfl (ld_box ts91 ta91 rfl rfl)) (c0 (fan_side_there_ok p3 _ hq188) wf rfl rfl rfl cb30 rfl (fun _ => rfl) (fun _ => rfl) (s1 (nt rfl) (sn (cB h0 rfl (fun h0 => ?_) (fun h0 => ?_)))))))
     ·have q := si h0; subst q
      exact SC.ret (finR (Wk.trans (wq (e' := []) rfl) (Wk.trans (Wk.move (e' := []) (os := [.box (.agg [.slc 9 9 0 y179.length none, .slc 10 5 0 y180.length none, .slc 11 4 0 p6.length none]), .dead, .dead, .row 4 (List.map eFanProbe p6) true, .box (.ref 0 0 0), .box (.d (eApiIndex p1)), .box (.d (eFanSide p2)), .box (.d (eFanSide p3)), .box (.d (eApiPair y163)), .row 9 (List.map eForestOp y179) true, .row 5 (List.map eApiLock y180) true]) (o := .row 4 (List.map eFanProbe p6) true) (σ' := [.box (.agg [.slc 9 9 0 y179.length none, .slc 10 5 0 y180.length none, .slc 11 4 0 p6.length none]), .dead, .dead, .dead, .box (.ref 0 0 0), .box (.d (eApiIndex p1)), .box (.d (eFanSide p2)), .box (.d (eFanSide p3)), .box (.d (eApiPair y163)), .row 9 (List.map eForestOp y179) true, .row 5 (List.map eApiLock y180) true, .row 4 (List.map eFanProbe p6) true]) 3 (Nat.le_of_ble_eq_true rfl) rfl rfl rfl rfl) (wc (e' := []) [0, 1, 2, 3, 9, 10, 11] [0, 1, 2, 3] (by kernel_rfl) rfl (by kernel_rfl)))) lresN rfl)
     ·obtain ⟨r190, hq189, h0⟩ := ob h0
      refine sk (sr (sm rfl (s1 (far (k := 0) rfl fo145_0 ts9 rfl) (s1 (lod rfl (ld_box ts9 ta9 rfl rfl)) (s1 (far (k := 1) rfl fo145_1 ts9 rfl) (s1 (lod rfl (ld_box ts9 ta9 rfl rfl)) (s1 (bld rfl (bd63_1_2_4 (1 : Int) y163.Key y163.Val)) (cq [4, 5, 0, 9, 10, 3] [11, 12] (fan_Work_index_1_1_ok (ApiMsg.mk (0 : UInt64) (1 : Int) y163.Key (0 : UInt64) y163.Val (0 : Int) (0 : UInt64)) p1 y179 y180 p6 _ hq189) wf rfl rfl rfl cb70 rfl rfl rfl rfl rfl rfl rfl rfl (sn ?_)))))))))
      refine SC.seqP h0 (fun y => ⟨mk 131 [(5, .ref 4 0 0), (7, .ref 5 0 0), (13, .d (eS y161)), (102, .d (eB y))], [.box (.agg [.slc 6 9 0 ((y179 ++ [(ForestOp.mk (1 : Int) p1.Tree (ApiMsg.mk (0 : UInt64) (1 : Int) y163.Key (0 : UInt64) y163.Val (0 : Int) (0 : UInt64)))]).length) none, .slc 7 5 0 r190.length none, .slc 3 4 0 p6.length none]), .dead, .dead, .row 4 (List.map eFanProbe p6) true, .box (.ref 0 0 0), .box (.d (eApiIndex p1)), .row 9 (List.map eForestOp (y179 ++ [(ForestOp.mk (1 : Int) p1.Tree (ApiMsg.mk (0 : UInt64) (1 : Int) y163.Key (0 : UInt64) y163.Val (0 : Int) (0 : UInt64)))])) true, .row 5 (List.map eApiLock r190) true]⟩) ?_ ?_
      ·intro u1_193 h1
       refine SC.region (s1 (far (k := 4) rfl fo82_4 ts4 rfl) (s1 (lod rfl (ld_box ts4 ta4 rfl rfl)) (sm rfl (sp h1 (fun h1 => ?_) (fun h1 => ?_)))))
       ·refine gw rfl (far (k := 3) rfl fo82_3 ts4 rfl) (gw rfl (lod rfl (ld_box ts4 ta4 rfl rfl)) (s1 (pkt rfl rfl) (sm rfl (sp h1 (fun h1 => ?_) (fun h1 => ?_)))))
        ·refine gw rfl (mv rfl) (gw rfl (nt rfl) (s1 (pkt rfl rfl) (sm rfl (sp h1 (fun h1 => ?_) (fun h1 => ?_)))))
         ·obtain ⟨_, hq194, h1⟩ := ob h1
          refine gw rfl (lod (v := .d (eFanSide p2)) rfl (ld_box ts91 ta91 rfl rfl)) (c0 (fan_side_there_ok p2 _ hq194) (ww rfl) rfl rfl rfl cb30 rfl (fun _ => rfl) (fun _ => rfl) (gw rfl (mv rfl) (sp h1 (fun h1 => ?_) (fun h1 => ?_))))
          ·have q := si h1; subst q
           exact gw rfl (mv rfl) (gw rfl (mv rfl) (gw rfl (bi rfl rfl q_str_eql) (gw rfl (pkt rfl rfl) (gw rfl (nt rfl) (s1 (pkt rfl rfl) (SO.nil ((wc [0, 1, 2, 3, 4, 5, 11, 12] [0, 1, 2, 3, 4, 5] (by kernel_rfl) rfl (by kernel_rfl)))))))))
          ·have q := si h1; subst q
           exact kw rfl (kw rfl (kw rfl (gw rfl (pkf rfl rfl) (gw rfl (uo (v := .d (eB true)) rfl rfl rfl) (s1 (pkt rfl rfl) (SO.nil ((wc [0, 1, 2, 3, 4, 5, 11, 12] [0, 1, 2, 3, 4, 5] (by kernel_rfl) rfl (by kernel_rfl)))))))))
         ·have q := si h1; subst q
          refine kw rfl (kw rfl (kw rfl (kw rfl (kw rfl (kw rfl (kw rfl (kw rfl (s1 (pkf rfl rfl) (SO.nil ?_)))))))))
          exact (wc [0, 1, 2, 3, 4, 5, 11, 12] [0, 1, 2, 3, 4, 5] (by kernel_rfl) rfl (by kernel_rfl))
        ·have q := si h1; subst q
         refine kw rfl (kw rfl (s1 (pkf rfl rfl) (sm rfl (kw rfl (kw rfl (kw rfl (kw rfl (kw rfl (kw rfl ?_)))))))))
         exact kw rfl (kw rfl (s1 (pkf rfl rfl) (SO.nil ((wc [0, 1, 2, 3, 4, 5, 11, 12] [0, 1, 2, 3, 4, 5] (by kernel_rfl) rfl (by kernel_rfl))))))
       ·have q := si h1; subst q
        refine kw rfl (kw rfl (s1 (pkf rfl rfl) (sm rfl (kw rfl (kw rfl (s1 (pkf rfl rfl) (sm rfl (kw rfl (kw rfl ?_)))))))))
        exact kw rfl (kw rfl (kw rfl (kw rfl (kw rfl (kw rfl (s1 (pkf rfl rfl) (SO.nil ((wc [0, 1, 2, 3, 4, 5, 11, 12] [0, 1, 2, 3, 4, 5] (by kernel_rfl) rfl (by kernel_rfl))))))))))
      ·rintro y192 h0
       refine cB h0 rfl (fun h0 => ?_) (fun h0 => ?_)
       ·obtain ⟨r196, hq195, h0⟩ := ob h0; obtain ⟨hg197, h0⟩ := gd h0; obtain ⟨hg198, h0⟩ := gd h0; have q := si h0; subst q
        refine sr (sm rfl (cq [] [8] (key_Under_ok y161 _ hq195) wf rfl rfl rfl cb71 rfl rfl rfl rfl rfl rfl rfl rfl (s1 (alo (k := 9) zo31 rfl) (s0 (sto rfl rfl (sB (d' := .d (eApiSpan r196)) ts31 rfl rfl rfl rfl rfl rfl rfl)) (sn (sd (by kernel_rfl) (t1 ([4], false) (lod rfl (ld_box ts135 ta135 rfl rfl)) rfl (t1 ([4], false) (lod rfl (ld_box ts135 ta135 rfl rfl)) rfl (t1 ([], false) (nkr rfl) rfl ?_)))))))))
        refine t1 ([], false) (far (k := 1) rfl fo40_1 ts37 rfl) rfl (t1 ([0], false) (lod rfl (ld_box ts37 ta37 rfl rfl)) rfl (t1 ([], false) (far (k := 5) rfl fo82_5 ts3 rfl) rfl (t1 ([5], false) (lod rfl (ld_box ts3 ta3 rfl rfl)) rfl (t1 ([9], false) (lod (v := .d (eApiSpan r196)) rfl (ld_box ts31 ta31 rfl rfl)) rfl (t1 ([], false) (bld rfl (bd137_0_1 p1.Tree r196)) rfl (t1 ([10], true) (bsn (k := 10) (ds := List.map eApiLock [(ApiLock.mk p1.Tree r196 false)]) (off := 0) (l' := [(ApiLock.mk p1.Tree r196 false)].length) rfl un37 ei137 rfl rfl (by rfl) rfl rfl rfl) rfl (t1 ([7, 10, 11], true) (app rfl rfl rfl rfl bc37 (aF (f := eApiLock) (xs := r190) (k := 11) rfl un37 ei137 rfl (el_full (xs := [(ApiLock.mk p1.Tree r196 false)]) rfl) hg197 rfl)) rfl (t1 ([], false) (nkr rfl) rfl (t1 ([], false) (far (k := 1) rfl fo40_1 ts37 rfl) rfl ?_)))))))))
        refine t0 ([0, 11], true) (sto rfl rfl (sB (d' := .agg [.slc 6 9 0 ((y179 ++ [(ForestOp.mk (1 : Int) p1.Tree (ApiMsg.mk (0 : UInt64) (1 : Int) y163.Key (0 : UInt64) y163.Val (0 : Int) (0 : UInt64)))]).length) none, .slc 11 5 0 ((r190 ++ [(ApiLock.mk p1.Tree r196 false)]).length) none, .slc 3 4 0 p6.length none]) ts37 rfl rfl rfl rfl rfl rfl rfl)) rfl (tn (by decide +kernel) (SC.draws (by kernel_rfl) (t1 ([4], false) (lod rfl (ld_box ts135 ta135 rfl rfl)) rfl (t1 ([4], false) (lod rfl (ld_box ts135 ta135 rfl rfl)) rfl (t1 ([], false) (nkr rfl) rfl (t1 ([], false) (far (k := 2) rfl fo40_2 ts38 rfl) rfl (t1 ([0], false) (lod rfl (ld_box ts38 ta38 rfl rfl)) rfl (t1 ([], false) (far (k := 5) rfl fo82_5 ts3 rfl) rfl (t1 ([5], false) (lod rfl (ld_box ts3 ta3 rfl rfl)) rfl ?_)))))))))
        refine t1 ([9], false) (lod (v := .d (eApiSpan r196)) rfl (ld_box ts31 ta31 rfl rfl)) rfl (t1 ([], false) (bld rfl (bd110_0_1 p1.Tree r196)) rfl (t1 ([12], true) (bsn (k := 12) (ds := List.map eFanProbe [(FanProbe.mk p1.Tree r196)]) (off := 0) (l' := [(FanProbe.mk p1.Tree r196)].length) rfl un38 ei110 rfl rfl (by rfl) rfl rfl rfl) rfl (t1 ([3, 12, 13], true) (app rfl rfl rfl rfl bc38 (aF (f := eFanProbe) (xs := p6) (k := 13) rfl un38 ei110 rfl (el_full (xs := [(FanProbe.mk p1.Tree r196)]) rfl) hg198 rfl)) rfl (t1 ([], false) (nkr rfl) rfl (t1 ([], false) (far (k := 2) rfl fo40_2 ts38 rfl) rfl (t0 ([0, 13], true) (sto rfl rfl (sB (d' := .agg [.slc 6 9 0 ((y179 ++ [(ForestOp.mk (1 : Int) p1.Tree (ApiMsg.mk (0 : UInt64) (1 : Int) y163.Key (0 : UInt64) y163.Val (0 : Int) (0 : UInt64)))]).length) none, .slc 11 5 0 ((r190 ++ [(ApiLock.mk p1.Tree r196 false)]).length) none, .slc 13 4 0 ((p6 ++ [(FanProbe.mk p1.Tree r196)]).length) none]) ts38 rfl rfl rfl rfl rfl rfl rfl)) rfl (ST.nil (And.intro (by decide +kernel) ?_))))))))
        exact finN (Wk.trans (wq (e' := []) rfl) (wc (e' := []) [0, 1, 2, 3, 6, 11, 13] [0, 1, 2, 3] (by kernel_rfl) rfl (by kernel_rfl))) lresN rfl
       ·have q := si h0; subst q
        exact SC.skip (finN (Wk.trans (wq (e' := []) rfl) (Wk.trans (Wk.move (e' := []) (os := [.box (.agg [.slc 6 9 0 ((y179 ++ [(ForestOp.mk (1 : Int) p1.Tree (ApiMsg.mk (0 : UInt64) (1 : Int) y163.Key (0 : UInt64) y163.Val (0 : Int) (0 : UInt64)))]).length) none, .slc 7 5 0 r190.length none, .slc 8 4 0 p6.length none]), .dead, .dead, .row 4 (List.map eFanProbe p6) true, .box (.ref 0 0 0), .box (.d (eApiIndex p1)), .row 9 (List.map eForestOp (y179 ++ [(ForestOp.mk (1 : Int) p1.Tree (ApiMsg.mk (0 : UInt64) (1 : Int) y163.Key (0 : UInt64) y163.Val (0 : Int) (0 : UInt64)))])) true, .row 5 (List.map eApiLock r190) true]) (o := .row 4 (List.map eFanProbe p6) true) (σ' := [.box (.agg [.slc 6 9 0 ((y179 ++ [(ForestOp.mk (1 : Int) p1.Tree (ApiMsg.mk (0 : UInt64) (1 : Int) y163.Key (0 : UInt64) y163.Val (0 : Int) (0 : UInt64)))]).length) none, .slc 7 5 0 r190.length none, .slc 8 4 0 p6.length none]), .dead, .dead, .dead, .box (.ref 0 0 0), .box (.d (eApiIndex p1)), .row 9 (List.map eForestOp (y179 ++ [(ForestOp.mk (1 : Int) p1.Tree (ApiMsg.mk (0 : UInt64) (1 : Int) y163.Key (0 : UInt64) y163.Val (0 : Int) (0 : UInt64)))])) true, .row 5 (List.map eApiLock r190) true, .row 4 (List.map eFanProbe p6) true]) 3 (Nat.le_of_ble_eq_true rfl) rfl rfl rfl rfl) (wc (e' := []) [0, 1, 2, 3, 6, 7, 8] [0, 1, 2, 3] (by kernel_rfl) rfl (by kernel_rfl)))) lresN rfl)
noncomputable def fan_Change (p0 : ApiTable) (p1 : List FanBuilt) (p2 : List ApiValue) (p3 : List ApiValue) : Option (Int × (List ForestOp) × (List ApiLock) × (List FanProbe)) :=
 Option.bind (α := Bool)
 (bif ((p1.length : Int) != (p0.Indexes.length : Int)) then
 some true
 else
 bif ((p2.length : Int) == (0 : Int)) then
 some ((p3.length : Int) == (0 : Int))
 else
 some false)
 fun y443 =>
 bif y443 then
 some ((1 : Int), ([] : List ForestOp), ([] : List ApiLock), ([] : List FanProbe))
 else
 Option.bind (fan_read p0 p2) fun (r446, r447) =>
 bif (r446 != (0 : Int)) then
 some (r446, ([] : List ForestOp), ([] : List ApiLock), ([] : List FanProbe))
 else
 Option.bind (fan_read p0 p3) fun (r449, r450) =>
 bif (r449 != (0 : Int)) then
 some (r449, ([] : List ForestOp), ([] : List ApiLock), ([] : List FanProbe))
 else
 bindE (Y := (List UInt8)) (E := Int × (List ForestOp) × (List ApiLock) × (List FanProbe))
 (Option.bind (fan_side_there r450) fun _ =>
 bif (!(decide ((r450.row.length : Int) > (0 : Int)))) then
 some (Sum.inl r447.primary)
 else
 Option.bind (α := Bool)
 (Option.bind (fan_side_there r447) fun _ =>
 bif (decide ((r447.row.length : Int) > (0 : Int))) then
 some (r447.primary != r450.primary)
 else
 some false)
 fun y460 =>
 bif y460 then
 some (Sum.inr ((1 : Int), ([] : List ForestOp), ([] : List ApiLock), ([] : List FanProbe)))
 else
 some (Sum.inl r450.primary))
 (fun y456 =>
 Option.bind (fan_Work_own p0.Tree y456) fun _ =>
 Option.bind (slices_Equal_api_Value_api_Value p2 p3) fun r465 =>
 bif r465 then
 some ((0 : Int), ([] : List ForestOp), [(ApiLock.mk p0.Tree (ApiSpan.mk y456 (y456 ++ ([0] : List UInt8)) false) true)], ([] : List FanProbe))
 else
 bindE (Y := (List ForestOp)) (E := Int × (List ForestOp) × (List ApiLock) × (List FanProbe))
 (Option.bind (fan_side_there r450) fun _ =>
 bif (decide ((r450.row.length : Int) > (0 : Int))) then
 Option.bind (row_Encode p0.Cols p3) fun (r476, r477) =>
 bif (r477 != (0 : Int)) then
 some (Sum.inr (r477, ([] : List ForestOp), ([] : List ApiLock), ([] : List FanProbe)))
 else
 Option.bind (fan_Work_do p0.Tree (ApiMsg.mk (0 : UInt64) (1 : Int) y456 (0 : UInt64) r476 (0 : Int) (0 : UInt64)) [(ApiLock.mk p0.Tree (ApiSpan.mk y456 (y456 ++ ([0] : List UInt8)) false) true)]) fun _ =>
 some (Sum.inl [(ForestOp.mk (1 : Int) p0.Tree (ApiMsg.mk (0 : UInt64) (1 : Int) y456 (0 : UInt64) r476 (0 : Int) (0 : UInt64)))])
 else
 Option.bind (fan_Work_do p0.Tree (ApiMsg.mk (0 : UInt64) (2 : Int) y456 (0 : UInt64) ([] : List UInt8) (0 : Int) (0 : UInt64)) [(ApiLock.mk p0.Tree (ApiSpan.mk y456 (y456 ++ ([0] : List UInt8)) false) true)]) fun _ =>
 some (Sum.inl [(ForestOp.mk (1 : Int) p0.Tree (ApiMsg.mk (0 : UInt64) (2 : Int) y456 (0 : UInt64) ([] : List UInt8) (0 : Int) (0 : UInt64)))]))
 (fun y472 =>
 Option.bind (α := (List ForestOp) × (List ApiLock) × (List FanProbe))
 (Option.bind (α := (List ForestOp) × (List ApiLock) × (List FanProbe))
 (loop (Y := Int × (List ForestOp) × (List ApiLock) × (List FanProbe)) (W := (List ForestOp) × (List ApiLock) × (List FanProbe)) (fun (y599, y600, y601, y602) =>
 bif (decide (y599 < (p0.Indexes.length : Int))) then
 Option.bind (α := (List ForestOp) × (List ApiLock) × (List FanProbe))
 (Option.bind (getI p0.Indexes y599) fun v650 =>
 Option.bind (α := Bool)
 (bif v650.Ready then
 some true
 else
 Option.bind (getI p1 y599) fun v655 =>
 bif v655.Any then
 Option.bind (getI p1 y599) fun v656 =>
 some (ltS y456 v656.Key || y456 == v656.Key)
 else
 some false)
 fun y653 =>
 bif y653 then
 Option.bind (fan_Work_index_2 p0 v650 r447 r450 y600 y601 y602) fun (r658, r659, r660) =>
 some (r658, r659, r660)
 else
 some (y600, y601, y602))
 fun (y646, y647, y648) =>
 some (Sum.inl ((w64 (y599 + (1 : Int))), y646, y647, y648))
 else
 some (Sum.inr (y600, y601, y602))) ((0 : Int), y472, [(ApiLock.mk p0.Tree (ApiSpan.mk y456 (y456 ++ ([0] : List UInt8)) false) true)], ([] : List FanProbe)))
 (fun e => some e))
 fun (y569, y570, y571) =>
 some ((0 : Int), y569, y570, y571))
 (fun e => some e))
 (fun e => some e)
theorem fan_Change_ok (p0 : ApiTable) (p1 : List FanBuilt) (p2 : List ApiValue) (p3 : List ApiValue) (r : Int × (List ForestOp) × (List ApiLock) × (List FanProbe)) (h0 : fan_Change p0 p1 p2 p3 = some r) : CallAt Tryz.prog 10 [.d (eApiTable p0), .d ((eL 2 eFanBuilt) p1), .d ((eL 3 eApiValue) p2), .d ((eL 3 eApiValue) p3)] [] (.tuple [.agg [.slc 1 9 0 r.2.1.length none, .slc 2 5 0 r.2.2.1.length none, .slc 3 4 0 r.2.2.2.length none], .d (eI r.1)]) [.box (.agg [.slc 1 9 0 r.2.1.length none, .slc 2 5 0 r.2.2.1.length none, .slc 3 4 0 r.2.2.2.length none]), .row 9 (List.map eForestOp r.2.1) true, .row 5 (List.map eApiLock r.2.2.1) true, .row 4 (List.map eFanProbe r.2.2.2) true] := by
 unfold fan_Change at h0
 refine fn0 [0, 1, 2, 3] Tryz.func10 rfl rfl rfl rfl rfl ?_
 refine sr (s1 (bxo (k := 0) rfl rfl rfl) (s1 (alo (k := 1) zo40 rfl) (sa rfl (sn (sq (SC.seqP h0 (fun y => ⟨mk 139 [(1, .d ((eL 2 eFanBuilt) p1)), (2, .d ((eL 3 eApiValue) p2)), (3, .d ((eL 3 eApiValue) p3)), (4, .ref 0 0 0), (8, .ref 1 0 0), (34, .d (eB y))], [.box (.d (eApiTable p0)), .box (.d (.agg [.nils, .nils, .nils]))]⟩) ?_ ?_))))))
 ·intro u1_444 h1
  refine SC.region (sm rfl (s1 (len rfl rfl rfl (len_lst un27)) (s1 (far (k := 3) rfl fo26_3 ts24 rfl) (s1 (lod rfl (ld_box ts24 ta24 rfl rfl)) (s1 (len rfl rfl rfl (len_lst un24)) (s1 (bi rfl rfl q_i64_neq) (sm rfl (sp h1 (fun h1 => ?_) (fun h1 => ?_)))))))))
  ·have q := si h1; subst q
   refine kw rfl (kw rfl (kw rfl (kw rfl (kw rfl (kw rfl (kw rfl (kw rfl (s1 (pkt rfl rfl) (SO.nil ?_)))))))))
   exact (wq rfl)
  ·refine gw rfl (mv rfl) (gw rfl (len rfl rfl rfl (len_lst un28)) (gw rfl (bi rfl rfl q_i64_eql) (gw rfl (mv rfl) (sp h1 (fun h1 => ?_) (fun h1 => ?_)))))
   ·have q := si h1; subst q
    exact gw rfl (mv rfl) (gw rfl (len rfl rfl rfl (len_lst un28)) (gw rfl (bi rfl rfl q_i64_eql) (gw rfl (pkt rfl rfl) (s1 (pkf rfl rfl) (SO.nil ((wq rfl)))))))
   ·have q := si h1; subst q
    exact kw rfl (kw rfl (kw rfl (gw rfl (pkf rfl rfl) (s1 (pkf rfl rfl) (SO.nil ((wq rfl)))))))
 ·rintro y443 h0
  refine cB h0 rfl (fun h0 => ?_) (fun h0 => ?_)
  ·have q := si h0; subst q
   exact sr (s1 (bld rfl (bd40_ )) (s0 (sto rfl rfl (sB (d' := .d (.agg [.nils, .nils, .nils])) ts40 rfl rfl rfl rfl rfl rfl rfl)) (sa rfl (sn (SC.ret (finR (Wk.trans (Wk.pushE (σ' := [.box (.d (eApiTable p0)), .box (.d (.agg [.nils, .nils, .nils])), .row 9 (List.map eForestOp ([] : List ForestOp)) true]) (.row 9 [] true) (fun _ hh => by cases hh) rfl) (Wk.trans (Wk.boxE (id := 1) (y := .agg [.slc 2 9 0 (([] : List ForestOp).length) none, .d .nils, .d .nils]) (σ' := [.box (.d (eApiTable p0)), .box (.agg [.slc 2 9 0 (([] : List ForestOp).length) none, .d .nils, .d .nils]), .row 9 (List.map eForestOp ([] : List ForestOp)) true]) rfl (AWs.cons (AW.slcn _ _ _) (AWs.cons (AW.refl _) (AWs.cons (AW.refl _) AWs.nil))) rfl) (Wk.trans (Wk.pushE (σ' := [.box (.d (eApiTable p0)), .box (.agg [.slc 2 9 0 (([] : List ForestOp).length) none, .d .nils, .d .nils]), .row 9 (List.map eForestOp ([] : List ForestOp)) true, .row 5 (List.map eApiLock ([] : List ApiLock)) true]) (.row 5 [] true) (fun _ hh => by cases hh) rfl) (Wk.trans (Wk.boxE (id := 1) (y := .agg [.slc 2 9 0 (([] : List ForestOp).length) none, .slc 3 5 0 (([] : List ApiLock).length) none, .d .nils]) (σ' := [.box (.d (eApiTable p0)), .box (.agg [.slc 2 9 0 (([] : List ForestOp).length) none, .slc 3 5 0 (([] : List ApiLock).length) none, .d .nils]), .row 9 (List.map eForestOp ([] : List ForestOp)) true, .row 5 (List.map eApiLock ([] : List ApiLock)) true]) rfl (AWs.cons (AW.refl _) (AWs.cons (AW.slcn _ _ _) (AWs.cons (AW.refl _) AWs.nil))) rfl) (Wk.trans (Wk.pushE (σ' := [.box (.d (eApiTable p0)), .box (.agg [.slc 2 9 0 (([] : List ForestOp).length) none, .slc 3 5 0 (([] : List ApiLock).length) none, .d .nils]), .row 9 (List.map eForestOp ([] : List ForestOp)) true, .row 5 (List.map eApiLock ([] : List ApiLock)) true, .row 4 (List.map eFanProbe ([] : List FanProbe)) true]) (.row 4 [] true) (fun _ hh => by cases hh) rfl) (Wk.trans (Wk.boxE (id := 1) (y := .agg [.slc 2 9 0 (([] : List ForestOp).length) none, .slc 3 5 0 (([] : List ApiLock).length) none, .slc 4 4 0 (([] : List FanProbe).length) none]) (σ' := [.box (.d (eApiTable p0)), .box (.agg [.slc 2 9 0 (([] : List ForestOp).length) none, .slc 3 5 0 (([] : List ApiLock).length) none, .slc 4 4 0 (([] : List FanProbe).length) none]), .row 9 (List.map eForestOp ([] : List ForestOp)) true, .row 5 (List.map eApiLock ([] : List ApiLock)) true, .row 4 (List.map eFanProbe ([] : List FanProbe)) true]) rfl (AWs.cons (AW.refl _) (AWs.cons (AW.refl _) (AWs.cons (AW.slcn _ _ _) AWs.nil))) rfl) (wc (e' := [(8, .ref 0 0 0), (9, .d (eI (1 : Int)))]) [1, 2, 3, 4] [1] (by kernel_rfl) rfl (by kernel_rfl)))))))) (lresC rfl (ld_box ts40 ta40 rfl rfl) (lresT rfl lresN)) rfl))))))
  ·obtain ⟨⟨r446, r447⟩, hq445, h0⟩ := ob h0
   refine sk (sr (s1 (lod (v := .d (eApiTable p0)) rfl (ld_box ts26 ta26 rfl rfl)) (sm rfl (cq [] [2] (fan_read_ok p0 p2 _ hq445) wf rfl rfl rfl cb29 rfl rfl rfl rfl rfl rfl rfl rfl (sm rfl (s1 (ext rfl rfl) (s1 (ext rfl rfl) (s1 (alo (k := 3) zo91 rfl) (s0 (sto rfl rfl (sB (d' := .d (eFanSide r447)) ts91 rfl rfl rfl rfl rfl rfl rfl)) ?_)))))))))
   refine sa rfl (sn (sq (sr (sm rfl (s1 (bi rfl rfl q_i64_neq) (sn (cB h0 rfl (fun h0 => ?_) (fun h0 => ?_))))))))
   ·have q := si h0; subst q
    exact sr (s1 (bld rfl (bd40_ )) (sm rfl (s0 (sto rfl rfl (sB (d' := .d (.agg [.nils, .nils, .nils])) ts40 rfl rfl rfl rfl rfl rfl rfl)) (sa rfl (sn (SC.ret (finR (Wk.trans (Wk.pushE (σ' := [.box (.d (eApiTable p0)), .box (.d (.agg [.nils, .nils, .nils])), .box (.d (eFanSide r447)), .box (.d (eFanSide r447)), .row 9 (List.map eForestOp ([] : List ForestOp)) true]) (.row 9 [] true) (fun _ hh => by cases hh) rfl) (Wk.trans (Wk.boxE (id := 1) (y := .agg [.slc 4 9 0 (([] : List ForestOp).length) none, .d .nils, .d .nils]) (σ' := [.box (.d (eApiTable p0)), .box (.agg [.slc 4 9 0 (([] : List ForestOp).length) none, .d .nils, .d .nils]), .box (.d (eFanSide r447)), .box (.d (eFanSide r447)), .row 9 (List.map eForestOp ([] : List ForestOp)) true]) rfl (AWs.cons (AW.slcn _ _ _) (AWs.cons (AW.refl _) (AWs.cons (AW.refl _) AWs.nil))) rfl) (Wk.trans (Wk.pushE (σ' := [.box (.d (eApiTable p0)), .box (.agg [.slc 4 9 0 (([] : List ForestOp).length) none, .d .nils, .d .nils]), .box (.d (eFanSide r447)), .box (.d (eFanSide r447)), .row 9 (List.map eForestOp ([] : List ForestOp)) true, .row 5 (List.map eApiLock ([] : List ApiLock)) true]) (.row 5 [] true) (fun _ hh => by cases hh) rfl) (Wk.trans (Wk.boxE (id := 1) (y := .agg [.slc 4 9 0 (([] : List ForestOp).length) none, .slc 5 5 0 (([] : List ApiLock).length) none, .d .nils]) (σ' := [.box (.d (eApiTable p0)), .box (.agg [.slc 4 9 0 (([] : List ForestOp).length) none, .slc 5 5 0 (([] : List ApiLock).length) none, .d .nils]), .box (.d (eFanSide r447)), .box (.d (eFanSide r447)), .row 9 (List.map eForestOp ([] : List ForestOp)) true, .row 5 (List.map eApiLock ([] : List ApiLock)) true]) rfl (AWs.cons (AW.refl _) (AWs.cons (AW.slcn _ _ _) (AWs.cons (AW.refl _) AWs.nil))) rfl) (Wk.trans (Wk.pushE (σ' := [.box (.d (eApiTable p0)), .box (.agg [.slc 4 9 0 (([] : List ForestOp).length) none, .slc 5 5 0 (([] : List ApiLock).length) none, .d .nils]), .box (.d (eFanSide r447)), .box (.d (eFanSide r447)), .row 9 (List.map eForestOp ([] : List ForestOp)) true, .row 5 (List.map eApiLock ([] : List ApiLock)) true, .row 4 (List.map eFanProbe ([] : List FanProbe)) true]) (.row 4 [] true) (fun _ hh => by cases hh) rfl) (Wk.trans (Wk.boxE (id := 1) (y := .agg [.slc 4 9 0 (([] : List ForestOp).length) none, .slc 5 5 0 (([] : List ApiLock).length) none, .slc 6 4 0 (([] : List FanProbe).length) none]) (σ' := [.box (.d (eApiTable p0)), .box (.agg [.slc 4 9 0 (([] : List ForestOp).length) none, .slc 5 5 0 (([] : List ApiLock).length) none, .slc 6 4 0 (([] : List FanProbe).length) none]), .box (.d (eFanSide r447)), .box (.d (eFanSide r447)), .row 9 (List.map eForestOp ([] : List ForestOp)) true, .row 5 (List.map eApiLock ([] : List ApiLock)) true, .row 4 (List.map eFanProbe ([] : List FanProbe)) true]) rfl (AWs.cons (AW.refl _) (AWs.cons (AW.refl _) (AWs.cons (AW.slcn _ _ _) AWs.nil))) rfl) (wc (e' := [(8, .ref 0 0 0), (9, .d (eI r446))]) [1, 4, 5, 6] [1] (by kernel_rfl) rfl (by kernel_rfl)))))))) (lresC rfl (ld_box ts40 ta40 rfl rfl) (lresT rfl lresN)) rfl)))))))
   ·obtain ⟨⟨r449, r450⟩, hq448, h0⟩ := ob h0
    refine sk (sr (s1 (lod (v := .d (eApiTable p0)) rfl (ld_box ts26 ta26 rfl rfl)) (sm rfl (cq [] [4] (fan_read_ok p0 p3 _ hq448) wf rfl rfl rfl cb29 rfl rfl rfl rfl rfl rfl rfl rfl (sm rfl (s1 (ext rfl rfl) (s1 (ext rfl rfl) (s1 (alo (k := 5) zo91 rfl) (s0 (sto rfl rfl (sB (d' := .d (eFanSide r450)) ts91 rfl rfl rfl rfl rfl rfl rfl)) ?_)))))))))
    refine sa rfl (sn (sq (sr (sm rfl (s1 (bi rfl rfl q_i64_neq) (sn (cB h0 rfl (fun h0 => ?_) (fun h0 => ?_))))))))
    ·have q := si h0; subst q
     exact sr (s1 (bld rfl (bd40_ )) (sm rfl (s0 (sto rfl rfl (sB (d' := .d (.agg [.nils, .nils, .nils])) ts40 rfl rfl rfl rfl rfl rfl rfl)) (sa rfl (sn (SC.ret (finR (Wk.trans (Wk.pushE (σ' := [.box (.d (eApiTable p0)), .box (.d (.agg [.nils, .nils, .nils])), .box (.d (eFanSide r447)), .box (.d (eFanSide r447)), .box (.d (eFanSide r450)), .box (.d (eFanSide r450)), .row 9 (List.map eForestOp ([] : List ForestOp)) true]) (.row 9 [] true) (fun _ hh => by cases hh) rfl) (Wk.trans (Wk.boxE (id := 1) (y := .agg [.slc 6 9 0 (([] : List ForestOp).length) none, .d .nils, .d .nils]) (σ' := [.box (.d (eApiTable p0)), .box (.agg [.slc 6 9 0 (([] : List ForestOp).length) none, .d .nils, .d .nils]), .box (.d (eFanSide r447)), .box (.d (eFanSide r447)), .box (.d (eFanSide r450)), .box (.d (eFanSide r450)), .row 9 (List.map eForestOp ([] : List ForestOp)) true]) rfl (AWs.cons (AW.slcn _ _ _) (AWs.cons (AW.refl _) (AWs.cons (AW.refl _) AWs.nil))) rfl) (Wk.trans (Wk.pushE (σ' := [.box (.d (eApiTable p0)), .box (.agg [.slc 6 9 0 (([] : List ForestOp).length) none, .d .nils, .d .nils]), .box (.d (eFanSide r447)), .box (.d (eFanSide r447)), .box (.d (eFanSide r450)), .box (.d (eFanSide r450)), .row 9 (List.map eForestOp ([] : List ForestOp)) true, .row 5 (List.map eApiLock ([] : List ApiLock)) true]) (.row 5 [] true) (fun _ hh => by cases hh) rfl) (Wk.trans (Wk.boxE (id := 1) (y := .agg [.slc 6 9 0 (([] : List ForestOp).length) none, .slc 7 5 0 (([] : List ApiLock).length) none, .d .nils]) (σ' := [.box (.d (eApiTable p0)), .box (.agg [.slc 6 9 0 (([] : List ForestOp).length) none, .slc 7 5 0 (([] : List ApiLock).length) none, .d .nils]), .box (.d (eFanSide r447)), .box (.d (eFanSide r447)), .box (.d (eFanSide r450)), .box (.d (eFanSide r450)), .row 9 (List.map eForestOp ([] : List ForestOp)) true, .row 5 (List.map eApiLock ([] : List ApiLock)) true]) rfl (AWs.cons (AW.refl _) (AWs.cons (AW.slcn _ _ _) (AWs.cons (AW.refl _) AWs.nil))) rfl) (Wk.trans (Wk.pushE (σ' := [.box (.d (eApiTable p0)), .box (.agg [.slc 6 9 0 (([] : List ForestOp).length) none, .slc 7 5 0 (([] : List ApiLock).length) none, .d .nils]), .box (.d (eFanSide r447)), .box (.d (eFanSide r447)), .box (.d (eFanSide r450)), .box (.d (eFanSide r450)), .row 9 (List.map eForestOp ([] : List ForestOp)) true, .row 5 (List.map eApiLock ([] : List ApiLock)) true, .row 4 (List.map eFanProbe ([] : List FanProbe)) true]) (.row 4 [] true) (fun _ hh => by cases hh) rfl) (Wk.trans (Wk.boxE (id := 1) (y := .agg [.slc 6 9 0 (([] : List ForestOp).length) none, .slc 7 5 0 (([] : List ApiLock).length) none, .slc 8 4 0 (([] : List FanProbe).length) none]) (σ' := [.box (.d (eApiTable p0)), .box (.agg [.slc 6 9 0 (([] : List ForestOp).length) none, .slc 7 5 0 (([] : List ApiLock).length) none, .slc 8 4 0 (([] : List FanProbe).length) none]), .box (.d (eFanSide r447)), .box (.d (eFanSide r447)), .box (.d (eFanSide r450)), .box (.d (eFanSide r450)), .row 9 (List.map eForestOp ([] : List ForestOp)) true, .row 5 (List.map eApiLock ([] : List ApiLock)) true, .row 4 (List.map eFanProbe ([] : List FanProbe)) true]) rfl (AWs.cons (AW.refl _) (AWs.cons (AW.refl _) (AWs.cons (AW.slcn _ _ _) AWs.nil))) rfl) (wc (e' := [(8, .ref 0 0 0), (9, .d (eI r449))]) [1, 6, 7, 8] [1] (by kernel_rfl) rfl (by kernel_rfl)))))))) (lresC rfl (ld_box ts40 ta40 rfl rfl) (lresT rfl lresN)) rfl)))))))
    ·refine sk (sr (s1 (far (k := 1) rfl fo91_1 ts9 rfl) (s1 (lod rfl (ld_box ts9 ta9 rfl rfl)) (sa rfl (sn (SC.seqB h0 (fun y => ⟨mk 139 [(1, .d ((eL 2 eFanBuilt) p1)), (2, .d ((eL 3 eApiValue) p2)), (3, .d ((eL 3 eApiValue) p3)), (4, .ref 0 0 0), (8, .ref 1 0 0), (10, .ref 2 0 0), (12, .ref 3 0 0), (13, .d (eS y))], [.box (.d (eApiTable p0)), .box (.d (.agg [.nils, .nils, .nils])), .box (.d (eFanSide r447)), .box (.d (eFanSide r450))]⟩) ?_ ?_))))))
     ·intro u1_457 h1 h0
      obtain ⟨_, hq458, h1⟩ := ob h1
      refine SC.blk (sr (s1 (lod (v := .d (eFanSide r450)) rfl (ld_box ts91 ta91 rfl rfl)) (c0 (fan_side_there_ok r450 _ hq458) wf rfl rfl rfl cb30 rfl (fun _ => rfl) (fun _ => rfl) (s1 (nt rfl) (sa rfl (sn (cB h1 rfl (fun h1 => ?_) (fun h1 => ?_))))))))
      ·have q := si h1; subst q
       exact SC.region (s1 (far (k := 1) rfl fo91_1 ts9 rfl) (s1 (lod rfl (ld_box ts9 ta9 rfl rfl)) (sa rfl (SO.nil (lf (wc [0, 1, 3, 5] [0, 1, 3, 5] (by kernel_rfl) rfl (by kernel_rfl)))))))
      ·refine SC.seqP h1 (fun y => ⟨mk 139 [(1, .d ((eL 2 eFanBuilt) p1)), (2, .d ((eL 3 eApiValue) p2)), (3, .d ((eL 3 eApiValue) p3)), (4, .ref 0 0 0), (8, .ref 1 0 0), (10, .ref 2 0 0), (12, .ref 3 0 0), (13, .d (eS r450.primary)), (64, .d (eB y))], [.box (.d (eApiTable p0)), .box (.d (.agg [.nils, .nils, .nils])), .box (.d (eFanSide r447)), .box (.d (eFanSide r450))]⟩) ?_ ?_
       ·intro u2_461 h2
        obtain ⟨_, hq462, h2⟩ := ob h2
        refine SC.region (s1 (lod (v := .d (eFanSide r447)) rfl (ld_box ts91 ta91 rfl rfl)) (c0 (fan_side_there_ok r447 _ hq462) wf rfl rfl rfl cb30 rfl (fun _ => rfl) (fun _ => rfl) (sm rfl (sp h2 (fun h2 => ?_) (fun h2 => ?_)))))
        ·have q := si h2; subst q
         exact gw rfl (far (k := 1) rfl fo91_1 ts9 rfl) (gw rfl (lod rfl (ld_box ts9 ta9 rfl rfl)) (gw rfl (mv rfl) (gw rfl (bi rfl rfl q_str_neq) (s1 (pkt rfl rfl) (sa rfl (SO.nil ((wc [0, 1, 3, 5] [0, 1, 3, 5] (by kernel_rfl) rfl (by kernel_rfl)))))))))
        ·have q := si h2; subst q
         exact kw rfl (kw rfl (kw rfl (kw rfl (s1 (pkf rfl rfl) (sa rfl (SO.nil ((wc [0, 1, 3, 5] [0, 1, 3, 5] (by kernel_rfl) rfl (by kernel_rfl)))))))))
       ·rintro y460 h1
        refine cB h1 rfl (fun h1 => ?_) (fun h1 => ?_)
        ·have q := si h1; subst q; have q := si h0; subst q
         exact sr (s1 (bld rfl (bd40_ )) (s0 (sto rfl rfl (sB (d' := .d (.agg [.nils, .nils, .nils])) ts40 rfl rfl rfl rfl rfl rfl rfl)) (sa rfl (sn (SC.ret (finR (Wk.trans (Wk.pushE (σ' := [.box (.d (eApiTable p0)), .box (.d (.agg [.nils, .nils, .nils])), .box (.d (eFanSide r447)), .box (.d (eFanSide r450)), .row 9 (List.map eForestOp ([] : List ForestOp)) true]) (.row 9 [] true) (fun _ hh => by cases hh) rfl) (Wk.trans (Wk.boxE (id := 1) (y := .agg [.slc 4 9 0 (([] : List ForestOp).length) none, .d .nils, .d .nils]) (σ' := [.box (.d (eApiTable p0)), .box (.agg [.slc 4 9 0 (([] : List ForestOp).length) none, .d .nils, .d .nils]), .box (.d (eFanSide r447)), .box (.d (eFanSide r450)), .row 9 (List.map eForestOp ([] : List ForestOp)) true]) rfl (AWs.cons (AW.slcn _ _ _) (AWs.cons (AW.refl _) (AWs.cons (AW.refl _) AWs.nil))) rfl) (Wk.trans (Wk.pushE (σ' := [.box (.d (eApiTable p0)), .box (.agg [.slc 4 9 0 (([] : List ForestOp).length) none, .d .nils, .d .nils]), .box (.d (eFanSide r447)), .box (.d (eFanSide r450)), .row 9 (List.map eForestOp ([] : List ForestOp)) true, .row 5 (List.map eApiLock ([] : List ApiLock)) true]) (.row 5 [] true) (fun _ hh => by cases hh) rfl) (Wk.trans (Wk.boxE (id := 1) (y := .agg [.slc 4 9 0 (([] : List ForestOp).length) none, .slc 5 5 0 (([] : List ApiLock).length) none, .d .nils]) (σ' := [.box (.d (eApiTable p0)), .box (.agg [.slc 4 9 0 (([] : List ForestOp).length) none, .slc 5 5 0 (([] : List ApiLock).length) none, .d .nils]), .box (.d (eFanSide r447)), .box (.d (eFanSide r450)), .row 9 (List.map eForestOp ([] : List ForestOp)) true, .row 5 (List.map eApiLock ([] : List ApiLock)) true]) rfl (AWs.cons (AW.refl _) (AWs.cons (AW.slcn _ _ _) (AWs.cons (AW.refl _) AWs.nil))) rfl) (Wk.trans (Wk.pushE (σ' := [.box (.d (eApiTable p0)), .box (.agg [.slc 4 9 0 (([] : List ForestOp).length) none, .slc 5 5 0 (([] : List ApiLock).length) none, .d .nils]), .box (.d (eFanSide r447)), .box (.d (eFanSide r450)), .row 9 (List.map eForestOp ([] : List ForestOp)) true, .row 5 (List.map eApiLock ([] : List ApiLock)) true, .row 4 (List.map eFanProbe ([] : List FanProbe)) true]) (.row 4 [] true) (fun _ hh => by cases hh) rfl) (Wk.trans (Wk.boxE (id := 1) (y := .agg [.slc 4 9 0 (([] : List ForestOp).length) none, .slc 5 5 0 (([] : List ApiLock).length) none, .slc 6 4 0 (([] : List FanProbe).length) none]) (σ' := [.box (.d (eApiTable p0)), .box (.agg [.slc 4 9 0 (([] : List ForestOp).length) none, .slc 5 5 0 (([] : List ApiLock).length) none, .slc 6 4 0 (([] : List FanProbe).length) none]), .box (.d (eFanSide r447)), .box (.d (eFanSide r450)), .row 9 (List.map eForestOp ([] : List ForestOp)) true, .row 5 (List.map eApiLock ([] : List ApiLock)) true, .row 4 (List.map eFanProbe ([] : List FanProbe)) true]) rfl (AWs.cons (AW.refl _) (AWs.cons (AW.refl _) (AWs.cons (AW.slcn _ _ _) AWs.nil))) rfl) (wc (e' := [(8, .ref 0 0 0), (9, .d (eI (1 : Int)))]) [1, 4, 5, 6] [1] (by kernel_rfl) rfl (by kernel_rfl)))))))) (lresC rfl (ld_box ts40 ta40 rfl rfl) (lresT rfl lresN)) rfl))))))
        ·have q := si h1; subst q
         exact SC.skip (lf (wq rfl))
     ·rintro y456 h0
      obtain ⟨_, hq463, h0⟩ := ob h0; obtain ⟨r465, hq464, h0⟩ := ob h0
      refine sr (s1 (alo (k := 4) zo40 rfl) (sn (sr (s1 (far (k := 4) rfl fo26_4 ts3 rfl) (s1 (lod rfl (ld_box ts3 ta3 rfl rfl)) (sm rfl (cq [4] [5] (fan_Work_own_ok p0.Tree y456 _ hq463) wf rfl rfl rfl cb31 rfl rfl rfl rfl rfl rfl rfl rfl (sn (sq ?_)))))))))
      refine sr (sm rfl (sm rfl (c0 (slices_Equal_api_Value_api_Value_ok p2 p3 _ hq464) wf rfl rfl rfl cb32 rfl (fun _ => rfl) (fun _ => rfl) (sn (cB h0 rfl (fun h0 => ?_) (fun h0 => ?_))))))
      ·have q := si h0; subst q
       exact sr (s1 (lod (v := .agg [.d .nils, .slc 5 5 0 ([(ApiLock.mk p0.Tree (ApiSpan.mk y456 (y456 ++ ([0] : List UInt8)) false) true)].length) none, .d .nils]) rfl (ld_box ts40 ta40 rfl rfl)) (s0 (sto rfl rfl (sB (d' := .agg [.d .nils, .slc 5 5 0 ([(ApiLock.mk p0.Tree (ApiSpan.mk y456 (y456 ++ ([0] : List UInt8)) false) true)].length) none, .d .nils]) ts40 rfl rfl rfl rfl rfl rfl rfl)) (sa rfl (sn (SC.ret (finR (Wk.trans (Wk.pushE (σ' := [.box (.d (eApiTable p0)), .box (.agg [.d .nils, .slc 5 5 0 ([(ApiLock.mk p0.Tree (ApiSpan.mk y456 (y456 ++ ([0] : List UInt8)) false) true)].length) none, .d .nils]), .box (.d (eFanSide r447)), .box (.d (eFanSide r450)), .box (.agg [.d .nils, .slc 5 5 0 ([(ApiLock.mk p0.Tree (ApiSpan.mk y456 (y456 ++ ([0] : List UInt8)) false) true)].length) none, .d .nils]), .row 5 (List.map eApiLock [(ApiLock.mk p0.Tree (ApiSpan.mk y456 (y456 ++ ([0] : List UInt8)) false) true)]) true, .row 9 (List.map eForestOp ([] : List ForestOp)) true]) (.row 9 [] true) (fun _ hh => by cases hh) rfl) (Wk.trans (Wk.boxE (id := 1) (y := .agg [.slc 6 9 0 (([] : List ForestOp).length) none, .slc 5 5 0 ([(ApiLock.mk p0.Tree (ApiSpan.mk y456 (y456 ++ ([0] : List UInt8)) false) true)].length) none, .d .nils]) (σ' := [.box (.d (eApiTable p0)), .box (.agg [.slc 6 9 0 (([] : List ForestOp).length) none, .slc 5 5 0 ([(ApiLock.mk p0.Tree (ApiSpan.mk y456 (y456 ++ ([0] : List UInt8)) false) true)].length) none, .d .nils]), .box (.d (eFanSide r447)), .box (.d (eFanSide r450)), .box (.agg [.d .nils, .slc 5 5 0 ([(ApiLock.mk p0.Tree (ApiSpan.mk y456 (y456 ++ ([0] : List UInt8)) false) true)].length) none, .d .nils]), .row 5 (List.map eApiLock [(ApiLock.mk p0.Tree (ApiSpan.mk y456 (y456 ++ ([0] : List UInt8)) false) true)]) true, .row 9 (List.map eForestOp ([] : List ForestOp)) true]) rfl (AWs.cons (AW.slcn _ _ _) (AWs.cons (AW.refl _) (AWs.cons (AW.refl _) AWs.nil))) rfl) (Wk.trans (Wk.pushE (σ' := [.box (.d (eApiTable p0)), .box (.agg [.slc 6 9 0 (([] : List ForestOp).length) none, .slc 5 5 0 ([(ApiLock.mk p0.Tree (ApiSpan.mk y456 (y456 ++ ([0] : List UInt8)) false) true)].length) none, .d .nils]), .box (.d (eFanSide r447)), .box (.d (eFanSide r450)), .box (.agg [.d .nils, .slc 5 5 0 ([(ApiLock.mk p0.Tree (ApiSpan.mk y456 (y456 ++ ([0] : List UInt8)) false) true)].length) none, .d .nils]), .row 5 (List.map eApiLock [(ApiLock.mk p0.Tree (ApiSpan.mk y456 (y456 ++ ([0] : List UInt8)) false) true)]) true, .row 9 (List.map eForestOp ([] : List ForestOp)) true, .row 4 (List.map eFanProbe ([] : List FanProbe)) true]) (.row 4 [] true) (fun _ hh => by cases hh) rfl) (Wk.trans (Wk.boxE (id := 1) (y := .agg [.slc 6 9 0 (([] : List ForestOp).length) none, .slc 5 5 0 ([(ApiLock.mk p0.Tree (ApiSpan.mk y456 (y456 ++ ([0] : List UInt8)) false) true)].length) none, .slc 7 4 0 (([] : List FanProbe).length) none]) (σ' := [.box (.d (eApiTable p0)), .box (.agg [.slc 6 9 0 (([] : List ForestOp).length) none, .slc 5 5 0 ([(ApiLock.mk p0.Tree (ApiSpan.mk y456 (y456 ++ ([0] : List UInt8)) false) true)].length) none, .slc 7 4 0 (([] : List FanProbe).length) none]), .box (.d (eFanSide r447)), .box (.d (eFanSide r450)), .box (.agg [.d .nils, .slc 5 5 0 ([(ApiLock.mk p0.Tree (ApiSpan.mk y456 (y456 ++ ([0] : List UInt8)) false) true)].length) none, .d .nils]), .row 5 (List.map eApiLock [(ApiLock.mk p0.Tree (ApiSpan.mk y456 (y456 ++ ([0] : List UInt8)) false) true)]) true, .row 9 (List.map eForestOp ([] : List ForestOp)) true, .row 4 (List.map eFanProbe ([] : List FanProbe)) true]) rfl (AWs.cons (AW.refl _) (AWs.cons (AW.refl _) (AWs.cons (AW.slcn _ _ _) AWs.nil))) rfl) (wc (e' := [(8, .ref 0 0 0), (9, .d (eI (0 : Int)))]) [1, 6, 5, 7] [1] (by kernel_rfl) rfl (by kernel_rfl)))))) (lresC rfl (ld_box ts40 ta40 rfl rfl) (lresT rfl lresN)) rfl))))))
      ·refine sk (SC.seqB h0 (fun y => ⟨mk 139 [(1, .d ((eL 2 eFanBuilt) p1)), (4, .ref 0 0 0), (8, .ref 1 0 0), (10, .ref 2 0 0), (12, .ref 3 0 0), (13, .d (eS y456)), (14, .ref 4 0 0)], [.box (.d (eApiTable p0)), .box (.d (.agg [.nils, .nils, .nils])), .box (.d (eFanSide r447)), .box (.d (eFanSide r450)), .box (.agg [.slc 5 9 0 y.length none, .slc 6 5 0 ([(ApiLock.mk p0.Tree (ApiSpan.mk y456 (y456 ++ ([0] : List UInt8)) false) true)].length) none, .d .nils]), .row 9 (List.map eForestOp y) true, .row 5 (List.map eApiLock [(ApiLock.mk p0.Tree (ApiSpan.mk y456 (y456 ++ ([0] : List UInt8)) false) true)]) true]⟩) ?_ ?_)
       ·intro u1_473 h1 h0
        obtain ⟨_, hq474, h1⟩ := ob h1
        refine sr (s1 (lod (v := .d (eFanSide r450)) rfl (ld_box ts91 ta91 rfl rfl)) (c0 (fan_side_there_ok r450 _ hq474) wf rfl rfl rfl cb30 rfl (fun _ => rfl) (fun _ => rfl) (sn (cB h1 rfl (fun h1 => ?_) (fun h1 => ?_)))))
        ·obtain ⟨⟨r476, r477⟩, hq475, h1⟩ := ob h1
         refine sr (s1 (far (k := 1) rfl fo26_1 ts22 rfl) (s1 (lod rfl (ld_box ts22 ta22 rfl rfl)) (sm rfl (c0 (row_Encode_ok p0.Cols p3 _ hq475) wf rfl rfl rfl cb33 rfl (fun _ => rfl) (fun _ => rfl) (sm rfl (s1 (ext rfl rfl) (s1 (ext rfl rfl) (sa rfl (sa rfl ?_)))))))))
         refine sn (sq (sr (sm rfl (s1 (bi rfl rfl q_i64_neq) (sn (cB h1 rfl (fun h1 => ?_) (fun h1 => ?_)))))))
         ·have q := si h1; subst q; have q := si h0; subst q
          exact sr (s1 (bld rfl (bd40_ )) (sm rfl (s0 (sto rfl rfl (sB (d' := .d (.agg [.nils, .nils, .nils])) ts40 rfl rfl rfl rfl rfl rfl rfl)) (sa rfl (sn (SC.ret (finR (Wk.trans (Wk.pushE (σ' := [.box (.d (eApiTable p0)), .box (.d (.agg [.nils, .nils, .nils])), .box (.d (eFanSide r447)), .box (.d (eFanSide r450)), .box (.agg [.d .nils, .slc 5 5 0 ([(ApiLock.mk p0.Tree (ApiSpan.mk y456 (y456 ++ ([0] : List UInt8)) false) true)].length) none, .d .nils]), .row 5 (List.map eApiLock [(ApiLock.mk p0.Tree (ApiSpan.mk y456 (y456 ++ ([0] : List UInt8)) false) true)]) true, .row 9 (List.map eForestOp ([] : List ForestOp)) true]) (.row 9 [] true) (fun _ hh => by cases hh) rfl) (Wk.trans (Wk.boxE (id := 1) (y := .agg [.slc 6 9 0 (([] : List ForestOp).length) none, .d .nils, .d .nils]) (σ' := [.box (.d (eApiTable p0)), .box (.agg [.slc 6 9 0 (([] : List ForestOp).length) none, .d .nils, .d .nils]), .box (.d (eFanSide r447)), .box (.d (eFanSide r450)), .box (.agg [.d .nils, .slc 5 5 0 ([(ApiLock.mk p0.Tree (ApiSpan.mk y456 (y456 ++ ([0] : List UInt8)) false) true)].length) none, .d .nils]), .row 5 (List.map eApiLock [(ApiLock.mk p0.Tree (ApiSpan.mk y456 (y456 ++ ([0] : List UInt8)) false) true)]) true, .row 9 (List.map eForestOp ([] : List ForestOp)) true]) rfl (AWs.cons (AW.slcn _ _ _) (AWs.cons (AW.refl _) (AWs.cons (AW.refl _) AWs.nil))) rfl) (Wk.trans (Wk.pushE (σ' := [.box (.d (eApiTable p0)), .box (.agg [.slc 6 9 0 (([] : List ForestOp).length) none, .d .nils, .d .nils]), .box (.d (eFanSide r447)), .box (.d (eFanSide r450)), .box (.agg [.d .nils, .slc 5 5 0 ([(ApiLock.mk p0.Tree (ApiSpan.mk y456 (y456 ++ ([0] : List UInt8)) false) true)].length) none, .d .nils]), .row 5 (List.map eApiLock [(ApiLock.mk p0.Tree (ApiSpan.mk y456 (y456 ++ ([0] : List UInt8)) false) true)]) true, .row 9 (List.map eForestOp ([] : List ForestOp)) true, .row 5 (List.map eApiLock ([] : List ApiLock)) true]) (.row 5 [] true) (fun _ hh => by cases hh) rfl) (Wk.trans (Wk.boxE (id := 1) (y := .agg [.slc 6 9 0 (([] : List ForestOp).length) none, .slc 7 5 0 (([] : List ApiLock).length) none, .d .nils]) (σ' := [.box (.d (eApiTable p0)), .box (.agg [.slc 6 9 0 (([] : List ForestOp).length) none, .slc 7 5 0 (([] : List ApiLock).length) none, .d .nils]), .box (.d (eFanSide r447)), .box (.d (eFanSide r450)), .box (.agg [.d .nils, .slc 5 5 0 ([(ApiLock.mk p0.Tree (ApiSpan.mk y456 (y456 ++ ([0] : List UInt8)) false) true)].length) none, .d .nils]), .row 5 (List.map eApiLock [(ApiLock.mk p0.Tree (ApiSpan.mk y456 (y456 ++ ([0] : List UInt8)) false) true)]) true, .row 9 (List.map eForestOp ([] : List ForestOp)) true, .row 5 (List.map eApiLock ([] : List ApiLock)) true]) rfl (AWs.cons (AW.refl _) (AWs.cons (AW.slcn _ _ _) (AWs.cons (AW.refl _) AWs.nil))) rfl) (Wk.trans (Wk.pushE (σ' := [.box (.d (eApiTable p0)), .box (.agg [.slc 6 9 0 (([] : List ForestOp).length) none, .slc 7 5 0 (([] : List ApiLock).length) none, .d .nils]), .box (.d (eFanSide r447)), .box (.d (eFanSide r450)), .box (.agg [.d .nils, .slc 5 5 0 ([(ApiLock.mk p0.Tree (ApiSpan.mk y456 (y456 ++ ([0] : List UInt8)) false) true)].length) none, .d .nils]), .row 5 (List.map eApiLock [(ApiLock.mk p0.Tree (ApiSpan.mk y456 (y456 ++ ([0] : List UInt8)) false) true)]) true, .row 9 (List.map eForestOp ([] : List ForestOp)) true, .row 5 (List.map eApiLock ([] : List ApiLock)) true, .row 4 (List.map eFanProbe ([] : List FanProbe)) true]) (.row 4 [] true) (fun _ hh => by cases hh) rfl) (Wk.trans (Wk.boxE (id := 1) (y := .agg [.slc 6 9 0 (([] : List ForestOp).length) none, .slc 7 5 0 (([] : List ApiLock).length) none, .slc 8 4 0 (([] : List FanProbe).length) none]) (σ' := [.box (.d (eApiTable p0)), .box (.agg [.slc 6 9 0 (([] : List ForestOp).length) none, .slc 7 5 0 (([] : List ApiLock).length) none, .slc 8 4 0 (([] : List FanProbe).length) none]), .box (.d (eFanSide r447)), .box (.d (eFanSide r450)), .box (.agg [.d .nils, .slc 5 5 0 ([(ApiLock.mk p0.Tree (ApiSpan.mk y456 (y456 ++ ([0] : List UInt8)) false) true)].length) none, .d .nils]), .row 5 (List.map eApiLock [(ApiLock.mk p0.Tree (ApiSpan.mk y456 (y456 ++ ([0] : List UInt8)) false) true)]) true, .row 9 (List.map eForestOp ([] : List ForestOp)) true, .row 5 (List.map eApiLock ([] : List ApiLock)) true, .row 4 (List.map eFanProbe ([] : List FanProbe)) true]) rfl (AWs.cons (AW.refl _) (AWs.cons (AW.refl _) (AWs.cons (AW.slcn _ _ _) AWs.nil))) rfl) (wc (e' := [(8, .ref 0 0 0), (9, .d (eI r477))]) [1, 6, 7, 8] [1] (by kernel_rfl) rfl (by kernel_rfl)))))))) (lresC rfl (ld_box ts40 ta40 rfl rfl) (lresT rfl lresN)) rfl)))))))
         ·obtain ⟨_, hq478, h1⟩ := ob h1; have q := si h1; subst q
          exact sk (SC.region (s1 (far (k := 4) rfl fo26_4 ts3 rfl) (s1 (lod rfl (ld_box ts3 ta3 rfl rfl)) (sm rfl (sm rfl (s1 (bld rfl (bd63_1_2_4 (1 : Int) y456 r476)) (cq [4, 5] [6] (fan_Work_do_ok p0.Tree (ApiMsg.mk (0 : UInt64) (1 : Int) y456 (0 : UInt64) r476 (0 : Int) (0 : UInt64)) [(ApiLock.mk p0.Tree (ApiSpan.mk y456 (y456 ++ ([0] : List UInt8)) false) true)] _ hq478) wf rfl rfl rfl cb34 rfl rfl rfl rfl rfl rfl rfl rfl (SO.nil (lf (wc [0, 1, 2, 3, 4, 6, 5] [0, 1, 2, 3, 4] (by kernel_rfl) rfl (by kernel_rfl)))))))))))
        ·obtain ⟨_, hq479, h1⟩ := ob h1; have q := si h1; subst q
         exact SC.region (s1 (far (k := 4) rfl fo26_4 ts3 rfl) (s1 (lod rfl (ld_box ts3 ta3 rfl rfl)) (sm rfl (s1 (bld rfl (bd63_1_2 (2 : Int) y456)) (cq [4, 5] [6] (fan_Work_do_ok p0.Tree (ApiMsg.mk (0 : UInt64) (2 : Int) y456 (0 : UInt64) ([] : List UInt8) (0 : Int) (0 : UInt64)) [(ApiLock.mk p0.Tree (ApiSpan.mk y456 (y456 ++ ([0] : List UInt8)) false) true)] _ hq479) wf rfl rfl rfl cb34 rfl rfl rfl rfl rfl rfl rfl rfl (SO.nil (lf (wc [0, 1, 2, 3, 4, 6, 5] [0, 1, 2, 3, 4] (by kernel_rfl) rfl (by kernel_rfl)))))))))
       ·rintro y472 h0
        refine SC.seqP h0 (fun y => ⟨mk 139 [(8, .ref 0 0 0), (14, .ref 1 0 0)], [.box (.d (.agg [.nils, .nils, .nils])), .box (.agg [.slc 2 9 0 y.1.length none, .slc 3 5 0 y.2.1.length none, .slc 4 4 0 y.2.2.length none]), .row 9 (List.map eForestOp y.1) true, .row 5 (List.map eApiLock y.2.1) true, .row 4 (List.map eFanProbe y.2.2) true]⟩) ?_ ?_
        ·intro u1_572 h1
         obtain ⟨u2_634, h2, h1⟩ := ob h1
         refine sr (s1 (far (k := 3) rfl fo26_3 ts24 rfl) (s1 (lod rfl (ld_box ts24 ta24 rfl rfl)) (s1 (len rfl rfl rfl (len_lst un24)) (sm rfl (sn (SC.blk (SC.loopB h2 (fun y => ⟨mk 139 [(1, .d ((eL 2 eFanBuilt) p1)), (4, .ref 0 0 0), (8, .ref 1 0 0), (10, .ref 2 0 0), (12, .ref 3 0 0), (13, .d (eS y456)), (14, .ref 4 0 0), (107, .d ((eL 6 eApiIndex) p0.Indexes)), (108, .d (eI (p0.Indexes.length : Int))), (109, .d (eI y.1))], [.box (.d (eApiTable p0)), .box (.d (.agg [.nils, .nils, .nils])), .box (.d (eFanSide r447)), .box (.d (eFanSide r450)), .box (.agg [.slc 5 9 0 y.2.1.length none, .slc 6 5 0 y.2.2.1.length none, .slc 7 4 0 y.2.2.2.length none]), .row 9 (List.map eForestOp y.2.1) true, .row 5 (List.map eApiLock y.2.2.1) true, .row 4 (List.map eFanProbe y.2.2.2) true]⟩) (Wk.trans (Wk.pushE (σ' := [.box (.d (eApiTable p0)), .box (.d (.agg [.nils, .nils, .nils])), .box (.d (eFanSide r447)), .box (.d (eFanSide r450)), .box (.agg [.slc 5 9 0 y472.length none, .slc 6 5 0 ([(ApiLock.mk p0.Tree (ApiSpan.mk y456 (y456 ++ ([0] : List UInt8)) false) true)].length) none, .d .nils]), .row 9 (List.map eForestOp y472) true, .row 5 (List.map eApiLock [(ApiLock.mk p0.Tree (ApiSpan.mk y456 (y456 ++ ([0] : List UInt8)) false) true)]) true, .row 4 (List.map eFanProbe ([] : List FanProbe)) true]) (.row 4 [] true) (fun _ hh => by cases hh) rfl) (Wk.trans (Wk.boxE (id := 4) (y := .agg [.slc 5 9 0 y472.length none, .slc 6 5 0 ([(ApiLock.mk p0.Tree (ApiSpan.mk y456 (y456 ++ ([0] : List UInt8)) false) true)].length) none, .slc 7 4 0 (([] : List FanProbe).length) none]) (σ' := [.box (.d (eApiTable p0)), .box (.d (.agg [.nils, .nils, .nils])), .box (.d (eFanSide r447)), .box (.d (eFanSide r450)), .box (.agg [.slc 5 9 0 y472.length none, .slc 6 5 0 ([(ApiLock.mk p0.Tree (ApiSpan.mk y456 (y456 ++ ([0] : List UInt8)) false) true)].length) none, .slc 7 4 0 (([] : List FanProbe).length) none]), .row 9 (List.map eForestOp y472) true, .row 5 (List.map eApiLock [(ApiLock.mk p0.Tree (ApiSpan.mk y456 (y456 ++ ([0] : List UInt8)) false) true)]) true, .row 4 (List.map eFanProbe ([] : List FanProbe)) true]) rfl (AWs.cons (AW.refl _) (AWs.cons (AW.refl _) (AWs.cons (AW.slcn _ _ _) AWs.nil))) rfl) (wq rfl))) ?_)))))))
         intro n661
         rintro ⟨y599, y600, y601, y602⟩ w2_633 h3 hv3
         refine sr (s1 (bi rfl rfl q_i64_lss) (sn (sq (cB h3 rfl (fun h3 => ?_) (fun h3 => ?_)))))
         ·refine sk (SC.seqP h3 (fun y => ⟨mk 139 [(1, .d ((eL 2 eFanBuilt) p1)), (4, .ref 0 0 0), (8, .ref 1 0 0), (10, .ref 2 0 0), (12, .ref 3 0 0), (13, .d (eS y456)), (14, .ref 4 0 0), (107, .d ((eL 6 eApiIndex) p0.Indexes)), (108, .d (eI (p0.Indexes.length : Int))), (109, .d (eI y599))], [.box (.d (eApiTable p0)), .box (.d (.agg [.nils, .nils, .nils])), .box (.d (eFanSide r447)), .box (.d (eFanSide r450)), .box (.agg [.slc 5 9 0 y.1.length none, .slc 6 5 0 y.2.1.length none, .slc 7 4 0 y.2.2.length none]), .row 9 (List.map eForestOp y.1) true, .row 5 (List.map eApiLock y.2.1) true, .row 4 (List.map eFanProbe y.2.2) true]⟩) ?_ ?_)
          ·intro u4_649 h4
           obtain ⟨v650, hv650, h4⟩ := ob h4
           refine SC.blk (sr (sm rfl (s1 (ial rfl rfl un24 ts82 (getI_some hv650).1 (map_get (getI_some hv650).2) rfl) (s1 (lod (v := .d (eApiIndex v650)) rfl (ld_rop ts82 ta82 rfl)) (s1 (alo (k := 8) zo82 rfl) (sa rfl (s0 (sto rfl rfl (sB (d' := .d (eApiIndex v650)) ts82 rfl rfl rfl rfl rfl rfl rfl)) (sn (SC.seqP h4 (fun y => ⟨mk 139 [(1, .d ((eL 2 eFanBuilt) p1)), (4, .ref 0 0 0), (8, .ref 1 0 0), (10, .ref 2 0 0), (12, .ref 3 0 0), (13, .d (eS y456)), (14, .ref 4 0 0), (18, .ref 5 0 0), (107, .d ((eL 6 eApiIndex) p0.Indexes)), (108, .d (eI (p0.Indexes.length : Int))), (109, .d (eI y599)), (131, .d (eB y))], [.box (.d (eApiTable p0)), .box (.d (.agg [.nils, .nils, .nils])), .box (.d (eFanSide r447)), .box (.d (eFanSide r450)), .box (.agg [.slc 6 9 0 y600.length none, .slc 7 5 0 y601.length none, .slc 8 4 0 y602.length none]), .box (.d (eApiIndex v650)), .row 9 (List.map eForestOp y600) true, .row 5 (List.map eApiLock y601) true, .row 4 (List.map eFanProbe y602) true]⟩) ?_ ?_)))))))))
           ·intro u5_654 h5
            refine SC.region (s1 (far (k := 4) rfl fo82_4 ts4 rfl) (s1 (lod rfl (ld_box ts4 ta4 rfl rfl)) (sm rfl (sp h5 (fun h5 => ?_) (fun h5 => ?_)))))
            ·have q := si h5; subst q
             refine kw rfl (kw rfl (kw rfl (kw rfl (kw rfl (kw rfl (kw rfl (kw rfl (kw rfl (kw rfl ?_)))))))))
             exact kw rfl (kw rfl (kw rfl (kw rfl (s1 (pkt rfl rfl) (SO.nil ((wc [0, 1, 2, 3, 4, 8, 5, 6, 7] [0, 1, 2, 3, 4, 8] (by kernel_rfl) rfl (by kernel_rfl))))))))
            ·obtain ⟨v655, hv655, h5⟩ := ob h5
             refine gw rfl (mv rfl) (gw rfl (mv rfl) (gw rfl (ial rfl rfl un27 ts99 (getI_some hv655).1 (map_get (getI_some hv655).2) rfl) (gw rfl (fap rfl fo99_1 ts4 rfl) (gw rfl (lod rfl (ld_rop ts4 ta4 rfl)) (gw rfl (mv rfl) (sp h5 (fun h5 => ?_) (fun h5 => ?_)))))))
             ·obtain ⟨v656, hv656, h5⟩ := ob h5; have q := si h5; subst q
              refine gw rfl (mv rfl) (gw rfl (mv rfl) (gw rfl (mv rfl) (gw rfl (ial rfl rfl un27 ts99 (getI_some hv656).1 (map_get (getI_some hv656).2) rfl) (gw rfl (fap rfl fo99_0 ts9 rfl) (gw rfl (lod rfl (ld_rop ts9 ta9 rfl)) (gw rfl (bi rfl rfl q_str_leq) (gw rfl (pkt rfl rfl) (s1 (pkf rfl rfl) (SO.nil ?_)))))))))
              exact (wc [0, 1, 2, 3, 4, 8, 5, 6, 7] [0, 1, 2, 3, 4, 8] (by kernel_rfl) rfl (by kernel_rfl))
             ·have q := si h5; subst q
              refine kw rfl (kw rfl (kw rfl (kw rfl (kw rfl (kw rfl (kw rfl (gw rfl (pkf rfl rfl) (s1 (pkf rfl rfl) (SO.nil ?_)))))))))
              exact (wc [0, 1, 2, 3, 4, 8, 5, 6, 7] [0, 1, 2, 3, 4, 8] (by kernel_rfl) rfl (by kernel_rfl))
           ·rintro y653 h4
            refine cB h4 rfl (fun h4 => ?_) (fun h4 => ?_)
            ·obtain ⟨⟨r658, r659, r660⟩, hq657, h4⟩ := ob h4; have q := si h4; subst q
             exact SC.region (s1 (lod (v := .d (eApiTable p0)) rfl (ld_box ts26 ta26 rfl rfl)) (s1 (lod (v := .d (eApiIndex v650)) rfl (ld_box ts82 ta82 rfl rfl)) (s1 (lod (v := .d (eFanSide r447)) rfl (ld_box ts91 ta91 rfl rfl)) (s1 (lod (v := .d (eFanSide r450)) rfl (ld_box ts91 ta91 rfl rfl)) (cq [4, 6, 7, 8] [9, 10, 11] (fan_Work_index_2_ok p0 v650 r447 r450 y600 y601 y602 _ hq657) wf rfl rfl rfl cb35 rfl rfl rfl rfl rfl rfl rfl rfl (SO.nil ((wc [0, 1, 2, 3, 4, 9, 10, 11] [0, 1, 2, 3, 4] (by kernel_rfl) rfl (by kernel_rfl)))))))))
            ·have q := si h4; subst q
             exact SC.skip ((wc [0, 1, 2, 3, 4, 6, 7, 8] [0, 1, 2, 3, 4] (by kernel_rfl) rfl (by kernel_rfl)))
          ·rintro ⟨y646, y647, y648⟩ h3
           have q := si h3; subst q
           exact SC.region (s1 (bi rfl rfl q_i64_add) (sm rfl (SO.nil (lf (wq rfl)))))
         ·have q := si h3; subst q; have q : _ = _ := hv3; subst q; have q := si h1; subst q
          exact SC.exit ((wc [1, 4, 5, 6, 7] [1, 4] (by kernel_rfl) rfl (by kernel_rfl)))
        ·rintro ⟨y569, y570, y571⟩ h0
         have q := si h0; subst q
         exact sr (s1 (lod (v := .agg [.slc 2 9 0 y569.length none, .slc 3 5 0 y570.length none, .slc 4 4 0 y571.length none]) rfl (ld_box ts40 ta40 rfl rfl)) (s0 (sto rfl rfl (sB (d' := .agg [.slc 2 9 0 y569.length none, .slc 3 5 0 y570.length none, .slc 4 4 0 y571.length none]) ts40 rfl rfl rfl rfl rfl rfl rfl)) (sa rfl (sn (SC.ret (finR (wc (e' := [(8, .ref 0 0 0), (9, .d (eI (0 : Int)))]) [0, 2, 3, 4] [0] (by kernel_rfl) rfl (by kernel_rfl)) (lresC rfl (ld_box ts40 ta40 rfl rfl) (lresT rfl lresN)) rfl))))))
noncomputable def law19_awake : Option Bool :=
 bif decide (0 ≤ (1 : Int) ∧ (1 : Int) * 24 ≤ 70368744177664 ∧ (1 : Int) ≤ 70368744177664) then
 Option.bind (fan_Change (ApiTable.mk ([97] : List UInt8) [(ApiColumn.mk ([105, 100] : List UInt8) (1 : Int) (0 : Int) false (ApiValue.mk (1 : Int) (0 : UInt64) ([] : List UInt8))), (ApiColumn.mk ([110] : List UInt8) (1 : Int) (0 : Int) false (ApiValue.mk (1 : Int) (0 : UInt64) ([] : List UInt8)))] [(0 : Int)] [(ApiIndex.mk ([120] : List UInt8) [(ApiPart.mk (1 : Int) false)] ([] : List Int) true true (3 : Int))] (2 : Int)) (List.replicate (1 : Int).toNat (FanBuilt.mk ([] : List UInt8) false)) ([] : List ApiValue) [(ApiValue.mk (1 : Int) (1 : UInt64) ([] : List UInt8)), (ApiValue.mk (1 : Int) (2 : UInt64) ([] : List UInt8))]) fun (r28, r29, r30, r31) =>
 Option.bind (α := Bool)
 (bif (r28 == (0 : Int)) then
 bif ((r29.length : Int) == (2 : Int)) then
 bif ((r30.length : Int) == (3 : Int)) then
 bif ((r31.length : Int) == (1 : Int)) then
 Option.bind (getI r29 (1 : Int)) fun v36 =>
 bif (v36.Tree == (3 : Int)) then
 Option.bind (fan_Point ([97] : List UInt8)) fun _ =>
 some ((([97] : List UInt8) ++ ([0] : List UInt8)) == ([97, 0] : List UInt8))
 else
 some false
 else
 some false
 else
 some false
 else
 some false
 else
 some false)
 fun y34 =>
 some y34
 else none
theorem law19_awake_ok (r : Bool) (h0 : law19_awake = some r) : CallAt Tryz.prog 5 [] [] (.d (eB r)) [] := by
 unfold law19_awake at h0
 refine fn0 [] Tryz.func5 rfl rfl rfl rfl rfl ?_
 obtain ⟨hg26, h0⟩ := gd h0; obtain ⟨⟨r28, r29, r30, r31⟩, hq27, h0⟩ := ob h0
 refine sr (sa rfl (sn (sr (s1 (bld rfl (bd68_0 (1 : Int))) (s1 (bld rfl (bd77_0_1_4 ([105, 100] : List UInt8) (1 : Int) (ApiValue.mk (1 : Int) (0 : UInt64) ([] : List UInt8)))) (s1 (bld rfl (bd68_0 (1 : Int))) (s1 (bld rfl (bd77_0_1_4 ([110] : List UInt8) (1 : Int) (ApiValue.mk (1 : Int) (0 : UInt64) ([] : List UInt8)))) (s1 (bsn (k := 0) (ds := List.map eApiColumn [(ApiColumn.mk ([105, 100] : List UInt8) (1 : Int) (0 : Int) false (ApiValue.mk (1 : Int) (0 : UInt64) ([] : List UInt8))), (ApiColumn.mk ([110] : List UInt8) (1 : Int) (0 : Int) false (ApiValue.mk (1 : Int) (0 : UInt64) ([] : List UInt8)))]) (off := 0) (l' := [(ApiColumn.mk ([105, 100] : List UInt8) (1 : Int) (0 : Int) false (ApiValue.mk (1 : Int) (0 : UInt64) ([] : List UInt8))), (ApiColumn.mk ([110] : List UInt8) (1 : Int) (0 : Int) false (ApiValue.mk (1 : Int) (0 : UInt64) ([] : List UInt8)))].length) rfl un22 ei77 rfl rfl (by rfl) rfl rfl rfl) (s1 (bsn (k := 1) (ds := List.map eI [(0 : Int)]) (off := 0) (l' := [(0 : Int)].length) rfl un23 ei3 rfl rfl (by rfl) rfl rfl rfl) ?_)))))))))
 refine s1 (bld rfl (bd26_0_1_2_4 ([97] : List UInt8) (2 : Int))) (s1 (alo (k := 2) zo26 rfl) (s0 (sto rfl rfl (sB (d' := .agg [.d (eS ([97] : List UInt8)), .slc 0 7 0 ([(ApiColumn.mk ([105, 100] : List UInt8) (1 : Int) (0 : Int) false (ApiValue.mk (1 : Int) (0 : UInt64) ([] : List UInt8))), (ApiColumn.mk ([110] : List UInt8) (1 : Int) (0 : Int) false (ApiValue.mk (1 : Int) (0 : UInt64) ([] : List UInt8)))].length) none, .slc 1 1 0 ([(0 : Int)].length) none, .d .nils, .d (eI (2 : Int))]) ts26 rfl rfl rfl rfl rfl rfl rfl)) (sn (sr (s1 (bld rfl (bd79_0 (1 : Int))) (s1 (bsn (k := 3) (ds := List.map eApiPart [(ApiPart.mk (1 : Int) false)]) (off := 0) (l' := [(ApiPart.mk (1 : Int) false)].length) rfl un80 ei79 rfl rfl (by rfl) rfl rfl rfl) (s1 (bld rfl (bd82_0_1_3_4_5 ([120] : List UInt8) true true (3 : Int))) (SO.wk (Wk.frzs (i := 13) (x := .agg [.d (eS ([120] : List UInt8)), .slc 3 2 0 ([(ApiPart.mk (1 : Int) false)].length) none, .d .nils, .d (eB true), .d (eB true), .d (eI (3 : Int))]) rfl rfl rfl (frzs_d rfl (frzs_slc (fF rfl rfl rfl) (frzs_d rfl (frzs_d rfl (frzs_d rfl (frzs_d rfl frzs_nil))))))) (SO.wk (Wk.put1 (i := 13) (x := .d (.agg [(eS ([120] : List UInt8)), ((eL 2 eApiPart) [(ApiPart.mk (1 : Int) false)]), .nils, (eB true), (eB true), (eI (3 : Int))])) (y := .d (eApiIndex (ApiIndex.mk ([120] : List UInt8) [(ApiPart.mk (1 : Int) false)] ([] : List Int) true true (3 : Int)))) rfl rfl (AW.aggd rfl (AWs.cons (AW.refl _) (AWs.cons (AW.refl _) (AWs.cons (AW.nl _) (AWs.cons (AW.refl _) (AWs.cons (AW.refl _) (AWs.cons (AW.refl _) AWs.nil)))))))) ?_)))))))))
 refine s1 (bsn (k := 4) (ds := List.map eApiIndex [(ApiIndex.mk ([120] : List UInt8) [(ApiPart.mk (1 : Int) false)] ([] : List Int) true true (3 : Int))]) (off := 0) (l' := [(ApiIndex.mk ([120] : List UInt8) [(ApiPart.mk (1 : Int) false)] ([] : List Int) true true (3 : Int))].length) rfl un24 ei82 rfl rfl (by rfl) rfl rfl rfl) (s1 (far (k := 3) rfl fo26_3 ts24 rfl) (s0 (sto rfl rfl (sB (d' := .agg [.d (eS ([97] : List UInt8)), .slc 0 7 0 ([(ApiColumn.mk ([105, 100] : List UInt8) (1 : Int) (0 : Int) false (ApiValue.mk (1 : Int) (0 : UInt64) ([] : List UInt8))), (ApiColumn.mk ([110] : List UInt8) (1 : Int) (0 : Int) false (ApiValue.mk (1 : Int) (0 : UInt64) ([] : List UInt8)))].length) none, .slc 1 1 0 ([(0 : Int)].length) none, .slc 4 6 0 ([(ApiIndex.mk ([120] : List UInt8) [(ApiPart.mk (1 : Int) false)] ([] : List Int) true true (3 : Int))].length) none, .d (eI (2 : Int))]) ts24 rfl rfl rfl rfl rfl rfl rfl)) (sn (sd (by kernel_rfl) (t1 ([2], false) (lod (v := .agg [.d (eS ([97] : List UInt8)), .slc 0 7 0 ([(ApiColumn.mk ([105, 100] : List UInt8) (1 : Int) (0 : Int) false (ApiValue.mk (1 : Int) (0 : UInt64) ([] : List UInt8))), (ApiColumn.mk ([110] : List UInt8) (1 : Int) (0 : Int) false (ApiValue.mk (1 : Int) (0 : UInt64) ([] : List UInt8)))].length) none, .slc 1 1 0 ([(0 : Int)].length) none, .slc 4 6 0 ([(ApiIndex.mk ([120] : List UInt8) [(ApiPart.mk (1 : Int) false)] ([] : List Int) true true (3 : Int))].length) none, .d (eI (2 : Int))]) rfl (ld_box ts26 ta26 rfl rfl)) rfl ?_)))))
 refine t1 ([5], true) (mks (f := eFanBuilt) (u := (FanBuilt.mk ([] : List UInt8) false)) (k := 5) rfl rfl un27 ei99 rfl hg26 rfl) rfl (t1 ([], false) (bld rfl (bd68_0_1 (1 : Int) (1 : UInt64))) rfl (t1 ([], false) (bld rfl (bd68_0_1 (1 : Int) (2 : UInt64))) rfl (t1 ([6], true) (bsn (k := 6) (ds := List.map eApiValue [(ApiValue.mk (1 : Int) (1 : UInt64) ([] : List UInt8)), (ApiValue.mk (1 : Int) (2 : UInt64) ([] : List UInt8))]) (off := 0) (l' := [(ApiValue.mk (1 : Int) (1 : UInt64) ([] : List UInt8)), (ApiValue.mk (1 : Int) (2 : UInt64) ([] : List UInt8))].length) rfl un28 ei68 rfl rfl (by rfl) rfl rfl rfl) rfl (tq (args' := [.agg [.d (eS ([97] : List UInt8)), .slc 0 7 0 ([(ApiColumn.mk ([105, 100] : List UInt8) (1 : Int) (0 : Int) false (ApiValue.mk (1 : Int) (0 : UInt64) ([] : List UInt8))), (ApiColumn.mk ([110] : List UInt8) (1 : Int) (0 : Int) false (ApiValue.mk (1 : Int) (0 : UInt64) ([] : List UInt8)))].length) none, .slc 1 1 0 ([(0 : Int)].length) none, .slc 2 6 0 ([(ApiIndex.mk ([120] : List UInt8) [(ApiPart.mk (1 : Int) false)] ([] : List Int) true true (3 : Int))].length) none, .d (eI (2 : Int))], .slc 3 2 0 ((List.replicate (1 : Int).toNat (FanBuilt.mk ([] : List UInt8) false)).length) none, .d .nils, .slc 4 3 0 ([(ApiValue.mk (1 : Int) (1 : UInt64) ([] : List UInt8)), (ApiValue.mk (1 : Int) (2 : UInt64) ([] : List UInt8))].length) none]) (σc := [.row 7 (List.map eApiColumn [(ApiColumn.mk ([105, 100] : List UInt8) (1 : Int) (0 : Int) false (ApiValue.mk (1 : Int) (0 : UInt64) ([] : List UInt8))), (ApiColumn.mk ([110] : List UInt8) (1 : Int) (0 : Int) false (ApiValue.mk (1 : Int) (0 : UInt64) ([] : List UInt8)))]) true, .row 1 (List.map eI [(0 : Int)]) true, .row 6 (List.map eApiIndex [(ApiIndex.mk ([120] : List UInt8) [(ApiPart.mk (1 : Int) false)] ([] : List Int) true true (3 : Int))]) true, .row 2 (List.map eFanBuilt (List.replicate (1 : Int).toNat (FanBuilt.mk ([] : List UInt8) false))) true, .row 3 (List.map eApiValue [(ApiValue.mk (1 : Int) (1 : UInt64) ([] : List UInt8)), (ApiValue.mk (1 : Int) (2 : UInt64) ([] : List UInt8))]) true]) [0, 1, 4, 5, 6] [7, 8, 9, 10] ([0, 1, 4, 5, 6, 7, 8, 9, 10], true) (CallAt.frz (ArgF.frzw (y := .d (eApiTable (ApiTable.mk ([97] : List UInt8) [(ApiColumn.mk ([105, 100] : List UInt8) (1 : Int) (0 : Int) false (ApiValue.mk (1 : Int) (0 : UInt64) ([] : List UInt8))), (ApiColumn.mk ([110] : List UInt8) (1 : Int) (0 : Int) false (ApiValue.mk (1 : Int) (0 : UInt64) ([] : List UInt8)))] [(0 : Int)] [(ApiIndex.mk ([120] : List UInt8) [(ApiPart.mk (1 : Int) false)] ([] : List Int) true true (3 : Int))] (2 : Int)))) rfl (frzs_d rfl (frzs_slc (fF rfl rfl rfl) (frzs_slc (fF rfl rfl rfl) (frzs_slc (fF rfl rfl rfl) (frzs_d rfl frzs_nil))))) (AW.aggd rfl (AWs.cons (AW.refl _) (AWs.cons (AW.refl _) (AWs.cons (AW.refl _) (AWs.cons (AW.refl _) (AWs.cons (AW.refl _) AWs.nil)))))) (ArgF.frz (fF rfl rfl rfl) (ArgF.aw (AW.nl _) (ArgF.frz (fF rfl rfl rfl) (ArgF.nil _))))) (fq [] [5, 6, 7, 8] (fan_Change_ok (ApiTable.mk ([97] : List UInt8) [(ApiColumn.mk ([105, 100] : List UInt8) (1 : Int) (0 : Int) false (ApiValue.mk (1 : Int) (0 : UInt64) ([] : List UInt8))), (ApiColumn.mk ([110] : List UInt8) (1 : Int) (0 : Int) false (ApiValue.mk (1 : Int) (0 : UInt64) ([] : List UInt8)))] [(0 : Int)] [(ApiIndex.mk ([120] : List UInt8) [(ApiPart.mk (1 : Int) false)] ([] : List Int) true true (3 : Int))] (2 : Int)) (List.replicate (1 : Int).toNat (FanBuilt.mk ([] : List UInt8) false)) ([] : List ApiValue) [(ApiValue.mk (1 : Int) (1 : UInt64) ([] : List UInt8)), (ApiValue.mk (1 : Int) (2 : UInt64) ([] : List UInt8))] _ hq27) rfl rfl rfl rfl rfl rfl rfl rfl)) wf rfl rfl rfl cb10 rfl rfl rfl rfl rfl rfl rfl rfl rfl ?_))))
 refine t1 ([], false) (mv rfl) rfl (t1 ([], false) (ext rfl rfl) rfl (t1 ([], false) (ext rfl rfl) rfl (t1 ([11], true) (alo (k := 11) zo40 rfl) rfl (t0 ([11, 8, 9, 10], true) (sto rfl rfl (sB (d' := .agg [.slc 8 9 0 r29.length none, .slc 9 5 0 r30.length none, .slc 10 4 0 r31.length none]) ts40 rfl rfl rfl rfl rfl rfl rfl)) rfl (t1 ([], false) (asg rfl) rfl (tn (by decide +kernel) (SC.seqP h0 (fun y => ⟨mk 58 [(0, .d (eB y))], []⟩) ?_ ?_)))))))
 ·intro u1_35 h1
  refine SC.region (sm rfl (s1 (bi rfl rfl q_i64_eql) (sm rfl (sp h1 (fun h1 => ?_) (fun h1 => ?_)))))
  ·refine gw rfl (far (k := 0) rfl fo40_0 ts36 rfl) (gw rfl (lod rfl (ld_box ts36 ta36 rfl rfl)) (gw rfl (len rfl rfl rfl (len_slc un36)) (gw rfl (bi rfl rfl q_i64_eql) (s1 (pkt rfl rfl) (sm rfl (sp h1 (fun h1 => ?_) (fun h1 => ?_)))))))
   ·refine gw rfl (far (k := 1) rfl fo40_1 ts37 rfl) (gw rfl (lod rfl (ld_box ts37 ta37 rfl rfl)) (gw rfl (len rfl rfl rfl (len_slc un37)) (gw rfl (bi rfl rfl q_i64_eql) (s1 (pkt rfl rfl) (sm rfl (sp h1 (fun h1 => ?_) (fun h1 => ?_)))))))
    ·refine gw rfl (far (k := 2) rfl fo40_2 ts38 rfl) (gw rfl (lod rfl (ld_box ts38 ta38 rfl rfl)) (gw rfl (len rfl rfl rfl (len_slc un38)) (gw rfl (bi rfl rfl q_i64_eql) (s1 (pkt rfl rfl) (sm rfl (sp h1 (fun h1 => ?_) (fun h1 => ?_)))))))
     ·obtain ⟨v36, hv36, h1⟩ := ob h1
      refine gw rfl (far (k := 0) rfl fo40_0 ts36 rfl) (gw rfl (lod rfl (ld_box ts36 ta36 rfl rfl)) (gw rfl (iaz rfl rfl un36 ts65 (getI_lt hv36)) (gw rfl (far (k := 1) rfl fo65_1 ts3 rfl) (gw rfl (lod rfl (ld_row ts3 ta3 rfl (map_get (getI_some hv36).2) rfl)) (gw rfl (bi rfl rfl q_i64_eql) (s1 (pkt rfl rfl) (sm rfl (sp h1 (fun h1 => ?_) (fun h1 => ?_)))))))))
      ·obtain ⟨_, hq37, h1⟩ := ob h1; have q := si h1; subst q
       exact cq [] [12] (fan_Point_ok ([97] : List UInt8) _ hq37) (ww rfl) rfl rfl rfl cb6 rfl rfl rfl rfl rfl rfl rfl rfl (gw rfl (fld rfl fo31_1 ts9 ta9 rfl rfl) (gw rfl (bi rfl rfl (q_str_eql (b := ([97, 0] : List UInt8)))) (s1 (pkt rfl rfl) (sa rfl (SO.nil ((wc [] [] (by kernel_rfl) rfl (by kernel_rfl))))))))
      ·have q := si h1; subst q
       exact kw rfl (kw rfl (kw rfl (s1 (pkf rfl rfl) (sa rfl (SO.nil ((wc [] [] (by kernel_rfl) rfl (by kernel_rfl))))))))
     ·have q := si h1; subst q
      refine kw rfl (kw rfl (kw rfl (kw rfl (kw rfl (kw rfl (s1 (pkf rfl rfl) (sm rfl (kw rfl (kw rfl ?_)))))))))
      exact kw rfl (s1 (pkf rfl rfl) (sa rfl (SO.nil ((wc [] [] (by kernel_rfl) rfl (by kernel_rfl))))))
    ·have q := si h1; subst q
     refine kw rfl (kw rfl (kw rfl (kw rfl (s1 (pkf rfl rfl) (sm rfl (kw rfl (kw rfl (kw rfl (kw rfl ?_)))))))))
     refine kw rfl (kw rfl (s1 (pkf rfl rfl) (sm rfl (kw rfl (kw rfl (kw rfl (s1 (pkf rfl rfl) (sa rfl (SO.nil ?_)))))))))
     exact (wc [] [] (by kernel_rfl) rfl (by kernel_rfl))
   ·have q := si h1; subst q
    refine kw rfl (kw rfl (kw rfl (kw rfl (s1 (pkf rfl rfl) (sm rfl (kw rfl (kw rfl (kw rfl (kw rfl ?_)))))))))
    refine s1 (pkf rfl rfl) (sm rfl (kw rfl (kw rfl (kw rfl (kw rfl (kw rfl (kw rfl (s1 (pkf rfl rfl) (sm rfl ?_)))))))))
    exact kw rfl (kw rfl (kw rfl (s1 (pkf rfl rfl) (sa rfl (SO.nil ((wc [] [] (by kernel_rfl) rfl (by kernel_rfl))))))))
  ·have q := si h1; subst q
   refine kw rfl (kw rfl (kw rfl (kw rfl (s1 (pkf rfl rfl) (sm rfl (kw rfl (kw rfl (kw rfl (kw rfl ?_)))))))))
   refine s1 (pkf rfl rfl) (sm rfl (kw rfl (kw rfl (kw rfl (kw rfl (s1 (pkf rfl rfl) (sm rfl (kw rfl (kw rfl ?_)))))))))
   refine kw rfl (kw rfl (kw rfl (kw rfl (s1 (pkf rfl rfl) (sm rfl (kw rfl (kw rfl (kw rfl (s1 (pkf rfl rfl) ?_)))))))))
   exact sa rfl (SO.nil ((wc [] [] (by kernel_rfl) rfl (by kernel_rfl))))
 ·rintro y34 h0
  have q := si h0; subst q
  exact SC.ret (finR (Wk.refl _) (lresT rfl lresN) rfl)
noncomputable def ref19_Point (p0 : List UInt8) : Option Unit :=
 bif decide (p0.length + ([0] : List UInt8).length ≤ 9223372036854775807) then
 some ()
 else none
theorem ref19_Point_ok (p0 : List UInt8) (r : Unit) (h0 : ref19_Point p0 = some r) : CallAt Tryz.prog 7 [.d (eS p0)] [] (.d (eApiSpan (ApiSpan.mk p0 (p0 ++ ([0] : List UInt8)) false))) [.box (.d (eApiSpan (ApiSpan.mk p0 (p0 ++ ([0] : List UInt8)) false)))] := by
 unfold ref19_Point at h0
 refine fn0 [0] Tryz.func7 rfl rfl rfl rfl rfl ?_
 obtain ⟨hg3, h0⟩ := gd h0; have q := si h0; subst q
 refine sr (s1 (alo (k := 0) zo31 rfl) (sn (sr (sm rfl (sm rfl (s1 (bi (v := .d (eS (p0 ++ ([0] : List UInt8)))) rfl rfl (fun X Y => b_str_add _ X Y p0 ([0] : List UInt8) hg3)) (s1 (bld rfl (bd31_0_1 p0 (p0 ++ ([0] : List UInt8)))) (s0 (sto rfl rfl (sB (d' := .d (eApiSpan (ApiSpan.mk p0 (p0 ++ ([0] : List UInt8)) false))) ts31 rfl rfl rfl rfl rfl rfl rfl)) (sn ?_)))))))))
 exact SC.ret (finR (Wk.refl _) (lresC rfl (ld_box ts31 ta31 rfl rfl) lresN) rfl)
noncomputable def ref06_Name (p0 : List UInt8) : Option Bool :=
 Option.bind (α := Bool)
 (bif (decide ((p0.length : Int) < (1 : Int))) then
 some true
 else
 bif (decide ((p0.length : Int) > (16 : Int))) then
 some true
 else
 Option.bind (getI p0 (0 : Int)) fun v304 =>
 bif (decide (v304 < (97 : UInt8))) then
 some true
 else
 Option.bind (getI p0 (0 : Int)) fun v305 =>
 some (decide ((122 : UInt8) < v305)))
 fun y302 =>
 bif y302 then
 some false
 else
 bindE (Y := Unit) (E := Bool)
 (Option.bind (α := Unit ⊕ Bool)
 (loop (Y := Int) (W := Unit ⊕ Bool) (fun y400 =>
 bif (decide (y400 < (p0.length : Int))) then
 Option.bind (α := Bool)
 (Option.bind (getI p0 y400) fun v438 =>
 bif (decide (v438 < (97 : UInt8))) then
 Option.bind (getI p0 y400) fun v439 =>
 bif (decide (v439 < (48 : UInt8))) then
 Option.bind (getI p0 y400) fun v440 =>
 some (v440 != (95 : UInt8))
 else
 Option.bind (getI p0 y400) fun v441 =>
 bif (decide ((57 : UInt8) < v441)) then
 Option.bind (getI p0 y400) fun v442 =>
 some (v442 != (95 : UInt8))
 else
 some false
 else
 Option.bind (getI p0 y400) fun v443 =>
 bif (decide ((122 : UInt8) < v443)) then
 Option.bind (getI p0 y400) fun v444 =>
 bif (decide (v444 < (48 : UInt8))) then
 Option.bind (getI p0 y400) fun v445 =>
 some (v445 != (95 : UInt8))
 else
 Option.bind (getI p0 y400) fun v446 =>
 bif (decide ((57 : UInt8) < v446)) then
 Option.bind (getI p0 y400) fun v447 =>
 some (v447 != (95 : UInt8))
 else
 some false
 else
 some false)
 fun y436 =>
 bif y436 then
 some (Sum.inr (Sum.inr false))
 else
 some (Sum.inl (w64 (y400 + (1 : Int))))
 else
 some (Sum.inr (Sum.inl ()))) (1 : Int))
 (Sum.elim (fun e => some (Sum.inl e)) (fun e => some (Sum.inr e))))
 (fun _ =>
 some true)
 (fun e => some e)
theorem ref06_Name_ok (p0 : List UInt8) (r : Bool) (h0 : ref06_Name p0 = some r) : CallAt Tryz.prog 22 [.d (eS p0)] [] (.d (eB r)) [] := by
 unfold ref06_Name at h0
 refine fn0 [0] Tryz.func22 rfl rfl rfl rfl rfl ?_
 refine sr (sa rfl (sn (sq (SC.seqP h0 (fun y => ⟨mk 56 [(0, .d (eS p0)), (21, .d (eB y))], []⟩) ?_ ?_))))
 ·intro u1_303 h1
  refine SC.region (sm rfl (s1 (len rfl rfl rfl (len_str un9)) (s1 (bi rfl rfl q_i64_lss) (sm rfl (sp h1 (fun h1 => ?_) (fun h1 => ?_))))))
  ·have q := si h1; subst q
   refine kw rfl (kw rfl (kw rfl (s1 (pkt rfl rfl) (sm rfl (kw rfl (kw rfl (kw rfl (s1 (pkt rfl rfl) (sm rfl ?_)))))))))
   exact kw rfl (kw rfl (kw rfl (s1 (pkt rfl rfl) (SO.nil ((wq rfl))))))
  ·refine gw rfl (mv rfl) (gw rfl (len rfl rfl rfl (len_str un9)) (gw rfl (bi rfl rfl q_i64_gtr) (s1 (pkf rfl rfl) (sm rfl (sp h1 (fun h1 => ?_) (fun h1 => ?_))))))
   ·have q := si h1; subst q
    refine kw rfl (kw rfl (kw rfl (s1 (pkt rfl rfl) (sm rfl (kw rfl (kw rfl (kw rfl (s1 (pkt rfl rfl) (SO.nil ?_)))))))))
    exact (wq rfl)
   ·obtain ⟨v304, hv304, h1⟩ := ob h1
    refine gw rfl (mv rfl) (gw rfl (ixs rfl rfl rfl rfl (ix_str un9 (getI_some hv304).1 (getI_some hv304).2)) (gw rfl (bi rfl rfl (q_u8_lss (b := (97 : UInt8)))) (s1 (pkf rfl rfl) (sm rfl (sp h1 (fun h1 => ?_) (fun h1 => ?_))))))
    ·have q := si h1; subst q
     exact kw rfl (kw rfl (kw rfl (s1 (pkt rfl rfl) (SO.nil ((wq rfl))))))
    ·obtain ⟨v305, hv305, h1⟩ := ob h1; have q := si h1; subst q
     exact gw rfl (mv rfl) (gw rfl (ixs rfl rfl rfl rfl (ix_str un9 (getI_some hv305).1 (getI_some hv305).2)) (gw rfl (bi rfl rfl (q_u8_gtr (b := (122 : UInt8)))) (s1 (pkf rfl rfl) (SO.nil ((wq rfl))))))
 ·rintro y302 h0
  refine cB h0 rfl (fun h0 => ?_) (fun h0 => ?_)
  ·have q := si h0; subst q
   exact sr (sa rfl (sn (SC.ret (finR (Wk.refl _) (lresT rfl lresN) rfl))))
  ·refine sk (SC.seqB h0 (fun y => ⟨mk 56 [], []⟩) ?_ ?_)
   ·intro u1_377 h1 h0
    obtain ⟨u2_425, h2, h1⟩ := ob h1
    refine sr (sa rfl (sn (SC.blk (SC.loopB h2 (fun y => ⟨mk 56 [(0, .d (eS p0)), (3, .d (eI y))], []⟩) (wq rfl) ?_))))
    intro n448
    rintro y400 w2_424 h3 hv3
    refine sq (sr (sm rfl (sm rfl (s1 (len rfl rfl rfl (len_str un9)) (s1 (bi rfl rfl q_i64_lss) (sn (cB h3 rfl (fun h3 => ?_) (fun h3 => ?_))))))))
    ·refine sk (sq (SC.blk (SC.seqP h3 (fun y => ⟨mk 56 [(0, .d (eS p0)), (3, .d (eI y400)), (55, .d (eB y))], []⟩) ?_ ?_)))
     ·intro u4_437 h4
      obtain ⟨v438, hv438, h4⟩ := ob h4
      refine SC.region (sm rfl (sm rfl (s1 (ixs rfl rfl rfl rfl (ix_str un9 (getI_some hv438).1 (getI_some hv438).2)) (s1 (bi rfl rfl (q_u8_lss (b := (97 : UInt8)))) (sm rfl (sp h4 (fun h4 => ?_) (fun h4 => ?_)))))))
      ·obtain ⟨v439, hv439, h4⟩ := ob h4
       refine kw rfl (kw rfl (kw rfl (kw rfl (s1 (pkt rfl rfl) (sm rfl (gw rfl (mv rfl) (gw rfl (mv rfl) (gw rfl (ixs rfl rfl rfl rfl (ix_str un9 (getI_some hv439).1 (getI_some hv439).2)) (gw rfl (bi rfl rfl (q_u8_lss (b := (48 : UInt8)))) ?_)))))))))
       refine gw rfl (mv rfl) (sp h4 (fun h4 => ?_) (fun h4 => ?_))
       ·obtain ⟨v440, hv440, h4⟩ := ob h4; have q := si h4; subst q
        refine kw rfl (kw rfl (kw rfl (kw rfl (gw rfl (pkt rfl rfl) (s1 (pkt rfl rfl) (sm rfl (gw rfl (mv rfl) (gw rfl (mv rfl) (gw rfl (ixs rfl rfl rfl rfl (ix_str un9 (getI_some hv440).1 (getI_some hv440).2)) ?_)))))))))
        exact gw rfl (bi rfl rfl (q_u8_neq (b := (95 : UInt8)))) (s1 (pkt rfl rfl) (SO.nil ((wq rfl))))
       ·obtain ⟨v441, hv441, h4⟩ := ob h4
        refine gw rfl (mv rfl) (gw rfl (mv rfl) (gw rfl (ixs rfl rfl rfl rfl (ix_str un9 (getI_some hv441).1 (getI_some hv441).2)) (gw rfl (bi rfl rfl (q_u8_gtr (b := (57 : UInt8)))) (gw rfl (pkf rfl rfl) (s1 (pkt rfl rfl) (sm rfl (sp h4 (fun h4 => ?_) (fun h4 => ?_))))))))
        ·obtain ⟨v442, hv442, h4⟩ := ob h4; have q := si h4; subst q
         exact gw rfl (mv rfl) (gw rfl (mv rfl) (gw rfl (ixs rfl rfl rfl rfl (ix_str un9 (getI_some hv442).1 (getI_some hv442).2)) (gw rfl (bi rfl rfl (q_u8_neq (b := (95 : UInt8)))) (s1 (pkt rfl rfl) (SO.nil ((wq rfl)))))))
        ·have q := si h4; subst q
         exact kw rfl (kw rfl (kw rfl (kw rfl (s1 (pkf rfl rfl) (SO.nil ((wq rfl)))))))
      ·obtain ⟨v443, hv443, h4⟩ := ob h4
       refine gw rfl (mv rfl) (gw rfl (mv rfl) (gw rfl (ixs rfl rfl rfl rfl (ix_str un9 (getI_some hv443).1 (getI_some hv443).2)) (gw rfl (bi rfl rfl (q_u8_gtr (b := (122 : UInt8)))) (s1 (pkf rfl rfl) (sm rfl (sp h4 (fun h4 => ?_) (fun h4 => ?_)))))))
       ·obtain ⟨v444, hv444, h4⟩ := ob h4
        refine gw rfl (mv rfl) (gw rfl (mv rfl) (gw rfl (ixs rfl rfl rfl rfl (ix_str un9 (getI_some hv444).1 (getI_some hv444).2)) (gw rfl (bi rfl rfl (q_u8_lss (b := (48 : UInt8)))) (gw rfl (mv rfl) (sp h4 (fun h4 => ?_) (fun h4 => ?_))))))
        ·obtain ⟨v445, hv445, h4⟩ := ob h4; have q := si h4; subst q
         refine kw rfl (kw rfl (kw rfl (kw rfl (gw rfl (pkt rfl rfl) (s1 (pkt rfl rfl) (sm rfl (gw rfl (mv rfl) (gw rfl (mv rfl) (gw rfl (ixs rfl rfl rfl rfl (ix_str un9 (getI_some hv445).1 (getI_some hv445).2)) ?_)))))))))
         exact gw rfl (bi rfl rfl (q_u8_neq (b := (95 : UInt8)))) (s1 (pkt rfl rfl) (SO.nil ((wq rfl))))
        ·obtain ⟨v446, hv446, h4⟩ := ob h4
         refine gw rfl (mv rfl) (gw rfl (mv rfl) (gw rfl (ixs rfl rfl rfl rfl (ix_str un9 (getI_some hv446).1 (getI_some hv446).2)) (gw rfl (bi rfl rfl (q_u8_gtr (b := (57 : UInt8)))) (gw rfl (pkf rfl rfl) (s1 (pkt rfl rfl) (sm rfl (sp h4 (fun h4 => ?_) (fun h4 => ?_))))))))
         ·obtain ⟨v447, hv447, h4⟩ := ob h4; have q := si h4; subst q
          exact gw rfl (mv rfl) (gw rfl (mv rfl) (gw rfl (ixs rfl rfl rfl rfl (ix_str un9 (getI_some hv447).1 (getI_some hv447).2)) (gw rfl (bi rfl rfl (q_u8_neq (b := (95 : UInt8)))) (s1 (pkt rfl rfl) (SO.nil ((wq rfl)))))))
         ·have q := si h4; subst q
          exact kw rfl (kw rfl (kw rfl (kw rfl (s1 (pkf rfl rfl) (SO.nil ((wq rfl)))))))
       ·have q := si h4; subst q
        refine kw rfl (kw rfl (kw rfl (kw rfl (kw rfl (kw rfl (kw rfl (kw rfl (kw rfl (kw rfl ?_)))))))))
        exact s1 (pkf rfl rfl) (sm rfl (kw rfl (kw rfl (kw rfl (kw rfl (s1 (pkf rfl rfl) (SO.nil ((wq rfl)))))))))
     ·rintro y436 h3
      refine cB h3 rfl (fun h3 => ?_) (fun h3 => ?_)
      ·have q := si h3; subst q; have q : _ = _ := hv3; subst q; have q := si h1; subst q; have q := si h0; subst q
       exact sr (sa rfl (sn (SC.ret (finR (Wk.refl _) (lresT rfl lresN) rfl))))
      ·refine SC.skip ?_
       change SC _ _ _ _ _
       have q := si h3; subst q
       exact SC.region (sm rfl (s1 (bi rfl rfl q_i64_add) (sa rfl (SO.nil (lf (wq rfl))))))
    ·have q := si h3; subst q; have q : _ = _ := hv3; subst q; have q := si h1; subst q
     exact SC.exit (lf (wq rfl))
   ·intro _ h0
    have q := si h0; subst q
    exact sr (sa rfl (sn (SC.ret (finR (Wk.refl _) (lresT rfl lresN) rfl))))
noncomputable def ref06_utf8 (p0 : List UInt8) : Option Bool :=
 bindE (Y := Unit) (E := Bool)
 (Option.bind (α := Unit ⊕ Bool)
 (loop (Y := Int) (W := Unit ⊕ Bool) (fun y878 =>
 bif (decide (y878 < (p0.length : Int))) then
 Option.bind (getI p0 y878) fun v935 =>
 bindE (Y := Int × Int × Int) (E := Bool)
 (bif (decide ((v935.toNat : Int) < (128 : Int))) then
 some (Sum.inl ((1 : Int), (0 : Int), (v935.toNat : Int)))
 else
 Option.bind (α := Bool)
 (bif (decide ((v935.toNat : Int) ≥ (194 : Int))) then
 some (decide ((v935.toNat : Int) < (224 : Int)))
 else
 some false)
 fun y946 =>
 bif y946 then
 some (Sum.inl ((2 : Int), (128 : Int), (w64 ((v935.toNat : Int) - (192 : Int)))))
 else
 Option.bind (α := Bool)
 (bif (decide ((v935.toNat : Int) ≥ (224 : Int))) then
 some (decide ((v935.toNat : Int) < (240 : Int)))
 else
 some false)
 fun y948 =>
 bif y948 then
 some (Sum.inl ((3 : Int), (2048 : Int), (w64 ((v935.toNat : Int) - (224 : Int)))))
 else
 Option.bind (α := Bool)
 (bif (decide ((v935.toNat : Int) ≥ (240 : Int))) then
 some (decide ((v935.toNat : Int) < (245 : Int)))
 else
 some false)
 fun y950 =>
 bif y950 then
 some (Sum.inl ((4 : Int), (65536 : Int), (w64 ((v935.toNat : Int) - (240 : Int)))))
 else
 some (Sum.inr false))
 (fun (y942, y943, y944) =>
 bif (decide ((w64 (y878 + y942)) > (p0.length : Int))) then
 some (Sum.inr (Sum.inr false))
 else
 bindE (Y := Int) (E := Bool)
 (Option.bind (α := Int ⊕ Bool)
 (loop (Y := Int × Int) (W := Int ⊕ Bool) (fun (y973, y974) =>
 bif (decide (y974 < y942)) then
 Option.bind (getI p0 (w64 (y878 + y974))) fun v982 =>
 Option.bind (α := Bool)
 (bif (decide ((v982.toNat : Int) < (128 : Int))) then
 some true
 else
 some (decide ((v982.toNat : Int) ≥ (192 : Int))))
 fun y983 =>
 bif y983 then
 some (Sum.inr (Sum.inr false))
 else
 some (Sum.inl ((w64 ((w64 ((w64 (y973 * (64 : Int))) + (v982.toNat : Int))) - (128 : Int))), (w64 (y974 + (1 : Int)))))
 else
 some (Sum.inr (Sum.inl y973))) (y944, (1 : Int)))
 (Sum.elim (fun e => some (Sum.inl e)) (fun e => some (Sum.inr e))))
 (fun y968 =>
 Option.bind (α := Bool)
 (bif (decide (y968 < y943)) then
 some true
 else
 bif (decide (y968 > (1114111 : Int))) then
 some true
 else
 bif (decide (y968 ≥ (55296 : Int))) then
 some (decide (y968 < (57344 : Int)))
 else
 some false)
 fun y986 =>
 bif y986 then
 some (Sum.inr (Sum.inr false))
 else
 some (Sum.inl (w64 (y878 + y942))))
 (fun e => some (Sum.inr (Sum.inr e))))
 (fun e => some (Sum.inr (Sum.inr e)))
 else
 some (Sum.inr (Sum.inl ()))) (0 : Int))
 (Sum.elim (fun e => some (Sum.inl e)) (fun e => some (Sum.inr e))))
 (fun _ =>
 some true)
 (fun e => some e)
theorem ref06_utf8_ok (p0 : List UInt8) (r : Bool) (h0 : ref06_utf8 p0 = some r) : CallAt Tryz.prog 120 [.d (eS p0)] [] (.d (eB r)) [] := by
 unfold ref06_utf8 at h0
 refine fn0 [0] Tryz.func120 rfl rfl rfl rfl rfl ?_
 refine sr (sa rfl (sn (SC.seqB h0 (fun y => ⟨mk 95 [], []⟩) ?_ ?_)))
 ·intro u1_824 h1 h0
  obtain ⟨u2_934, h2, h1⟩ := ob h1
  refine sr (sa rfl (sn (SC.blk (SC.loopB h2 (fun y => ⟨mk 95 [(0, .d (eS p0)), (3, .d (eI y))], []⟩) (wq rfl) ?_))))
  intro n988
  rintro y878 w2_933 h3 hv3
  refine sq (sr (sm rfl (sm rfl (s1 (len rfl rfl rfl (len_str un9)) (s1 (bi rfl rfl q_i64_lss) (sn (cB h3 rfl (fun h3 => ?_) (fun h3 => ?_))))))))
  ·obtain ⟨v935, hv935, h3⟩ := ob h3
   refine sk (SC.blk (sr (sm rfl (sm rfl (s1 (ixs rfl rfl rfl rfl (ix_str un9 (getI_some hv935).1 (getI_some hv935).2)) (s1 (cvo rfl (cv_u8_i64 un5 un3 v935)) (sa rfl (sn (sr ?_)))))))))
   refine sa rfl (sn (sr (sa rfl (sn (sr (sm rfl (sa rfl (sn (SC.seqB h3 (fun y => ⟨mk 95 [(0, .d (eS p0)), (3, .d (eI y878)), (5, .d (eI y.1)), (6, .d (eI y.2.1)), (7, .d (eI y.2.2))], []⟩) ?_ ?_)))))))))
   ·intro u4_945 h4 h3
    refine SC.blk (sr (sm rfl (s1 (bi rfl rfl q_i64_lss) (sa rfl (sn (cB h4 rfl (fun h4 => ?_) (fun h4 => ?_)))))))
    ·have q := si h4; subst q
     exact SC.skip (lf (wq rfl))
    ·refine SC.seqP h4 (fun y => ⟨mk 95 [(0, .d (eS p0)), (3, .d (eI y878)), (4, .d (eI (v935.toNat : Int))), (22, .d (eB y))], []⟩) ?_ ?_
     ·intro u5_947 h5
      refine SC.region (sm rfl (s1 (bi rfl rfl q_i64_geq) (sm rfl (sp h5 (fun h5 => ?_) (fun h5 => ?_)))))
      ·have q := si h5; subst q
       exact gw rfl (mv rfl) (gw rfl (bi rfl rfl q_i64_lss) (s1 (pkt rfl rfl) (sa rfl (SO.nil ((wq rfl))))))
      ·have q := si h5; subst q
       exact kw rfl (kw rfl (s1 (pkf rfl rfl) (sa rfl (SO.nil ((wq rfl))))))
     ·rintro y946 h4
      refine cB h4 rfl (fun h4 => ?_) (fun h4 => ?_)
      ·have q := si h4; subst q
       exact SC.region (sm rfl (s1 (bi rfl rfl q_i64_sub) (sa rfl (sa rfl (sa rfl (SO.nil (lf (wq rfl))))))))
      ·refine SC.seqP h4 (fun y => ⟨mk 95 [(0, .d (eS p0)), (3, .d (eI y878)), (4, .d (eI (v935.toNat : Int))), (31, .d (eB y))], []⟩) ?_ ?_
       ·intro u5_949 h5
        refine SC.region (sm rfl (s1 (bi rfl rfl q_i64_geq) (sm rfl (sp h5 (fun h5 => ?_) (fun h5 => ?_)))))
        ·have q := si h5; subst q
         exact gw rfl (mv rfl) (gw rfl (bi rfl rfl q_i64_lss) (s1 (pkt rfl rfl) (sa rfl (SO.nil ((wq rfl))))))
        ·have q := si h5; subst q
         exact kw rfl (kw rfl (s1 (pkf rfl rfl) (sa rfl (SO.nil ((wq rfl))))))
       ·rintro y948 h4
        refine cB h4 rfl (fun h4 => ?_) (fun h4 => ?_)
        ·have q := si h4; subst q
         exact SC.region (sm rfl (s1 (bi rfl rfl q_i64_sub) (sa rfl (sa rfl (sa rfl (SO.nil (lf (wq rfl))))))))
        ·refine SC.seqP h4 (fun y => ⟨mk 95 [(0, .d (eS p0)), (3, .d (eI y878)), (4, .d (eI (v935.toNat : Int))), (40, .d (eB y))], []⟩) ?_ ?_
         ·intro u5_951 h5
          refine SC.region (sm rfl (s1 (bi rfl rfl q_i64_geq) (sm rfl (sp h5 (fun h5 => ?_) (fun h5 => ?_)))))
          ·have q := si h5; subst q
           exact gw rfl (mv rfl) (gw rfl (bi rfl rfl q_i64_lss) (s1 (pkt rfl rfl) (sa rfl (SO.nil ((wq rfl))))))
          ·have q := si h5; subst q
           exact kw rfl (kw rfl (s1 (pkf rfl rfl) (sa rfl (SO.nil ((wq rfl))))))
         ·rintro y950 h4
          refine cB h4 rfl (fun h4 => ?_) (fun h4 => ?_)
          ·have q := si h4; subst q
           exact SC.region (sm rfl (s1 (bi rfl rfl q_i64_sub) (sa rfl (sa rfl (sa rfl (SO.nil (lf (wq rfl))))))))
          ·have q := si h4; subst q; have q := si h3; subst q; have q : _ = _ := hv3; subst q; have q := si h1; subst q; have q := si h0; subst q
           exact sr (sa rfl (sn (SC.ret (finR (Wk.refl _) (lresT rfl lresN) rfl))))
   ·rintro ⟨y942, y943, y944⟩ h3
    refine sq (sr (sm rfl (sm rfl (s1 (bi rfl rfl q_i64_add) (sm rfl (s1 (len rfl rfl rfl (len_str un9)) (s1 (bi rfl rfl q_i64_gtr) (sn (cB h3 rfl (fun h3 => ?_) (fun h3 => ?_))))))))))
    ·have q := si h3; subst q; have q : _ = _ := hv3; subst q; have q := si h1; subst q; have q := si h0; subst q
     exact sr (sa rfl (sn (SC.ret (finR (Wk.refl _) (lresT rfl lresN) rfl))))
    ·refine sk (SC.seqB h3 (fun y => ⟨mk 95 [(0, .d (eS p0)), (3, .d (eI y878)), (5, .d (eI y942)), (6, .d (eI y943)), (7, .d (eI y))], []⟩) ?_ ?_)
     ·intro u4_969 h4 h3
      obtain ⟨u5_981, h5, h4⟩ := ob h4
      refine sr (sa rfl (sn (SC.blk (SC.loopB h5 (fun y => ⟨mk 95 [(0, .d (eS p0)), (3, .d (eI y878)), (5, .d (eI y942)), (6, .d (eI y943)), (7, .d (eI y.1)), (8, .d (eI y.2))], []⟩) (wq rfl) ?_))))
      intro n985
      rintro ⟨y973, y974⟩ w5_980 h6 hv6
      refine sq (sr (sm rfl (sm rfl (s1 (bi rfl rfl q_i64_lss) (sn (cB h6 rfl (fun h6 => ?_) (fun h6 => ?_)))))))
      ·obtain ⟨v982, hv982, h6⟩ := ob h6
       refine sk (sq (SC.blk (sr (sm rfl (sm rfl (sm rfl (s1 (bi rfl rfl q_i64_add) (s1 (ixs rfl rfl rfl rfl (ix_str un9 (getI_some hv982).1 (getI_some hv982).2)) (s1 (cvo rfl (cv_u8_i64 un5 un3 v982)) ?_)))))))))
       refine sa rfl (sn (sq (SC.seqP h6 (fun y => ⟨mk 95 [(0, .d (eS p0)), (3, .d (eI y878)), (5, .d (eI y942)), (6, .d (eI y943)), (7, .d (eI y973)), (8, .d (eI y974)), (9, .d (eI (v982.toNat : Int))), (71, .d (eB y))], []⟩) ?_ ?_)))
       ·intro u7_984 h7
        refine SC.region (sm rfl (s1 (bi rfl rfl q_i64_lss) (sm rfl (sp h7 (fun h7 => ?_) (fun h7 => ?_)))))
        ·have q := si h7; subst q
         exact kw rfl (kw rfl (s1 (pkt rfl rfl) (SO.nil ((wq rfl)))))
        ·have q := si h7; subst q
         exact gw rfl (mv rfl) (gw rfl (bi rfl rfl q_i64_geq) (s1 (pkf rfl rfl) (SO.nil ((wq rfl)))))
       ·rintro y983 h6
        refine cB h6 rfl (fun h6 => ?_) (fun h6 => ?_)
        ·have q := si h6; subst q; have q : _ = _ := hv6; subst q; have q := si h4; subst q; have q := si h3; subst q; have q : _ = _ := hv3; subst q; have q := si h1; subst q; have q := si h0; subst q
         exact sr (sa rfl (sn (SC.ret (finR (Wk.refl _) (lresT rfl lresN) rfl))))
        ·refine sk (SC.region (sm rfl (s1 (bi rfl rfl q_i64_mul) (sm rfl (s1 (bi rfl rfl q_i64_add) (s1 (bi rfl rfl q_i64_sub) (sa rfl (SO.nil ?_))))))))
         change SC _ _ _ _ _
         have q := si h6; subst q
         exact SC.region (sm rfl (s1 (bi rfl rfl q_i64_add) (sa rfl (SO.nil (lf (wq rfl))))))
      ·have q := si h6; subst q; have q : _ = _ := hv6; subst q; have q := si h4; subst q
       exact SC.exit (lf (wq rfl))
     ·rintro y968 h3
      refine sq (SC.seqP h3 (fun y => ⟨mk 95 [(0, .d (eS p0)), (3, .d (eI y878)), (5, .d (eI y942)), (91, .d (eB y))], []⟩) ?_ ?_)
      ·intro u4_987 h4
       refine SC.region (sm rfl (sm rfl (s1 (bi rfl rfl q_i64_lss) (sm rfl (sp h4 (fun h4 => ?_) (fun h4 => ?_))))))
       ·have q := si h4; subst q
        refine kw rfl (kw rfl (s1 (pkt rfl rfl) (sm rfl (kw rfl (kw rfl (kw rfl (kw rfl (kw rfl (kw rfl ?_)))))))))
        exact s1 (pkt rfl rfl) (SO.nil ((wq rfl)))
       ·refine gw rfl (mv rfl) (gw rfl (bi rfl rfl q_i64_gtr) (s1 (pkf rfl rfl) (sm rfl (sp h4 (fun h4 => ?_) (fun h4 => ?_)))))
        ·have q := si h4; subst q
         exact kw rfl (kw rfl (kw rfl (kw rfl (kw rfl (kw rfl (s1 (pkt rfl rfl) (SO.nil ((wq rfl)))))))))
        ·refine gw rfl (mv rfl) (gw rfl (bi rfl rfl q_i64_geq) (gw rfl (mv rfl) (sp h4 (fun h4 => ?_) (fun h4 => ?_))))
         ·have q := si h4; subst q
          exact gw rfl (mv rfl) (gw rfl (bi rfl rfl q_i64_lss) (gw rfl (pkt rfl rfl) (s1 (pkf rfl rfl) (SO.nil ((wq rfl))))))
         ·have q := si h4; subst q
          exact kw rfl (kw rfl (gw rfl (pkf rfl rfl) (s1 (pkf rfl rfl) (SO.nil ((wq rfl))))))
      ·rintro y986 h3
       refine cB h3 rfl (fun h3 => ?_) (fun h3 => ?_)
       ·have q := si h3; subst q; have q : _ = _ := hv3; subst q; have q := si h1; subst q; have q := si h0; subst q
        exact sr (sa rfl (sn (SC.ret (finR (Wk.refl _) (lresT rfl lresN) rfl))))
       ·have q := si h3; subst q
        exact sk (SC.region (sm rfl (sm rfl (s1 (bi rfl rfl q_i64_add) (sa rfl (SO.nil (lf (wq rfl))))))))
  ·have q := si h3; subst q; have q : _ = _ := hv3; subst q; have q := si h1; subst q
   exact SC.exit (lf (wq rfl))
 ·intro _ h0
  have q := si h0; subst q
  exact sr (sa rfl (sn (SC.ret (finR (Wk.refl _) (lresT rfl lresN) rfl))))
noncomputable def ref06_Valid (p0 : ApiValue) : Option Bool :=
 bif (p0.Kind == (0 : Int)) then
 Option.bind (α := Bool)
 (bif (p0.N == (0 : UInt64)) then
 some (p0.S == ([] : List UInt8))
 else
 some false)
 fun y30 =>
 some y30
 else
 Option.bind (α := Bool)
 (bif (p0.Kind == (1 : Int)) then
 some (p0.Kind == (1 : Int))
 else
 some (p0.Kind == (2 : Int)))
 fun y32 =>
 bif y32 then
 some (p0.S == ([] : List UInt8))
 else
 bif (p0.Kind == (3 : Int)) then
 Option.bind (α := Bool)
 (bif (decide (p0.N < (2 : UInt64))) then
 some (p0.S == ([] : List UInt8))
 else
 some false)
 fun y34 =>
 some y34
 else
 bif (p0.Kind == (4 : Int)) then
 Option.bind (α := Bool)
 (bif (p0.N == (0 : UInt64)) then
 some (decide ((p0.S.length : Int) ≤ (64 : Int)))
 else
 some false)
 fun y36 =>
 some y36
 else
 bif (p0.Kind == (5 : Int)) then
 Option.bind (α := Bool)
 (bif (p0.N == (0 : UInt64)) then
 bif (decide ((p0.S.length : Int) ≤ (64 : Int))) then
 Option.bind (ref06_utf8 p0.S) fun r43 =>
 some r43
 else
 some false
 else
 some false)
 fun y40 =>
 some y40
 else
 some false
theorem ref06_Valid_ok (p0 : ApiValue) (r : Bool) (h0 : ref06_Valid p0 = some r) : CallAt Tryz.prog 98 [.d (eApiValue p0)] [] (.d (eB r)) [] := by
 unfold ref06_Valid at h0
 refine fn0 [0] Tryz.func98 rfl rfl rfl rfl rfl ?_
 refine sr (s1 (bxo (k := 0) rfl rfl rfl) (sa rfl (sn (sq (sr (s1 (far (k := 0) rfl fo68_0 ts3 rfl) (s1 (lod rfl (ld_box ts3 ta3 rfl rfl)) (sn (SC.blk ?_)))))))))
 refine sr (s1 (bi rfl rfl q_i64_eql) (sa rfl (sn (cB h0 rfl (fun h0 => ?_) (fun h0 => ?_)))))
 ·refine SC.seqP h0 (fun y => ⟨mk 58 [(2, .d (eB y))], []⟩) ?_ ?_
  ·intro u1_31 h1
   refine SC.region (s1 (far (k := 1) rfl fo68_1 ts54 rfl) (s1 (lod rfl (ld_box ts54 ta54 rfl rfl)) (s1 (bi rfl rfl (q_u64_eql (b := (0 : UInt64)))) (sm rfl (sp h1 (fun h1 => ?_) (fun h1 => ?_))))))
   ·have q := si h1; subst q
    exact gw rfl (far (k := 2) rfl fo68_2 ts9 rfl) (gw rfl (lod rfl (ld_box ts9 ta9 rfl rfl)) (gw rfl (bi rfl rfl (q_str_eql (b := ([] : List UInt8)))) (s1 (pkt rfl rfl) (sa rfl (SO.nil ((wc [] [] (by kernel_rfl) rfl (by kernel_rfl))))))))
   ·have q := si h1; subst q
    exact kw rfl (kw rfl (kw rfl (s1 (pkf rfl rfl) (sa rfl (SO.nil ((wc [] [] (by kernel_rfl) rfl (by kernel_rfl))))))))
  ·rintro y30 h0
   have q := si h0; subst q
   exact SC.ret (finR (Wk.refl _) (lresT rfl lresN) rfl)
 ·refine SC.seqP h0 (fun y => ⟨mk 58 [(1, .ref 0 0 0), (4, .d (eI p0.Kind)), (15, .d (eB y))], [.box (.d (eApiValue p0))]⟩) ?_ ?_
  ·intro u1_33 h1
   refine sr (s1 (bi rfl rfl q_i64_eql) (sa rfl (sn (cB h1 rfl (fun h1 => ?_) (fun h1 => ?_)))))
   ·have q := si h1; subst q
    exact SC.skip ((wq rfl))
   ·have q := si h1; subst q
    exact SC.region (s1 (bi rfl rfl q_i64_eql) (sa rfl (SO.nil ((wq rfl)))))
  ·rintro y32 h0
   refine cB h0 rfl (fun h0 => ?_) (fun h0 => ?_)
   ·have q := si h0; subst q
    exact sr (s1 (far (k := 2) rfl fo68_2 ts9 rfl) (s1 (lod rfl (ld_box ts9 ta9 rfl rfl)) (s1 (bi rfl rfl (q_str_eql (b := ([] : List UInt8)))) (sa rfl (sn (SC.ret (finR (wc (e' := [(2, .d (eB (p0.S == ([] : List UInt8))))]) [] [] (by kernel_rfl) rfl (by kernel_rfl)) (lresT rfl lresN) rfl)))))))
   ·refine sr (s1 (bi rfl rfl q_i64_eql) (sa rfl (sn (cB h0 rfl (fun h0 => ?_) (fun h0 => ?_)))))
    ·refine SC.seqP h0 (fun y => ⟨mk 58 [(2, .d (eB y))], []⟩) ?_ ?_
     ·intro u1_35 h1
      refine SC.region (s1 (far (k := 1) rfl fo68_1 ts54 rfl) (s1 (lod rfl (ld_box ts54 ta54 rfl rfl)) (s1 (bi rfl rfl (q_u64_lss (b := (2 : UInt64)))) (sm rfl (sp h1 (fun h1 => ?_) (fun h1 => ?_))))))
      ·have q := si h1; subst q
       exact gw rfl (far (k := 2) rfl fo68_2 ts9 rfl) (gw rfl (lod rfl (ld_box ts9 ta9 rfl rfl)) (gw rfl (bi rfl rfl (q_str_eql (b := ([] : List UInt8)))) (s1 (pkt rfl rfl) (sa rfl (SO.nil ((wc [] [] (by kernel_rfl) rfl (by kernel_rfl))))))))
      ·have q := si h1; subst q
       exact kw rfl (kw rfl (kw rfl (s1 (pkf rfl rfl) (sa rfl (SO.nil ((wc [] [] (by kernel_rfl) rfl (by kernel_rfl))))))))
     ·rintro y34 h0
      have q := si h0; subst q
      exact SC.ret (finR (Wk.refl _) (lresT rfl lresN) rfl)
    ·refine sr (s1 (bi rfl rfl q_i64_eql) (sa rfl (sn (cB h0 rfl (fun h0 => ?_) (fun h0 => ?_)))))
     ·refine SC.seqP h0 (fun y => ⟨mk 58 [(2, .d (eB y))], []⟩) ?_ ?_
      ·intro u1_37 h1
       refine SC.region (s1 (far (k := 1) rfl fo68_1 ts54 rfl) (s1 (lod rfl (ld_box ts54 ta54 rfl rfl)) (s1 (bi rfl rfl (q_u64_eql (b := (0 : UInt64)))) (sm rfl (sp h1 (fun h1 => ?_) (fun h1 => ?_))))))
       ·have q := si h1; subst q
        exact gw rfl (far (k := 2) rfl fo68_2 ts9 rfl) (gw rfl (lod rfl (ld_box ts9 ta9 rfl rfl)) (gw rfl (len rfl rfl rfl (len_str un9)) (gw rfl (bi rfl rfl q_i64_leq) (s1 (pkt rfl rfl) (sa rfl (SO.nil ((wc [] [] (by kernel_rfl) rfl (by kernel_rfl)))))))))
       ·have q := si h1; subst q
        exact kw rfl (kw rfl (kw rfl (kw rfl (s1 (pkf rfl rfl) (sa rfl (SO.nil ((wc [] [] (by kernel_rfl) rfl (by kernel_rfl)))))))))
      ·rintro y36 h0
       have q := si h0; subst q
       exact SC.ret (finR (Wk.refl _) (lresT rfl lresN) rfl)
     ·refine sr (s1 (bi rfl rfl q_i64_eql) (sa rfl (sn (cB h0 rfl (fun h0 => ?_) (fun h0 => ?_)))))
      ·refine SC.seqP h0 (fun y => ⟨mk 58 [(2, .d (eB y))], []⟩) ?_ ?_
       ·intro u1_41 h1
        refine SC.region (s1 (far (k := 1) rfl fo68_1 ts54 rfl) (s1 (lod rfl (ld_box ts54 ta54 rfl rfl)) (s1 (bi rfl rfl (q_u64_eql (b := (0 : UInt64)))) (sm rfl (sp h1 (fun h1 => ?_) (fun h1 => ?_))))))
        ·refine gw rfl (far (k := 2) rfl fo68_2 ts9 rfl) (gw rfl (lod rfl (ld_box ts9 ta9 rfl rfl)) (gw rfl (len rfl rfl rfl (len_str un9)) (gw rfl (bi rfl rfl q_i64_leq) (s1 (pkt rfl rfl) (sm rfl (sp h1 (fun h1 => ?_) (fun h1 => ?_)))))))
         ·obtain ⟨r43, hq42, h1⟩ := ob h1; have q := si h1; subst q
          exact gw rfl (far (k := 2) rfl fo68_2 ts9 rfl) (gw rfl (lod rfl (ld_box ts9 ta9 rfl rfl)) (c0 (ref06_utf8_ok p0.S _ hq42) (ww rfl) rfl rfl rfl cb120 rfl (fun _ => rfl) (fun _ => rfl) (s1 (pkt rfl rfl) (sa rfl (SO.nil ((wc [] [] (by kernel_rfl) rfl (by kernel_rfl))))))))
         ·have q := si h1; subst q
          exact kw rfl (kw rfl (kw rfl (s1 (pkf rfl rfl) (sa rfl (SO.nil ((wc [] [] (by kernel_rfl) rfl (by kernel_rfl))))))))
        ·have q := si h1; subst q
         refine kw rfl (kw rfl (kw rfl (kw rfl (s1 (pkf rfl rfl) (sm rfl (kw rfl (kw rfl (kw rfl (s1 (pkf rfl rfl) ?_)))))))))
         exact sa rfl (SO.nil ((wc [] [] (by kernel_rfl) rfl (by kernel_rfl))))
       ·rintro y40 h0
        have q := si h0; subst q
        exact SC.ret (finR (Wk.refl _) (lresT rfl lresN) rfl)
      ·refine SC.skip ?_
       change SC _ _ _ _ _
       have q := si h0; subst q
       exact sr (sa rfl (sn (SC.ret (finR (wc (e' := [(2, .d (eB false))]) [] [] (by kernel_rfl) rfl (by kernel_rfl)) (lresT rfl lresN) rfl))))
noncomputable def ref06_Fits (p0 : ApiColumn) (p1 : ApiValue) : Option Int :=
 Option.bind (α := Bool)
 (Option.bind (ref06_Valid p1) fun r23 =>
 bif (!r23) then
 some true
 else
 bif (p1.Kind == (0 : Int)) then
 bif (!p0.Nulls) then
 some true
 else
 bif (p1.Kind != (0 : Int)) then
 some (p1.Kind != p0.Kind)
 else
 some false
 else
 bif (p1.Kind != (0 : Int)) then
 some (p1.Kind != p0.Kind)
 else
 some false)
 fun y20 =>
 bif y20 then
 some (8 : Int)
 else
 Option.bind (α := Bool)
 (bif (p1.Kind == (4 : Int)) then
 some (decide ((p1.S.length : Int) > p0.Max))
 else
 bif (p1.Kind == (5 : Int)) then
 some (decide ((p1.S.length : Int) > p0.Max))
 else
 some false)
 fun y24 =>
 bif y24 then
 some (7 : Int)
 else
 some (0 : Int)
theorem ref06_Fits_ok (p0 : ApiColumn) (p1 : ApiValue) (r : Int) (h0 : ref06_Fits p0 p1 = some r) : CallAt Tryz.prog 62 [.d (eApiColumn p0), .d (eApiValue p1)] [] (.d (eI r)) [] := by
 unfold ref06_Fits at h0
 refine fn0 [0, 1] Tryz.func62 rfl rfl rfl rfl rfl ?_
 refine sr (s1 (bxo (k := 0) rfl rfl rfl) (s1 (bxo (k := 1) rfl rfl rfl) (sa rfl (sn (sq (SC.seqP h0 (fun y => ⟨mk 46 [(2, .ref 0 0 0), (3, .ref 1 0 0), (29, .d (eB y))], [.box (.d (eApiColumn p0)), .box (.d (eApiValue p1))]⟩) ?_ ?_))))))
 ·intro u1_21 h1
  obtain ⟨r23, hq22, h1⟩ := ob h1
  refine SC.region (s1 (lod (v := .d (eApiValue p1)) rfl (ld_box ts68 ta68 rfl rfl)) (c0 (ref06_Valid_ok p1 _ hq22) wf rfl rfl rfl cb98 rfl (fun _ => rfl) (fun _ => rfl) (s1 (nt rfl) (sm rfl (sp h1 (fun h1 => ?_) (fun h1 => ?_))))))
  ·have q := si h1; subst q
   refine kw rfl (kw rfl (kw rfl (kw rfl (kw rfl (kw rfl (kw rfl (kw rfl (s1 (pkt rfl rfl) (sm rfl ?_)))))))))
   refine kw rfl (kw rfl (kw rfl (kw rfl (kw rfl (kw rfl (kw rfl (kw rfl (kw rfl (kw rfl ?_)))))))))
   exact s1 (pkt rfl rfl) (SO.nil ((wq rfl)))
  ·refine gw rfl (far (k := 0) rfl fo68_0 ts3 rfl) (gw rfl (lod rfl (ld_box ts3 ta3 rfl rfl)) (gw rfl (bi rfl rfl q_i64_eql) (gw rfl (mv rfl) (sp h1 (fun h1 => ?_) (fun h1 => ?_)))))
   ·refine gw rfl (far (k := 3) rfl fo77_3 ts4 rfl) (gw rfl (lod rfl (ld_box ts4 ta4 rfl rfl)) (gw rfl (nt rfl) (gw rfl (pkt rfl rfl) (s1 (pkf rfl rfl) (sm rfl (sp h1 (fun h1 => ?_) (fun h1 => ?_)))))))
    ·have q := si h1; subst q
     refine kw rfl (kw rfl (kw rfl (kw rfl (kw rfl (kw rfl (kw rfl (kw rfl (kw rfl (kw rfl ?_)))))))))
     exact s1 (pkt rfl rfl) (SO.nil ((wq rfl)))
    ·refine gw rfl (far (k := 0) rfl fo68_0 ts3 rfl) (gw rfl (lod rfl (ld_box ts3 ta3 rfl rfl)) (gw rfl (bi rfl rfl q_i64_neq) (gw rfl (mv rfl) (sp h1 (fun h1 => ?_) (fun h1 => ?_)))))
     ·have q := si h1; subst q
      exact gw rfl (far (k := 0) rfl fo68_0 ts3 rfl) (gw rfl (lod rfl (ld_box ts3 ta3 rfl rfl)) (gw rfl (far (k := 1) rfl fo77_1 ts3 rfl) (gw rfl (lod rfl (ld_box ts3 ta3 rfl rfl)) (gw rfl (bi rfl rfl q_i64_neq) (gw rfl (pkt rfl rfl) (s1 (pkf rfl rfl) (SO.nil ((wq rfl)))))))))
     ·have q := si h1; subst q
      exact kw rfl (kw rfl (kw rfl (kw rfl (kw rfl (gw rfl (pkf rfl rfl) (s1 (pkf rfl rfl) (SO.nil ((wq rfl)))))))))
   ·refine kw rfl (kw rfl (kw rfl (gw rfl (pkf rfl rfl) (s1 (pkf rfl rfl) (sm rfl (gw rfl (far (k := 0) rfl fo68_0 ts3 rfl) (gw rfl (lod rfl (ld_box ts3 ta3 rfl rfl)) (gw rfl (bi rfl rfl q_i64_neq) (gw rfl (mv rfl) ?_)))))))))
    refine sp h1 (fun h1 => ?_) (fun h1 => ?_)
    ·have q := si h1; subst q
     exact gw rfl (far (k := 0) rfl fo68_0 ts3 rfl) (gw rfl (lod rfl (ld_box ts3 ta3 rfl rfl)) (gw rfl (far (k := 1) rfl fo77_1 ts3 rfl) (gw rfl (lod rfl (ld_box ts3 ta3 rfl rfl)) (gw rfl (bi rfl rfl q_i64_neq) (gw rfl (pkt rfl rfl) (s1 (pkf rfl rfl) (SO.nil ((wq rfl)))))))))
    ·have q := si h1; subst q
     exact kw rfl (kw rfl (kw rfl (kw rfl (kw rfl (gw rfl (pkf rfl rfl) (s1 (pkf rfl rfl) (SO.nil ((wq rfl)))))))))
 ·rintro y20 h0
  refine cB h0 rfl (fun h0 => ?_) (fun h0 => ?_)
  ·have q := si h0; subst q
   exact sr (sa rfl (sn (SC.ret (finR (wc (e' := [(4, .d (eI (8 : Int)))]) [] [] (by kernel_rfl) rfl (by kernel_rfl)) (lresT rfl lresN) rfl))))
  ·refine sk (sq (SC.seqP h0 (fun y => ⟨mk 46 [(45, .d (eB y))], []⟩) ?_ ?_))
   ·intro u1_25 h1
    refine SC.region (s1 (far (k := 0) rfl fo68_0 ts3 rfl) (s1 (lod rfl (ld_box ts3 ta3 rfl rfl)) (s1 (bi rfl rfl q_i64_eql) (sm rfl (sp h1 (fun h1 => ?_) (fun h1 => ?_))))))
    ·have q := si h1; subst q
     refine kw rfl (kw rfl (kw rfl (s1 (pkt rfl rfl) (sm rfl (gw rfl (far (k := 2) rfl fo68_2 ts9 rfl) (gw rfl (lod rfl (ld_box ts9 ta9 rfl rfl)) (gw rfl (len rfl rfl rfl (len_str un9)) (gw rfl (far (k := 2) rfl fo77_2 ts3 rfl) (gw rfl (lod rfl (ld_box ts3 ta3 rfl rfl)) ?_)))))))))
     exact gw rfl (bi rfl rfl q_i64_gtr) (s1 (pkt rfl rfl) (SO.nil ((wc [] [] (by kernel_rfl) rfl (by kernel_rfl)))))
    ·refine gw rfl (far (k := 0) rfl fo68_0 ts3 rfl) (gw rfl (lod rfl (ld_box ts3 ta3 rfl rfl)) (gw rfl (bi rfl rfl q_i64_eql) (s1 (pkf rfl rfl) (sm rfl (sp h1 (fun h1 => ?_) (fun h1 => ?_))))))
     ·have q := si h1; subst q
      exact gw rfl (far (k := 2) rfl fo68_2 ts9 rfl) (gw rfl (lod rfl (ld_box ts9 ta9 rfl rfl)) (gw rfl (len rfl rfl rfl (len_str un9)) (gw rfl (far (k := 2) rfl fo77_2 ts3 rfl) (gw rfl (lod rfl (ld_box ts3 ta3 rfl rfl)) (gw rfl (bi rfl rfl q_i64_gtr) (s1 (pkt rfl rfl) (SO.nil ((wc [] [] (by kernel_rfl) rfl (by kernel_rfl))))))))))
     ·have q := si h1; subst q
      exact kw rfl (kw rfl (kw rfl (kw rfl (kw rfl (kw rfl (s1 (pkf rfl rfl) (SO.nil ((wc [] [] (by kernel_rfl) rfl (by kernel_rfl))))))))))
   ·rintro y24 h0
    refine cB h0 rfl (fun h0 => ?_) (fun h0 => ?_)
    ·have q := si h0; subst q
     exact sr (sa rfl (sn (SC.ret (finR (Wk.refl _) (lresT rfl lresN) rfl))))
    ·have q := si h0; subst q
     exact sk (sr (sa rfl (sn (SC.ret (finR (Wk.refl _) (lresT rfl lresN) rfl)))))
noncomputable def ref06_Column (p0 : ApiColumn) : Option Int :=
 Option.bind (ref06_Name p0.Name) fun r19 =>
 bif (!r19) then
 some (1 : Int)
 else
 Option.bind (α := Bool)
 (bif (decide (p0.Kind < (1 : Int))) then
 some true
 else
 some (decide (p0.Kind > (5 : Int))))
 fun y20 =>
 bif y20 then
 some (8 : Int)
 else
 Option.bind (α := Bool)
 (bif (decide (p0.Kind < (4 : Int))) then
 bif (p0.Max != (0 : Int)) then
 some true
 else
 bif (decide (p0.Kind > (3 : Int))) then
 bif (decide (p0.Max < (1 : Int))) then
 some true
 else
 some (decide (p0.Max > (64 : Int)))
 else
 some false
 else
 bif (decide (p0.Kind > (3 : Int))) then
 bif (decide (p0.Max < (1 : Int))) then
 some true
 else
 some (decide (p0.Max > (64 : Int)))
 else
 some false)
 fun y22 =>
 bif y22 then
 some (7 : Int)
 else
 Option.bind (ref06_Fits p0 p0.Default) fun r25 =>
 some r25
theorem ref06_Column_ok (p0 : ApiColumn) (r : Int) (h0 : ref06_Column p0 = some r) : CallAt Tryz.prog 23 [.d (eApiColumn p0)] [] (.d (eI r)) [] := by
 unfold ref06_Column at h0
 refine fn0 [0] Tryz.func23 rfl rfl rfl rfl rfl ?_
 obtain ⟨r19, hq18, h0⟩ := ob h0
 refine sr (s1 (bxo (k := 0) rfl rfl rfl) (sa rfl (sn (sq (sr (s1 (far (k := 0) rfl fo77_0 ts9 rfl) (s1 (lod rfl (ld_box ts9 ta9 rfl rfl)) (c0 (ref06_Name_ok p0.Name _ hq18) wf rfl rfl rfl cb22 rfl (fun _ => rfl) (fun _ => rfl) (s1 (nt rfl) ?_)))))))))
 refine sn (cB h0 rfl (fun h0 => ?_) (fun h0 => ?_))
 ·have q := si h0; subst q
  exact sr (sa rfl (sn (SC.ret (finR (wc (e' := [(2, .d (eI (1 : Int)))]) [] [] (by kernel_rfl) rfl (by kernel_rfl)) (lresT rfl lresN) rfl))))
 ·refine sk (sq (SC.seqP h0 (fun y => ⟨mk 42 [(1, .ref 0 0 0), (14, .d (eB y))], [.box (.d (eApiColumn p0))]⟩) ?_ ?_))
  ·intro u1_21 h1
   refine SC.region (s1 (far (k := 1) rfl fo77_1 ts3 rfl) (s1 (lod rfl (ld_box ts3 ta3 rfl rfl)) (s1 (bi rfl rfl q_i64_lss) (sm rfl (sp h1 (fun h1 => ?_) (fun h1 => ?_))))))
   ·have q := si h1; subst q
    exact kw rfl (kw rfl (kw rfl (s1 (pkt rfl rfl) (SO.nil ((wq rfl))))))
   ·have q := si h1; subst q
    exact gw rfl (far (k := 1) rfl fo77_1 ts3 rfl) (gw rfl (lod rfl (ld_box ts3 ta3 rfl rfl)) (gw rfl (bi rfl rfl q_i64_gtr) (s1 (pkf rfl rfl) (SO.nil ((wq rfl))))))
  ·rintro y20 h0
   refine cB h0 rfl (fun h0 => ?_) (fun h0 => ?_)
   ·have q := si h0; subst q
    exact sr (sa rfl (sn (SC.ret (finR (wc (e' := [(2, .d (eI (8 : Int)))]) [] [] (by kernel_rfl) rfl (by kernel_rfl)) (lresT rfl lresN) rfl))))
   ·refine sk (sq (SC.seqP h0 (fun y => ⟨mk 42 [(1, .ref 0 0 0), (37, .d (eB y))], [.box (.d (eApiColumn p0))]⟩) ?_ ?_))
    ·intro u1_23 h1
     refine SC.region (s1 (far (k := 1) rfl fo77_1 ts3 rfl) (s1 (lod rfl (ld_box ts3 ta3 rfl rfl)) (s1 (bi rfl rfl q_i64_lss) (sm rfl (sp h1 (fun h1 => ?_) (fun h1 => ?_))))))
     ·refine gw rfl (far (k := 2) rfl fo77_2 ts3 rfl) (gw rfl (lod rfl (ld_box ts3 ta3 rfl rfl)) (gw rfl (bi rfl rfl q_i64_neq) (s1 (pkt rfl rfl) (sm rfl (sp h1 (fun h1 => ?_) (fun h1 => ?_))))))
      ·have q := si h1; subst q
       refine kw rfl (kw rfl (kw rfl (kw rfl (kw rfl (kw rfl (kw rfl (kw rfl (kw rfl (kw rfl ?_)))))))))
       exact kw rfl (kw rfl (kw rfl (s1 (pkt rfl rfl) (SO.nil ((wq rfl))))))
      ·refine gw rfl (far (k := 1) rfl fo77_1 ts3 rfl) (gw rfl (lod rfl (ld_box ts3 ta3 rfl rfl)) (gw rfl (bi rfl rfl q_i64_gtr) (gw rfl (mv rfl) (sp h1 (fun h1 => ?_) (fun h1 => ?_)))))
       ·refine gw rfl (far (k := 2) rfl fo77_2 ts3 rfl) (gw rfl (lod rfl (ld_box ts3 ta3 rfl rfl)) (gw rfl (bi rfl rfl q_i64_lss) (gw rfl (mv rfl) (sp h1 (fun h1 => ?_) (fun h1 => ?_)))))
        ·have q := si h1; subst q
         exact kw rfl (kw rfl (kw rfl (gw rfl (pkt rfl rfl) (gw rfl (pkt rfl rfl) (s1 (pkf rfl rfl) (SO.nil ((wq rfl))))))))
        ·have q := si h1; subst q
         exact gw rfl (far (k := 2) rfl fo77_2 ts3 rfl) (gw rfl (lod rfl (ld_box ts3 ta3 rfl rfl)) (gw rfl (bi rfl rfl q_i64_gtr) (gw rfl (pkf rfl rfl) (gw rfl (pkt rfl rfl) (s1 (pkf rfl rfl) (SO.nil ((wq rfl))))))))
       ·have q := si h1; subst q
        refine kw rfl (kw rfl (kw rfl (kw rfl (kw rfl (kw rfl (kw rfl (kw rfl (gw rfl (pkf rfl rfl) (s1 (pkf rfl rfl) ?_)))))))))
        exact SO.nil ((wq rfl))
     ·refine kw rfl (kw rfl (kw rfl (s1 (pkf rfl rfl) (sm rfl (gw rfl (far (k := 1) rfl fo77_1 ts3 rfl) (gw rfl (lod rfl (ld_box ts3 ta3 rfl rfl)) (gw rfl (bi rfl rfl q_i64_gtr) (gw rfl (mv rfl) (sp h1 (fun h1 => ?_) (fun h1 => ?_))))))))))
      ·refine gw rfl (far (k := 2) rfl fo77_2 ts3 rfl) (gw rfl (lod rfl (ld_box ts3 ta3 rfl rfl)) (gw rfl (bi rfl rfl q_i64_lss) (gw rfl (mv rfl) (sp h1 (fun h1 => ?_) (fun h1 => ?_)))))
       ·have q := si h1; subst q
        exact kw rfl (kw rfl (kw rfl (gw rfl (pkt rfl rfl) (gw rfl (pkt rfl rfl) (s1 (pkf rfl rfl) (SO.nil ((wq rfl))))))))
       ·have q := si h1; subst q
        exact gw rfl (far (k := 2) rfl fo77_2 ts3 rfl) (gw rfl (lod rfl (ld_box ts3 ta3 rfl rfl)) (gw rfl (bi rfl rfl q_i64_gtr) (gw rfl (pkf rfl rfl) (gw rfl (pkt rfl rfl) (s1 (pkf rfl rfl) (SO.nil ((wq rfl))))))))
      ·have q := si h1; subst q
       refine kw rfl (kw rfl (kw rfl (kw rfl (kw rfl (kw rfl (kw rfl (kw rfl (gw rfl (pkf rfl rfl) (s1 (pkf rfl rfl) ?_)))))))))
       exact SO.nil ((wq rfl))
    ·rintro y22 h0
     refine cB h0 rfl (fun h0 => ?_) (fun h0 => ?_)
     ·have q := si h0; subst q
      exact sr (sa rfl (sn (SC.ret (finR (wc (e' := [(2, .d (eI (7 : Int)))]) [] [] (by kernel_rfl) rfl (by kernel_rfl)) (lresT rfl lresN) rfl))))
     ·obtain ⟨r25, hq24, h0⟩ := ob h0; have q := si h0; subst q
      exact sk (sr (s1 (lod (v := .d (eApiColumn p0)) rfl (ld_box ts77 ta77 rfl rfl)) (s1 (far (k := 4) rfl fo77_4 ts68 rfl) (s1 (lod (v := .d (eApiValue p0.Default)) rfl (ld_box ts68 ta68 rfl rfl)) (c0 (ref06_Fits_ok p0 p0.Default _ hq24) wf rfl rfl rfl cb62 rfl (fun _ => rfl) (fun _ => rfl) (sa rfl (sn (SC.ret (finR (wc (e' := [(2, .d (eI r25))]) [] [] (by kernel_rfl) rfl (by kernel_rfl)) (lresT rfl lresN) rfl)))))))))
noncomputable def ref17_Has (p0 : List Int) (p1 : Int) : Option Bool :=
 bindE (Y := Unit) (E := Bool)
 (Option.bind (α := Unit ⊕ Bool)
 (loop (Y := Int) (W := Unit ⊕ Bool) (fun y46 =>
 bif (decide (y46 < (p0.length : Int))) then
 Option.bind (getI p0 y46) fun v51 =>
 bif (v51 == p1) then
 some (Sum.inr (Sum.inr true))
 else
 some (Sum.inl (w64 (y46 + (1 : Int))))
 else
 some (Sum.inr (Sum.inl ()))) (0 : Int))
 (Sum.elim (fun e => some (Sum.inl e)) (fun e => some (Sum.inr e))))
 (fun _ =>
 some false)
 (fun e => some e)
theorem ref17_Has_ok (p0 : List Int) (p1 : Int) (r : Bool) (h0 : ref17_Has p0 p1 = some r) : CallAt Tryz.prog 52 [.d ((eL 1 eI) p0), .d (eI p1)] [] (.d (eB r)) [] := by
 unfold ref17_Has at h0
 refine fn0 [0, 1] Tryz.func52 rfl rfl rfl rfl rfl ?_
 refine sr (sa rfl (sn (SC.seqB h0 (fun y => ⟨mk 18 [], []⟩) ?_ ?_)))
 ·intro u1_44 h1 h0
  obtain ⟨u2_50, h2, h1⟩ := ob h1
  refine sr (sa rfl (sn (SC.blk (SC.loopB h2 (fun y => ⟨mk 18 [(0, .d ((eL 1 eI) p0)), (1, .d (eI p1)), (5, .d (eI y))], []⟩) (wq rfl) ?_))))
  intro n52
  rintro y46 w2_49 h3 hv3
  refine sq (sr (sm rfl (sm rfl (s1 (len rfl rfl rfl (len_lst un23)) (s1 (bi rfl rfl q_i64_lss) (sn (cB h3 rfl (fun h3 => ?_) (fun h3 => ?_))))))))
  ·obtain ⟨v51, hv51, h3⟩ := ob h3
   refine sk (sq (SC.blk (sr (sm rfl (sm rfl (s1 (ial rfl rfl un23 ts3 (getI_some hv51).1 (map_get (getI_some hv51).2) rfl) (s1 (lod rfl (ld_rop ts3 ta3 rfl)) (sm rfl (s1 (bi rfl rfl q_i64_eql) ?_)))))))))
   refine sn (cB h3 rfl (fun h3 => ?_) (fun h3 => ?_))
   ·have q := si h3; subst q; have q : _ = _ := hv3; subst q; have q := si h1; subst q; have q := si h0; subst q
    exact sr (sa rfl (sn (SC.ret (finR (Wk.refl _) (lresT rfl lresN) rfl))))
   ·refine SC.skip ?_
    change SC _ _ _ _ _
    have q := si h3; subst q
    exact SC.region (sm rfl (s1 (bi rfl rfl q_i64_add) (sa rfl (SO.nil (lf (wq rfl))))))
  ·have q := si h3; subst q; have q : _ = _ := hv3; subst q; have q := si h1; subst q
   exact SC.exit (lf (wq rfl))
 ·intro _ h0
  have q := si h0; subst q
  exact sr (sa rfl (sn (SC.ret (finR (Wk.refl _) (lresT rfl lresN) rfl))))
end Lv
