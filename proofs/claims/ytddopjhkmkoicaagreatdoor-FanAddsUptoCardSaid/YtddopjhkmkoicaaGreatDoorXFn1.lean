/- Part of the proof of a law: functions and their walks. -/
import Derived.Test.YtddopjhkmkoicaaGreatDoorXFn0
namespace Lv
open Go Go.Proofs
set_option linter.unusedVariables false
set_option linter.unusedSimpArgs false
set_option linter.unusedSectionVars false
set_option maxRecDepth 100000
variable [BaseTab] [TabOk]
noncomputable def fan_Work_index_1_1 (p0 : ApiMsg) (p1 : ApiIndex) (p2 : List ForestOp) (p3 : List ApiLock) (p4 : List FanProbe) : Option ((List ApiLock)) :=
 Option.bind (fan_Work_do_2 p1.Tree p0 p2 p3 p4) fun _ =>
 bif p1.Ready then
 Option.bind (fan_Work_own_2 p1.Tree p0.Key (p2 ++ [(ForestOp.mk (1 : Int) p1.Tree p0)]) p3 p4) fun _ =>
 some (p3 ++ [(ApiLock.mk p1.Tree (ApiSpan.mk p0.Key (p0.Key ++ ([0] : List UInt8)) false) true)])
 else
 some p3
theorem fan_Work_index_1_1_ok (p0 : ApiMsg) (p1 : ApiIndex) (p2 : List ForestOp) (p3 : List ApiLock) (p4 : List FanProbe) (r : (List ApiLock)) (h0 : fan_Work_index_1_1 p0 p1 p2 p3 p4 = some r) : CallAt Tryz.prog 70 [.d (eApiMsg p0), .ref 0 0 0, .ref 1 0 0] [.box (.ref 2 0 0), .box (.d (eApiIndex p1)), .box (.agg [.slc 3 9 0 p2.length none, .slc 4 5 0 p3.length none, .slc 5 4 0 p4.length none]), .row 9 (List.map eForestOp p2) true, .row 5 (List.map eApiLock p3) true, .row 4 (List.map eFanProbe p4) true] (.tuple []) [.box (.ref 2 0 0), .box (.d (eApiIndex p1)), .box (.agg [.slc 6 9 0 ((p2 ++ [(ForestOp.mk (1 : Int) p1.Tree p0)]).length) none, .slc 7 5 0 r.length none, .slc 5 4 0 p4.length none]), .dead, .dead, .row 4 (List.map eFanProbe p4) true, .row 9 (List.map eForestOp (p2 ++ [(ForestOp.mk (1 : Int) p1.Tree p0)])) true, .row 5 (List.map eApiLock r) true] := by
 unfold fan_Work_index_1_1 at h0
 refine fn0 [0, 1, 2] Tryz.func70 rfl rfl rfl rfl rfl ?_
 obtain ⟨_, hq4, h0⟩ := ob h0
 refine sr (s1 (bxo (k := 6) rfl rfl rfl) (sn (sr (s1 (lod rfl (ld_box ts135 ta135 rfl rfl)) (s1 (far (k := 5) rfl fo82_5 ts3 rfl) (s1 (lod rfl (ld_box ts3 ta3 rfl rfl)) (s1 (lod (v := .d (eApiMsg p0)) rfl (ld_box ts63 ta63 rfl rfl)) (cq [2, 3, 4, 5] [7] (fan_Work_do_2_ok p1.Tree p0 p2 p3 p4 _ hq4) wf rfl rfl rfl cb34 rfl rfl rfl rfl rfl rfl rfl rfl (sn ?_)))))))))
 refine sr (s1 (far (k := 4) rfl fo82_4 ts4 rfl) (s1 (lod rfl (ld_box ts4 ta4 rfl rfl)) (sn (cB h0 rfl (fun h0 => ?_) (fun h0 => ?_)))))
 ·obtain ⟨_, hq5, h0⟩ := ob h0; have q := si h0; subst q
  exact SC.region (s1 (lod rfl (ld_box ts135 ta135 rfl rfl)) (s1 (far (k := 5) rfl fo82_5 ts3 rfl) (s1 (lod rfl (ld_box ts3 ta3 rfl rfl)) (s1 (far (k := 2) rfl fo63_2 ts9 rfl) (s1 (lod rfl (ld_box ts9 ta9 rfl rfl)) (cq [2, 7, 4, 5] [8] (fan_Work_own_2_ok p1.Tree p0.Key (p2 ++ [(ForestOp.mk (1 : Int) p1.Tree p0)]) p3 p4 _ hq5) wf rfl rfl rfl cb31 rfl rfl rfl rfl rfl rfl rfl rfl (SO.nil (finN (Wk.trans (wq (e' := []) rfl) (wc (e' := []) [0, 1, 2, 3, 4, 5, 7, 8] [0, 1, 2, 3, 4, 5] (by kernel_rfl) rfl (by kernel_rfl))) lresN rfl))))))))
 ·have q := si h0; subst q
  exact SC.skip (finN (Wk.trans (wq (e' := []) rfl) (Wk.trans (Wk.move (e' := []) (os := [.box (.ref 2 0 0), .box (.d (eApiIndex p1)), .box (.agg [.slc 7 9 0 ((p2 ++ [(ForestOp.mk (1 : Int) p1.Tree p0)]).length) none, .slc 8 5 0 p3.length none, .slc 5 4 0 p4.length none]), .dead, .row 5 (List.map eApiLock p3) true, .row 4 (List.map eFanProbe p4) true, .box (.d (eApiMsg p0)), .row 9 (List.map eForestOp (p2 ++ [(ForestOp.mk (1 : Int) p1.Tree p0)])) true]) (o := .row 5 (List.map eApiLock p3) true) (σ' := [.box (.ref 2 0 0), .box (.d (eApiIndex p1)), .box (.agg [.slc 7 9 0 ((p2 ++ [(ForestOp.mk (1 : Int) p1.Tree p0)]).length) none, .slc 8 5 0 p3.length none, .slc 5 4 0 p4.length none]), .dead, .dead, .row 4 (List.map eFanProbe p4) true, .box (.d (eApiMsg p0)), .row 9 (List.map eForestOp (p2 ++ [(ForestOp.mk (1 : Int) p1.Tree p0)])) true, .row 5 (List.map eApiLock p3) true]) 4 (Nat.le_of_ble_eq_true rfl) rfl rfl rfl rfl) (wc (e' := []) [0, 1, 2, 3, 4, 5, 7, 8] [0, 1, 2, 3, 4, 5] (by kernel_rfl) rfl (by kernel_rfl)))) lresN rfl)
noncomputable def fan_Work_index_2 (p0 : ApiTable) (p1 : ApiIndex) (p2 : FanSide) (p3 : FanSide) (p4 : List ForestOp) (p5 : List ApiLock) (p6 : List FanProbe) : Option ((List ForestOp) × (List ApiLock) × (List FanProbe)) :=
 Option.bind (α := (List UInt8) × ApiPair)
 (Option.bind (fan_side_there p2) fun _ =>
 bif (decide ((p2.row.length : Int) > (0 : Int))) then
 Option.bind (schema_Entry p0 p1 p2.row) fun (r81, r82) =>
 Option.bind (schema_Front p0 p1 p2.row) fun (r84, r85, r86) =>
 some (r84, r82)
 else
 some (([] : List UInt8), (ApiPair.mk ([] : List UInt8) ([] : List UInt8))))
 fun (y77, y78) =>
 Option.bind (α := (List UInt8) × Bool × ApiPair)
 (Option.bind (fan_side_there p3) fun _ =>
 bif (decide ((p3.row.length : Int) > (0 : Int))) then
 Option.bind (schema_Entry p0 p1 p3.row) fun (r101, r102) =>
 Option.bind (schema_Front p0 p1 p3.row) fun (r104, r105, r106) =>
 some (r104, r105, r102)
 else
 some (([] : List UInt8), false, (ApiPair.mk ([] : List UInt8) ([] : List UInt8))))
 fun (y96, y97, y98) =>
 bif (eqApiPair y78 y98) then
 some (p4, p5, p6)
 else
 Option.bind (α := (List ForestOp) × (List ApiLock))
 (Option.bind (α := Bool)
 (Option.bind (fan_side_there p2) fun _ =>
 bif (decide ((p2.row.length : Int) > (0 : Int))) then
 some (y78.Key != y98.Key)
 else
 some false)
 fun y118 =>
 bif y118 then
 Option.bind (fan_Work_index_1_1 (ApiMsg.mk (0 : UInt64) (2 : Int) y78.Key (0 : UInt64) ([] : List UInt8) (0 : Int) (0 : UInt64)) p1 p4 p5 p6) fun r121 =>
 some ((p4 ++ [(ForestOp.mk (1 : Int) p1.Tree (ApiMsg.mk (0 : UInt64) (2 : Int) y78.Key (0 : UInt64) ([] : List UInt8) (0 : Int) (0 : UInt64)))]), r121)
 else
 some (p4, p5))
 fun (y114, y115) =>
 Option.bind (fan_side_there p3) fun _ =>
 bif (!(decide ((p3.row.length : Int) > (0 : Int)))) then
 some (y114, y115, p6)
 else
 Option.bind (fan_Work_index_1_1 (ApiMsg.mk (0 : UInt64) (1 : Int) y98.Key (0 : UInt64) y98.Val (0 : Int) (0 : UInt64)) p1 y114 y115 p6) fun r124 =>
 Option.bind (α := Bool)
 (bif p1.Ready then
 bif p1.Unique then
 bif (!y97) then
 Option.bind (fan_side_there p2) fun _ =>
 bif (decide ((p2.row.length : Int) > (0 : Int))) then
 some (!(y77 == y96))
 else
 some true
 else
 some false
 else
 some false
 else
 some false)
 fun y127 =>
 bif y127 then
 Option.bind (key_Under y96) fun r130 =>
 bif decide ((r124.length + [(ApiLock.mk p1.Tree r130 false)].length) * 56 ≤ room) then
 bif decide ((p6.length + [(FanProbe.mk p1.Tree r130)].length) * 48 ≤ room) then
 some ((y114 ++ [(ForestOp.mk (1 : Int) p1.Tree (ApiMsg.mk (0 : UInt64) (1 : Int) y98.Key (0 : UInt64) y98.Val (0 : Int) (0 : UInt64)))]), (r124 ++ [(ApiLock.mk p1.Tree r130 false)]), (p6 ++ [(FanProbe.mk p1.Tree r130)]))
 else none
 else none
 else
 some ((y114 ++ [(ForestOp.mk (1 : Int) p1.Tree (ApiMsg.mk (0 : UInt64) (1 : Int) y98.Key (0 : UInt64) y98.Val (0 : Int) (0 : UInt64)))]), r124, p6)
theorem fan_Work_index_2_ok (p0 : ApiTable) (p1 : ApiIndex) (p2 : FanSide) (p3 : FanSide) (p4 : List ForestOp) (p5 : List ApiLock) (p6 : List FanProbe) (r : (List ForestOp) × (List ApiLock) × (List FanProbe)) (h0 : fan_Work_index_2 p0 p1 p2 p3 p4 p5 p6 = some r) : CallAt Tryz.prog 35 [.ref 0 0 0, .d (eApiTable p0), .d (eApiIndex p1), .d (eFanSide p2), .d (eFanSide p3)] [.box (.agg [.slc 1 9 0 p4.length none, .slc 2 5 0 p5.length none, .slc 3 4 0 p6.length none]), .row 9 (List.map eForestOp p4) true, .row 5 (List.map eApiLock p5) true, .row 4 (List.map eFanProbe p6) true] (.tuple []) [.box (.agg [.slc 4 9 0 r.1.length none, .slc 5 5 0 r.2.1.length none, .slc 6 4 0 r.2.2.length none]), .dead, .dead, .dead, .row 9 (List.map eForestOp r.1) true, .row 5 (List.map eApiLock r.2.1) true, .row 4 (List.map eFanProbe r.2.2) true] := by
 unfold fan_Work_index_2 at h0
 refine fn0 [0, 1, 2, 3, 4] Tryz.func35 rfl rfl rfl rfl rfl ?_
 refine sr (s1 (bxo (k := 4) rfl rfl rfl) (s1 (bxo (k := 5) rfl rfl rfl) (s1 (bxo (k := 6) rfl rfl rfl) (s1 (bxo (k := 7) rfl rfl rfl) (s1 (bxo (k := 8) rfl rfl rfl) (sn (sr (s1 (alo (k := 9) zo145 rfl) (s1 (alo (k := 10) zo145 rfl) ?_)))))))))
 refine sn (sr (s1 (asg (v := .d (eS ([] : List UInt8))) rfl) (s1 (asg (v := .d (eS ([] : List UInt8))) rfl) (sn (sr (sa rfl (sn (SC.seqP h0 (fun y => ⟨mk 131 [(5, .ref 4 0 0), (6, .ref 5 0 0), (7, .ref 6 0 0), (8, .ref 7 0 0), (9, .ref 8 0 0), (10, .ref 9 0 0), (11, .ref 10 0 0), (12, .d (eS y.1)), (13, .d (eS ([] : List UInt8))), (14, .d (eB false))], [.box (.agg [.slc 1 9 0 p4.length none, .slc 2 5 0 p5.length none, .slc 3 4 0 p6.length none]), .row 9 (List.map eForestOp p4) true, .row 5 (List.map eApiLock p5) true, .row 4 (List.map eFanProbe p6) true, .box (.ref 0 0 0), .box (.d (eApiTable p0)), .box (.d (eApiIndex p1)), .box (.d (eFanSide p2)), .box (.d (eFanSide p3)), .box (.d (eApiPair y.2)), .box (.d (eApiPair (ApiPair.mk ([] : List UInt8) ([] : List UInt8))))]⟩) ?_ ?_))))))))
 ·intro u1_79 h1
  obtain ⟨_, hq80, h1⟩ := ob h1
  refine sr (s1 (lod (v := .d (eFanSide p2)) rfl (ld_box ts91 ta91 rfl rfl)) (c0 (fan_side_there_ok p2 _ hq80) wf rfl rfl rfl cb30 rfl (fun _ => rfl) (fun _ => rfl) (sn (cB h1 rfl (fun h1 => ?_) (fun h1 => ?_)))))
  ·obtain ⟨⟨r81, r82⟩, hq83, h1⟩ := ob h1; obtain ⟨⟨r84, r85, r86⟩, hq87, h1⟩ := ob h1; have q := si h1; subst q
   refine sr (s1 (lod (v := .d (eApiTable p0)) rfl (ld_box ts26 ta26 rfl rfl)) (s1 (lod (v := .d (eApiIndex p1)) rfl (ld_box ts82 ta82 rfl rfl)) (s1 (far (k := 0) rfl fo91_0 ts28 rfl) (s1 (lod rfl (ld_box ts28 ta28 rfl rfl)) (cq [] [11] (schema_Entry_ok p0 p1 p2.row _ hq83) wf rfl rfl rfl cb68 rfl rfl rfl rfl rfl rfl rfl rfl (sm rfl (s1 (ext rfl rfl) (s1 (ext rfl rfl) (s0 (sto rfl rfl (sB (d' := .d (eApiPair r82)) ts145 rfl rfl rfl rfl rfl rfl rfl)) ?_)))))))))
   refine sn (SC.region (s1 (lod (v := .d (eApiTable p0)) rfl (ld_box ts26 ta26 rfl rfl)) (s1 (lod (v := .d (eApiIndex p1)) rfl (ld_box ts82 ta82 rfl rfl)) (s1 (far (k := 0) rfl fo91_0 ts28 rfl) (s1 (lod rfl (ld_box ts28 ta28 rfl rfl)) (c0 (schema_Front_ok p0 p1 p2.row _ hq87) wf rfl rfl rfl cb69 rfl (fun _ => rfl) (fun _ => rfl) (sm rfl (s1 (ext rfl rfl) (s1 (ext rfl rfl) ?_)))))))))
   exact s1 (ext rfl rfl) (sa rfl (SO.nil ((wc [0, 1, 2, 3, 4, 5, 6, 7, 8, 9, 10] [0, 1, 2, 3, 4, 5, 6, 7, 8, 9, 10] (by kernel_rfl) rfl (by kernel_rfl)))))
  ·have q := si h1; subst q
   exact SC.skip ((wq rfl))
 ·rintro ⟨y77, y78⟩ h0
  refine SC.seqP h0 (fun y => ⟨mk 131 [(5, .ref 4 0 0), (7, .ref 5 0 0), (8, .ref 6 0 0), (9, .ref 7 0 0), (10, .ref 8 0 0), (11, .ref 9 0 0), (12, .d (eS y77)), (13, .d (eS y.1)), (14, .d (eB y.2.1))], [.box (.agg [.slc 1 9 0 p4.length none, .slc 2 5 0 p5.length none, .slc 3 4 0 p6.length none]), .row 9 (List.map eForestOp p4) true, .row 5 (List.map eApiLock p5) true, .row 4 (List.map eFanProbe p6) true, .box (.ref 0 0 0), .box (.d (eApiIndex p1)), .box (.d (eFanSide p2)), .box (.d (eFanSide p3)), .box (.d (eApiPair y78)), .box (.d (eApiPair y.2.2))]⟩) ?_ ?_
  ·intro u1_99 h1
   obtain ⟨_, hq100, h1⟩ := ob h1
   refine sr (s1 (lod (v := .d (eFanSide p3)) rfl (ld_box ts91 ta91 rfl rfl)) (c0 (fan_side_there_ok p3 _ hq100) wf rfl rfl rfl cb30 rfl (fun _ => rfl) (fun _ => rfl) (sn (cB h1 rfl (fun h1 => ?_) (fun h1 => ?_)))))
   ·obtain ⟨⟨r101, r102⟩, hq103, h1⟩ := ob h1; obtain ⟨⟨r104, r105, r106⟩, hq107, h1⟩ := ob h1; have q := si h1; subst q
    refine sr (s1 (lod (v := .d (eApiTable p0)) rfl (ld_box ts26 ta26 rfl rfl)) (s1 (lod (v := .d (eApiIndex p1)) rfl (ld_box ts82 ta82 rfl rfl)) (s1 (far (k := 0) rfl fo91_0 ts28 rfl) (s1 (lod rfl (ld_box ts28 ta28 rfl rfl)) (cq [] [11] (schema_Entry_ok p0 p1 p3.row _ hq103) wf rfl rfl rfl cb68 rfl rfl rfl rfl rfl rfl rfl rfl (sm rfl (s1 (ext rfl rfl) (s1 (ext rfl rfl) (s0 (sto rfl rfl (sB (d' := .d (eApiPair r102)) ts145 rfl rfl rfl rfl rfl rfl rfl)) ?_)))))))))
    refine sn (SC.region (s1 (lod (v := .d (eApiTable p0)) rfl (ld_box ts26 ta26 rfl rfl)) (s1 (lod (v := .d (eApiIndex p1)) rfl (ld_box ts82 ta82 rfl rfl)) (s1 (far (k := 0) rfl fo91_0 ts28 rfl) (s1 (lod rfl (ld_box ts28 ta28 rfl rfl)) (c0 (schema_Front_ok p0 p1 p3.row _ hq107) wf rfl rfl rfl cb69 rfl (fun _ => rfl) (fun _ => rfl) (sm rfl (s1 (ext rfl rfl) (s1 (ext rfl rfl) ?_)))))))))
    exact s1 (ext rfl rfl) (sa rfl (sa rfl (SO.nil ((wc [0, 1, 2, 3, 4, 6, 7, 8, 9, 10] [0, 1, 2, 3, 4, 6, 7, 8, 9, 10] (by kernel_rfl) rfl (by kernel_rfl))))))
   ·have q := si h1; subst q
    exact SC.skip ((wc [0, 1, 2, 3, 4, 6, 7, 8, 9, 10] [0, 1, 2, 3, 4, 6, 7, 8, 9, 10] (by kernel_rfl) rfl (by kernel_rfl)))
  ·rintro ⟨y96, y97, y98⟩ h0
   refine sr (s1 (mkf rfl rfl) (sa rfl (sn (sq (sr (s1 (lod (v := .d (eApiPair y78)) rfl (ld_box ts145 ta145 rfl rfl)) (s1 (lod (v := .d (eApiPair y98)) rfl (ld_box ts145 ta145 rfl rfl)) (s1 (bi (v := .d (eB (eqApiPair y78 y98))) rfl rfl (fun X Y => eqApiPair_eql_145 X Y y78 y98)) (sn ?_)))))))))
   refine cB h0 rfl (fun h0 => ?_) (fun h0 => ?_)
   ·have q := si h0; subst q
    exact SC.ret (finR (Wk.trans (wq (e' := []) rfl) (Wk.trans (Wk.move (e' := []) (os := [.box (.agg [.slc 10 9 0 p4.length none, .slc 2 5 0 p5.length none, .slc 3 4 0 p6.length none]), .row 9 (List.map eForestOp p4) true, .row 5 (List.map eApiLock p5) true, .row 4 (List.map eFanProbe p6) true, .box (.ref 0 0 0), .box (.d (eApiIndex p1)), .box (.d (eFanSide p2)), .box (.d (eFanSide p3)), .box (.d (eApiPair y78)), .box (.d (eApiPair y98))]) (o := .row 9 (List.map eForestOp p4) true) (σ' := [.box (.agg [.slc 10 9 0 p4.length none, .slc 2 5 0 p5.length none, .slc 3 4 0 p6.length none]), .dead, .row 5 (List.map eApiLock p5) true, .row 4 (List.map eFanProbe p6) true, .box (.ref 0 0 0), .box (.d (eApiIndex p1)), .box (.d (eFanSide p2)), .box (.d (eFanSide p3)), .box (.d (eApiPair y78)), .box (.d (eApiPair y98)), .row 9 (List.map eForestOp p4) true]) 1 (Nat.le_of_ble_eq_true rfl) rfl rfl rfl rfl) (Wk.trans (Wk.move (e' := []) (os := [.box (.agg [.slc 10 9 0 p4.length none, .slc 11 5 0 p5.length none, .slc 3 4 0 p6.length none]), .dead, .row 5 (List.map eApiLock p5) true, .row 4 (List.map eFanProbe p6) true, .box (.ref 0 0 0), .box (.d (eApiIndex p1)), .box (.d (eFanSide p2)), .box (.d (eFanSide p3)), .box (.d (eApiPair y78)), .box (.d (eApiPair y98)), .row 9 (List.map eForestOp p4) true]) (o := .row 5 (List.map eApiLock p5) true) (σ' := [.box (.agg [.slc 10 9 0 p4.length none, .slc 11 5 0 p5.length none, .slc 3 4 0 p6.length none]), .dead, .dead, .row 4 (List.map eFanProbe p6) true, .box (.ref 0 0 0), .box (.d (eApiIndex p1)), .box (.d (eFanSide p2)), .box (.d (eFanSide p3)), .box (.d (eApiPair y78)), .box (.d (eApiPair y98)), .row 9 (List.map eForestOp p4) true, .row 5 (List.map eApiLock p5) true]) 2 (Nat.le_of_ble_eq_true rfl) rfl rfl rfl rfl) (Wk.trans (Wk.move (e' := []) (os := [.box (.agg [.slc 10 9 0 p4.length none, .slc 11 5 0 p5.length none, .slc 12 4 0 p6.length none]), .dead, .dead, .row 4 (List.map eFanProbe p6) true, .box (.ref 0 0 0), .box (.d (eApiIndex p1)), .box (.d (eFanSide p2)), .box (.d (eFanSide p3)), .box (.d (eApiPair y78)), .box (.d (eApiPair y98)), .row 9 (List.map eForestOp p4) true, .row 5 (List.map eApiLock p5) true]) (o := .row 4 (List.map eFanProbe p6) true) (σ' := [.box (.agg [.slc 10 9 0 p4.length none, .slc 11 5 0 p5.length none, .slc 12 4 0 p6.length none]), .dead, .dead, .dead, .box (.ref 0 0 0), .box (.d (eApiIndex p1)), .box (.d (eFanSide p2)), .box (.d (eFanSide p3)), .box (.d (eApiPair y78)), .box (.d (eApiPair y98)), .row 9 (List.map eForestOp p4) true, .row 5 (List.map eApiLock p5) true, .row 4 (List.map eFanProbe p6) true]) 3 (Nat.le_of_ble_eq_true rfl) rfl rfl rfl rfl) (wc (e' := []) [0, 1, 2, 3, 10, 11, 12] [0, 1, 2, 3] (by kernel_rfl) rfl (by kernel_rfl)))))) lresN rfl)
   ·refine sk (SC.seqP h0 (fun y => ⟨mk 131 [(5, .ref 4 0 0), (7, .ref 5 0 0), (8, .ref 6 0 0), (9, .ref 7 0 0), (11, .ref 8 0 0), (12, .d (eS y77)), (13, .d (eS y96)), (14, .d (eB y97)), (15, .fn (.func 70) [] [.ref 4 0 0, .ref 5 0 0])], [.box (.agg [.slc 9 9 0 y.1.length none, .slc 10 5 0 y.2.length none, .slc 3 4 0 p6.length none]), .dead, .dead, .row 4 (List.map eFanProbe p6) true, .box (.ref 0 0 0), .box (.d (eApiIndex p1)), .box (.d (eFanSide p2)), .box (.d (eFanSide p3)), .box (.d (eApiPair y98)), .row 9 (List.map eForestOp y.1) true, .row 5 (List.map eApiLock y.2) true]⟩) ?_ ?_)
    ·intro u1_116 h1
     refine SC.seqP h1 (fun y => ⟨mk 131 [(5, .ref 4 0 0), (7, .ref 5 0 0), (8, .ref 6 0 0), (9, .ref 7 0 0), (10, .ref 8 0 0), (11, .ref 9 0 0), (12, .d (eS y77)), (13, .d (eS y96)), (14, .d (eB y97)), (15, .fn (.func 70) [] [.ref 4 0 0, .ref 5 0 0]), (67, .d (eB y))], [.box (.agg [.slc 1 9 0 p4.length none, .slc 2 5 0 p5.length none, .slc 3 4 0 p6.length none]), .row 9 (List.map eForestOp p4) true, .row 5 (List.map eApiLock p5) true, .row 4 (List.map eFanProbe p6) true, .box (.ref 0 0 0), .box (.d (eApiIndex p1)), .box (.d (eFanSide p2)), .box (.d (eFanSide p3)), .box (.d (eApiPair y78)), .box (.d (eApiPair y98))]⟩) ?_ ?_
     ·intro u2_119 h2
      obtain ⟨_, hq120, h2⟩ := ob h2
      refine SC.region (s1 (lod (v := .d (eFanSide p2)) rfl (ld_box ts91 ta91 rfl rfl)) (c0 (fan_side_there_ok p2 _ hq120) wf rfl rfl rfl cb30 rfl (fun _ => rfl) (fun _ => rfl) (sm rfl (sp h2 (fun h2 => ?_) (fun h2 => ?_)))))
      ·have q := si h2; subst q
       exact gw rfl (far (k := 0) rfl fo145_0 ts9 rfl) (gw rfl (lod rfl (ld_box ts9 ta9 rfl rfl)) (gw rfl (far (k := 0) rfl fo145_0 ts9 rfl) (gw rfl (lod rfl (ld_box ts9 ta9 rfl rfl)) (gw rfl (bi rfl rfl q_str_neq) (s1 (pkt rfl rfl) (SO.nil ((wq rfl))))))))
      ·have q := si h2; subst q
       exact kw rfl (kw rfl (kw rfl (kw rfl (kw rfl (s1 (pkf rfl rfl) (SO.nil ((wq rfl))))))))
     ·rintro y118 h1
      refine cB h1 rfl (fun h1 => ?_) (fun h1 => ?_)
      ·obtain ⟨r121, hq122, h1⟩ := ob h1; have q := si h1; subst q
       exact SC.region (sm rfl (s1 (far (k := 0) rfl fo145_0 ts9 rfl) (s1 (lod rfl (ld_box ts9 ta9 rfl rfl)) (s1 (bld rfl (bd63_1_2 (2 : Int) y78.Key)) (cq [4, 5, 0, 1, 2, 3] [10, 11] (fan_Work_index_1_1_ok (ApiMsg.mk (0 : UInt64) (2 : Int) y78.Key (0 : UInt64) ([] : List UInt8) (0 : Int) (0 : UInt64)) p1 p4 p5 p6 _ hq122) wf rfl rfl rfl cb70 rfl rfl rfl rfl rfl rfl rfl rfl (SO.nil ((Wk.trans (wq (e' := [(5, .ref 4 0 0), (7, .ref 5 0 0), (8, .ref 6 0 0), (9, .ref 7 0 0), (11, .ref 9 0 0), (12, .d (eS y77)), (13, .d (eS y96)), (14, .d (eB y97)), (15, .fn (.func 70) [] [.ref 4 0 0, .ref 5 0 0])]) rfl) (wc [0, 1, 2, 3, 4, 5, 6, 7, 9, 10, 11] [0, 1, 2, 3, 4, 5, 6, 7, 9, 4, 5] (by kernel_rfl) rfl (by kernel_rfl))))))))))
      ·have q := si h1; subst q
       exact SC.skip ((Wk.trans (wq (e' := [(5, .ref 4 0 0), (7, .ref 5 0 0), (8, .ref 6 0 0), (9, .ref 7 0 0), (11, .ref 9 0 0), (12, .d (eS y77)), (13, .d (eS y96)), (14, .d (eB y97)), (15, .fn (.func 70) [] [.ref 4 0 0, .ref 5 0 0])]) rfl) (Wk.trans (Wk.move (e' := [(5, .ref 4 0 0), (7, .ref 5 0 0), (8, .ref 6 0 0), (9, .ref 7 0 0), (11, .ref 9 0 0), (12, .d (eS y77)), (13, .d (eS y96)), (14, .d (eB y97)), (15, .fn (.func 70) [] [.ref 4 0 0, .ref 5 0 0])]) (os := [.box (.agg [.slc 10 9 0 p4.length none, .slc 2 5 0 p5.length none, .slc 3 4 0 p6.length none]), .row 9 (List.map eForestOp p4) true, .row 5 (List.map eApiLock p5) true, .row 4 (List.map eFanProbe p6) true, .box (.ref 0 0 0), .box (.d (eApiIndex p1)), .box (.d (eFanSide p2)), .box (.d (eFanSide p3)), .box (.d (eApiPair y78)), .box (.d (eApiPair y98))]) (o := .row 9 (List.map eForestOp p4) true) (σ' := [.box (.agg [.slc 10 9 0 p4.length none, .slc 2 5 0 p5.length none, .slc 3 4 0 p6.length none]), .dead, .row 5 (List.map eApiLock p5) true, .row 4 (List.map eFanProbe p6) true, .box (.ref 0 0 0), .box (.d (eApiIndex p1)), .box (.d (eFanSide p2)), .box (.d (eFanSide p3)), .box (.d (eApiPair y78)), .box (.d (eApiPair y98)), .row 9 (List.map eForestOp p4) true]) 1 (Nat.le_of_ble_eq_true rfl) rfl rfl rfl rfl) (Wk.trans (Wk.move (e' := [(5, .ref 4 0 0), (7, .ref 5 0 0), (8, .ref 6 0 0), (9, .ref 7 0 0), (11, .ref 9 0 0), (12, .d (eS y77)), (13, .d (eS y96)), (14, .d (eB y97)), (15, .fn (.func 70) [] [.ref 4 0 0, .ref 5 0 0])]) (os := [.box (.agg [.slc 10 9 0 p4.length none, .slc 11 5 0 p5.length none, .slc 3 4 0 p6.length none]), .dead, .row 5 (List.map eApiLock p5) true, .row 4 (List.map eFanProbe p6) true, .box (.ref 0 0 0), .box (.d (eApiIndex p1)), .box (.d (eFanSide p2)), .box (.d (eFanSide p3)), .box (.d (eApiPair y78)), .box (.d (eApiPair y98)), .row 9 (List.map eForestOp p4) true]) (o := .row 5 (List.map eApiLock p5) true) (σ' := [.box (.agg [.slc 10 9 0 p4.length none, .slc 11 5 0 p5.length none, .slc 3 4 0 p6.length none]), .dead, .dead, .row 4 (List.map eFanProbe p6) true, .box (.ref 0 0 0), .box (.d (eApiIndex p1)), .box (.d (eFanSide p2)), .box (.d (eFanSide p3)), .box (.d (eApiPair y78)), .box (.d (eApiPair y98)), .row 9 (List.map eForestOp p4) true, .row 5 (List.map eApiLock p5) true]) 2 (Nat.le_of_ble_eq_true rfl) rfl rfl rfl rfl) (wc [0, 1, 2, 3, 4, 5, 6, 7, 9, 10, 11] [0, 1, 2, 3, 4, 5, 6, 7, 9, 4, 5] (by kernel_rfl) rfl (by kernel_rfl))))))
    ·rintro ⟨y114, y115⟩ h0
     obtain ⟨_, hq123, h0⟩ := ob h0
     refine sq (sr (s1 (lod (v := .d (eFanSide p3)) rfl (ld_box ts91 ta91 rfl rfl)) (c0 (fan_side_there_ok p3 _ hq123) wf rfl rfl rfl cb30 rfl (fun _ => rfl) (fun _ => rfl) (s1 (nt rfl) (sn (cB h0 rfl (fun h0 => ?_) (fun h0 => ?_)))))))
     ·have q := si h0; subst q
      exact SC.ret (finR (Wk.trans (wq (e' := []) rfl) (Wk.trans (Wk.move (e' := []) (os := [.box (.agg [.slc 9 9 0 y114.length none, .slc 10 5 0 y115.length none, .slc 11 4 0 p6.length none]), .dead, .dead, .row 4 (List.map eFanProbe p6) true, .box (.ref 0 0 0), .box (.d (eApiIndex p1)), .box (.d (eFanSide p2)), .box (.d (eFanSide p3)), .box (.d (eApiPair y98)), .row 9 (List.map eForestOp y114) true, .row 5 (List.map eApiLock y115) true]) (o := .row 4 (List.map eFanProbe p6) true) (σ' := [.box (.agg [.slc 9 9 0 y114.length none, .slc 10 5 0 y115.length none, .slc 11 4 0 p6.length none]), .dead, .dead, .dead, .box (.ref 0 0 0), .box (.d (eApiIndex p1)), .box (.d (eFanSide p2)), .box (.d (eFanSide p3)), .box (.d (eApiPair y98)), .row 9 (List.map eForestOp y114) true, .row 5 (List.map eApiLock y115) true, .row 4 (List.map eFanProbe p6) true]) 3 (Nat.le_of_ble_eq_true rfl) rfl rfl rfl rfl) (wc (e' := []) [0, 1, 2, 3, 9, 10, 11] [0, 1, 2, 3] (by kernel_rfl) rfl (by kernel_rfl)))) lresN rfl)
     ·obtain ⟨r124, hq125, h0⟩ := ob h0
      refine sk (sr (sm rfl (s1 (far (k := 0) rfl fo145_0 ts9 rfl) (s1 (lod rfl (ld_box ts9 ta9 rfl rfl)) (s1 (far (k := 1) rfl fo145_1 ts9 rfl) (s1 (lod rfl (ld_box ts9 ta9 rfl rfl)) (s1 (bld rfl (bd63_1_2_4 (1 : Int) y98.Key y98.Val)) (cq [4, 5, 0, 9, 10, 3] [11, 12] (fan_Work_index_1_1_ok (ApiMsg.mk (0 : UInt64) (1 : Int) y98.Key (0 : UInt64) y98.Val (0 : Int) (0 : UInt64)) p1 y114 y115 p6 _ hq125) wf rfl rfl rfl cb70 rfl rfl rfl rfl rfl rfl rfl rfl (sn ?_)))))))))
      refine SC.seqP h0 (fun y => ⟨mk 131 [(5, .ref 4 0 0), (7, .ref 5 0 0), (13, .d (eS y96)), (102, .d (eB y))], [.box (.agg [.slc 6 9 0 ((y114 ++ [(ForestOp.mk (1 : Int) p1.Tree (ApiMsg.mk (0 : UInt64) (1 : Int) y98.Key (0 : UInt64) y98.Val (0 : Int) (0 : UInt64)))]).length) none, .slc 7 5 0 r124.length none, .slc 3 4 0 p6.length none]), .dead, .dead, .row 4 (List.map eFanProbe p6) true, .box (.ref 0 0 0), .box (.d (eApiIndex p1)), .row 9 (List.map eForestOp (y114 ++ [(ForestOp.mk (1 : Int) p1.Tree (ApiMsg.mk (0 : UInt64) (1 : Int) y98.Key (0 : UInt64) y98.Val (0 : Int) (0 : UInt64)))])) true, .row 5 (List.map eApiLock r124) true]⟩) ?_ ?_
      ·intro u1_128 h1
       refine SC.region (s1 (far (k := 4) rfl fo82_4 ts4 rfl) (s1 (lod rfl (ld_box ts4 ta4 rfl rfl)) (sm rfl (sp h1 (fun h1 => ?_) (fun h1 => ?_)))))
       ·refine gw rfl (far (k := 3) rfl fo82_3 ts4 rfl) (gw rfl (lod rfl (ld_box ts4 ta4 rfl rfl)) (s1 (pkt rfl rfl) (sm rfl (sp h1 (fun h1 => ?_) (fun h1 => ?_)))))
        ·refine gw rfl (mv rfl) (gw rfl (nt rfl) (s1 (pkt rfl rfl) (sm rfl (sp h1 (fun h1 => ?_) (fun h1 => ?_)))))
         ·obtain ⟨_, hq129, h1⟩ := ob h1
          refine gw rfl (lod (v := .d (eFanSide p2)) rfl (ld_box ts91 ta91 rfl rfl)) (c0 (fan_side_there_ok p2 _ hq129) (ww rfl) rfl rfl rfl cb30 rfl (fun _ => rfl) (fun _ => rfl) (gw rfl (mv rfl) (sp h1 (fun h1 => ?_) (fun h1 => ?_))))
          ·have q := si h1; subst q
           exact gw rfl (mv rfl) (gw rfl (mv rfl) (gw rfl (bi rfl rfl q_str_eql) (gw rfl (pkt rfl rfl) (gw rfl (nt rfl) (s1 (pkt rfl rfl) (SO.nil ((wc [0, 1, 2, 3, 4, 5, 11, 12] [0, 1, 2, 3, 4, 5] (by kernel_rfl) rfl (by kernel_rfl)))))))))
          ·have q := si h1; subst q
           exact kw rfl (kw rfl (kw rfl (gw rfl (pkf rfl rfl) (gw rfl (uo (v := .d (eB true)) rfl rfl rfl) (s1 (pkt rfl rfl) (SO.nil ((wc [0, 1, 2, 3, 4, 5, 11, 12] [0, 1, 2, 3, 4, 5] (by kernel_rfl) rfl (by kernel_rfl)))))))))
         ·have q := si h1; subst q
          refine kw rfl (kw rfl (kw rfl (kw rfl (kw rfl (kw rfl (kw rfl (kw rfl (s1 (pkf rfl rfl) (SO.nil ?_)))))))))
          exact (wc [0, 1, 2, 3, 4, 5, 11, 12] [0, 1, 2, 3, 4, 5] (by kernel_rfl) rfl (by kernel_rfl))
        ·have q := si h1; subst q
         refine kw rfl (kw rfl (s1 (pkf rfl rfl) (sm rfl (kw rfl (kw rfl (kw rfl (kw rfl (kw rfl (kw rfl ?_)))))))))
         exact kw rfl (kw rfl (s1 (pkf rfl rfl) (SO.nil ((wc [0, 1, 2, 3, 4, 5, 11, 12] [0, 1, 2, 3, 4, 5] (by kernel_rfl) rfl (by kernel_rfl))))))
       ·have q := si h1; subst q
        refine kw rfl (kw rfl (s1 (pkf rfl rfl) (sm rfl (kw rfl (kw rfl (s1 (pkf rfl rfl) (sm rfl (kw rfl (kw rfl ?_)))))))))
        exact kw rfl (kw rfl (kw rfl (kw rfl (kw rfl (kw rfl (s1 (pkf rfl rfl) (SO.nil ((wc [0, 1, 2, 3, 4, 5, 11, 12] [0, 1, 2, 3, 4, 5] (by kernel_rfl) rfl (by kernel_rfl))))))))))
      ·rintro y127 h0
       refine cB h0 rfl (fun h0 => ?_) (fun h0 => ?_)
       ·obtain ⟨r130, hq131, h0⟩ := ob h0; obtain ⟨hg132, h0⟩ := gd h0; obtain ⟨hg133, h0⟩ := gd h0; have q := si h0; subst q
        refine sr (sm rfl (cq [] [8] (key_Under_ok y96 _ hq131) wf rfl rfl rfl cb71 rfl rfl rfl rfl rfl rfl rfl rfl (s1 (alo (k := 9) zo31 rfl) (s0 (sto rfl rfl (sB (d' := .d (eApiSpan r130)) ts31 rfl rfl rfl rfl rfl rfl rfl)) (sn (sd (by kernel_rfl) (t1 ([4], false) (lod rfl (ld_box ts135 ta135 rfl rfl)) rfl (t1 ([4], false) (lod rfl (ld_box ts135 ta135 rfl rfl)) rfl (t1 ([], false) (nkr rfl) rfl ?_)))))))))
        refine t1 ([], false) (far (k := 1) rfl fo40_1 ts37 rfl) rfl (t1 ([0], false) (lod rfl (ld_box ts37 ta37 rfl rfl)) rfl (t1 ([], false) (far (k := 5) rfl fo82_5 ts3 rfl) rfl (t1 ([5], false) (lod rfl (ld_box ts3 ta3 rfl rfl)) rfl (t1 ([9], false) (lod (v := .d (eApiSpan r130)) rfl (ld_box ts31 ta31 rfl rfl)) rfl (t1 ([], false) (bld rfl (bd137_0_1 p1.Tree r130)) rfl (t1 ([10], true) (bsn (k := 10) (ds := List.map eApiLock [(ApiLock.mk p1.Tree r130 false)]) (off := 0) (l' := [(ApiLock.mk p1.Tree r130 false)].length) rfl un37 ei137 rfl rfl (by rfl) rfl rfl rfl) rfl (t1 ([7, 10, 11], true) (app rfl rfl rfl rfl bc37 (aF (f := eApiLock) (xs := r124) (k := 11) rfl un37 ei137 rfl (el_full (xs := [(ApiLock.mk p1.Tree r130 false)]) rfl) hg132 rfl)) rfl (t1 ([], false) (nkr rfl) rfl (t1 ([], false) (far (k := 1) rfl fo40_1 ts37 rfl) rfl ?_)))))))))
        refine t0 ([0, 11], true) (sto rfl rfl (sB (d' := .agg [.slc 6 9 0 ((y114 ++ [(ForestOp.mk (1 : Int) p1.Tree (ApiMsg.mk (0 : UInt64) (1 : Int) y98.Key (0 : UInt64) y98.Val (0 : Int) (0 : UInt64)))]).length) none, .slc 11 5 0 ((r124 ++ [(ApiLock.mk p1.Tree r130 false)]).length) none, .slc 3 4 0 p6.length none]) ts37 rfl rfl rfl rfl rfl rfl rfl)) rfl (tn (by decide +kernel) (SC.draws (by kernel_rfl) (t1 ([4], false) (lod rfl (ld_box ts135 ta135 rfl rfl)) rfl (t1 ([4], false) (lod rfl (ld_box ts135 ta135 rfl rfl)) rfl (t1 ([], false) (nkr rfl) rfl (t1 ([], false) (far (k := 2) rfl fo40_2 ts38 rfl) rfl (t1 ([0], false) (lod rfl (ld_box ts38 ta38 rfl rfl)) rfl (t1 ([], false) (far (k := 5) rfl fo82_5 ts3 rfl) rfl (t1 ([5], false) (lod rfl (ld_box ts3 ta3 rfl rfl)) rfl ?_)))))))))
        refine t1 ([9], false) (lod (v := .d (eApiSpan r130)) rfl (ld_box ts31 ta31 rfl rfl)) rfl (t1 ([], false) (bld rfl (bd110_0_1 p1.Tree r130)) rfl (t1 ([12], true) (bsn (k := 12) (ds := List.map eFanProbe [(FanProbe.mk p1.Tree r130)]) (off := 0) (l' := [(FanProbe.mk p1.Tree r130)].length) rfl un38 ei110 rfl rfl (by rfl) rfl rfl rfl) rfl (t1 ([3, 12, 13], true) (app rfl rfl rfl rfl bc38 (aF (f := eFanProbe) (xs := p6) (k := 13) rfl un38 ei110 rfl (el_full (xs := [(FanProbe.mk p1.Tree r130)]) rfl) hg133 rfl)) rfl (t1 ([], false) (nkr rfl) rfl (t1 ([], false) (far (k := 2) rfl fo40_2 ts38 rfl) rfl (t0 ([0, 13], true) (sto rfl rfl (sB (d' := .agg [.slc 6 9 0 ((y114 ++ [(ForestOp.mk (1 : Int) p1.Tree (ApiMsg.mk (0 : UInt64) (1 : Int) y98.Key (0 : UInt64) y98.Val (0 : Int) (0 : UInt64)))]).length) none, .slc 11 5 0 ((r124 ++ [(ApiLock.mk p1.Tree r130 false)]).length) none, .slc 13 4 0 ((p6 ++ [(FanProbe.mk p1.Tree r130)]).length) none]) ts38 rfl rfl rfl rfl rfl rfl rfl)) rfl (ST.nil (And.intro (by decide +kernel) ?_))))))))
        exact finN (Wk.trans (wq (e' := []) rfl) (wc (e' := []) [0, 1, 2, 3, 6, 11, 13] [0, 1, 2, 3] (by kernel_rfl) rfl (by kernel_rfl))) lresN rfl
       ·have q := si h0; subst q
        exact SC.skip (finN (Wk.trans (wq (e' := []) rfl) (Wk.trans (Wk.move (e' := []) (os := [.box (.agg [.slc 6 9 0 ((y114 ++ [(ForestOp.mk (1 : Int) p1.Tree (ApiMsg.mk (0 : UInt64) (1 : Int) y98.Key (0 : UInt64) y98.Val (0 : Int) (0 : UInt64)))]).length) none, .slc 7 5 0 r124.length none, .slc 8 4 0 p6.length none]), .dead, .dead, .row 4 (List.map eFanProbe p6) true, .box (.ref 0 0 0), .box (.d (eApiIndex p1)), .row 9 (List.map eForestOp (y114 ++ [(ForestOp.mk (1 : Int) p1.Tree (ApiMsg.mk (0 : UInt64) (1 : Int) y98.Key (0 : UInt64) y98.Val (0 : Int) (0 : UInt64)))])) true, .row 5 (List.map eApiLock r124) true]) (o := .row 4 (List.map eFanProbe p6) true) (σ' := [.box (.agg [.slc 6 9 0 ((y114 ++ [(ForestOp.mk (1 : Int) p1.Tree (ApiMsg.mk (0 : UInt64) (1 : Int) y98.Key (0 : UInt64) y98.Val (0 : Int) (0 : UInt64)))]).length) none, .slc 7 5 0 r124.length none, .slc 8 4 0 p6.length none]), .dead, .dead, .dead, .box (.ref 0 0 0), .box (.d (eApiIndex p1)), .row 9 (List.map eForestOp (y114 ++ [(ForestOp.mk (1 : Int) p1.Tree (ApiMsg.mk (0 : UInt64) (1 : Int) y98.Key (0 : UInt64) y98.Val (0 : Int) (0 : UInt64)))])) true, .row 5 (List.map eApiLock r124) true, .row 4 (List.map eFanProbe p6) true]) 3 (Nat.le_of_ble_eq_true rfl) rfl rfl rfl rfl) (wc (e' := []) [0, 1, 2, 3, 6, 7, 8] [0, 1, 2, 3] (by kernel_rfl) rfl (by kernel_rfl)))) lresN rfl)
noncomputable def fan_Change (p0 : ApiTable) (p1 : List FanBuilt) (p2 : List ApiValue) (p3 : List ApiValue) : Option (Int × (List ForestOp) × (List ApiLock) × (List FanProbe)) :=
 Option.bind (α := Bool)
 (bif ((p1.length : Int) != (p0.Indexes.length : Int)) then
 some true
 else
 bif ((p2.length : Int) == (0 : Int)) then
 some ((p3.length : Int) == (0 : Int))
 else
 some false)
 fun y224 =>
 bif y224 then
 some ((1 : Int), ([] : List ForestOp), ([] : List ApiLock), ([] : List FanProbe))
 else
 Option.bind (fan_read p0 p2) fun (r226, r227) =>
 bif (r226 != (0 : Int)) then
 some (r226, ([] : List ForestOp), ([] : List ApiLock), ([] : List FanProbe))
 else
 Option.bind (fan_read p0 p3) fun (r229, r230) =>
 bif (r229 != (0 : Int)) then
 some (r229, ([] : List ForestOp), ([] : List ApiLock), ([] : List FanProbe))
 else
 bindE (Y := (List UInt8)) (E := Int × (List ForestOp) × (List ApiLock) × (List FanProbe))
 (Option.bind (fan_side_there r230) fun _ =>
 bif (!(decide ((r230.row.length : Int) > (0 : Int)))) then
 some (Sum.inl r227.primary)
 else
 Option.bind (α := Bool)
 (Option.bind (fan_side_there r227) fun _ =>
 bif (decide ((r227.row.length : Int) > (0 : Int))) then
 some (r227.primary != r230.primary)
 else
 some false)
 fun y241 =>
 bif y241 then
 some (Sum.inr ((1 : Int), ([] : List ForestOp), ([] : List ApiLock), ([] : List FanProbe)))
 else
 some (Sum.inl r230.primary))
 (fun y237 =>
 Option.bind (fan_Work_own p0.Tree y237) fun _ =>
 Option.bind (slices_Equal_api_Value_api_Value p2 p3) fun r245 =>
 bif r245 then
 some ((0 : Int), ([] : List ForestOp), [(ApiLock.mk p0.Tree (ApiSpan.mk y237 (y237 ++ ([0] : List UInt8)) false) true)], ([] : List FanProbe))
 else
 bindE (Y := (List ForestOp)) (E := Int × (List ForestOp) × (List ApiLock) × (List FanProbe))
 (Option.bind (fan_side_there r230) fun _ =>
 bif (decide ((r230.row.length : Int) > (0 : Int))) then
 Option.bind (row_Encode p0.Cols p3) fun (r256, r257) =>
 bif (r257 != (0 : Int)) then
 some (Sum.inr (r257, ([] : List ForestOp), ([] : List ApiLock), ([] : List FanProbe)))
 else
 Option.bind (fan_Work_do p0.Tree (ApiMsg.mk (0 : UInt64) (1 : Int) y237 (0 : UInt64) r256 (0 : Int) (0 : UInt64)) [(ApiLock.mk p0.Tree (ApiSpan.mk y237 (y237 ++ ([0] : List UInt8)) false) true)]) fun _ =>
 some (Sum.inl [(ForestOp.mk (1 : Int) p0.Tree (ApiMsg.mk (0 : UInt64) (1 : Int) y237 (0 : UInt64) r256 (0 : Int) (0 : UInt64)))])
 else
 Option.bind (fan_Work_do p0.Tree (ApiMsg.mk (0 : UInt64) (2 : Int) y237 (0 : UInt64) ([] : List UInt8) (0 : Int) (0 : UInt64)) [(ApiLock.mk p0.Tree (ApiSpan.mk y237 (y237 ++ ([0] : List UInt8)) false) true)]) fun _ =>
 some (Sum.inl [(ForestOp.mk (1 : Int) p0.Tree (ApiMsg.mk (0 : UInt64) (2 : Int) y237 (0 : UInt64) ([] : List UInt8) (0 : Int) (0 : UInt64)))]))
 (fun y253 =>
 Option.bind (α := (List ForestOp) × (List ApiLock) × (List FanProbe))
 (Option.bind (α := (List ForestOp) × (List ApiLock) × (List FanProbe))
 (loop (Y := Int × (List ForestOp) × (List ApiLock) × (List FanProbe)) (W := (List ForestOp) × (List ApiLock) × (List FanProbe)) (fun (y380, y381, y382, y383) =>
 bif (decide (y380 < (p0.Indexes.length : Int))) then
 Option.bind (α := (List ForestOp) × (List ApiLock) × (List FanProbe))
 (Option.bind (getI p0.Indexes y380) fun v431 =>
 Option.bind (α := Bool)
 (bif v431.Ready then
 some true
 else
 Option.bind (getI p1 y380) fun v436 =>
 bif v436.Any then
 Option.bind (getI p1 y380) fun v437 =>
 some (ltS y237 v437.Key || y237 == v437.Key)
 else
 some false)
 fun y434 =>
 bif y434 then
 Option.bind (fan_Work_index_2 p0 v431 r227 r230 y381 y382 y383) fun (r438, r439, r440) =>
 some (r438, r439, r440)
 else
 some (y381, y382, y383))
 fun (y427, y428, y429) =>
 some (Sum.inl ((w64 (y380 + (1 : Int))), y427, y428, y429))
 else
 some (Sum.inr (y381, y382, y383))) ((0 : Int), y253, [(ApiLock.mk p0.Tree (ApiSpan.mk y237 (y237 ++ ([0] : List UInt8)) false) true)], ([] : List FanProbe)))
 (fun e => some e))
 fun (y350, y351, y352) =>
 some ((0 : Int), y350, y351, y352))
 (fun e => some e))
 (fun e => some e)
theorem fan_Change_ok (p0 : ApiTable) (p1 : List FanBuilt) (p2 : List ApiValue) (p3 : List ApiValue) (r : Int × (List ForestOp) × (List ApiLock) × (List FanProbe)) (h0 : fan_Change p0 p1 p2 p3 = some r) : CallAt Tryz.prog 10 [.d (eApiTable p0), .d ((eL 2 eFanBuilt) p1), .d ((eL 3 eApiValue) p2), .d ((eL 3 eApiValue) p3)] [] (.tuple [.agg [.slc 1 9 0 r.2.1.length none, .slc 2 5 0 r.2.2.1.length none, .slc 3 4 0 r.2.2.2.length none], .d (eI r.1)]) [.box (.agg [.slc 1 9 0 r.2.1.length none, .slc 2 5 0 r.2.2.1.length none, .slc 3 4 0 r.2.2.2.length none]), .row 9 (List.map eForestOp r.2.1) true, .row 5 (List.map eApiLock r.2.2.1) true, .row 4 (List.map eFanProbe r.2.2.2) true] := by
 unfold fan_Change at h0
 refine fn0 [0, 1, 2, 3] Tryz.func10 rfl rfl rfl rfl rfl ?_
 refine sr (s1 (bxo (k := 0) rfl rfl rfl) (s1 (alo (k := 1) zo40 rfl) (sa rfl (sn (sq (SC.seqP h0 (fun y => ⟨mk 139 [(1, .d ((eL 2 eFanBuilt) p1)), (2, .d ((eL 3 eApiValue) p2)), (3, .d ((eL 3 eApiValue) p3)), (4, .ref 0 0 0), (8, .ref 1 0 0), (34, .d (eB y))], [.box (.d (eApiTable p0)), .box (.d (.agg [.nils, .nils, .nils]))]⟩) ?_ ?_))))))
 ·intro u1_225 h1
  refine SC.region (sm rfl (s1 (len rfl rfl rfl (len_lst un27)) (s1 (far (k := 3) rfl fo26_3 ts24 rfl) (s1 (lod rfl (ld_box ts24 ta24 rfl rfl)) (s1 (len rfl rfl rfl (len_lst un24)) (s1 (bi rfl rfl q_i64_neq) (sm rfl (sp h1 (fun h1 => ?_) (fun h1 => ?_)))))))))
  ·have q := si h1; subst q
   refine kw rfl (kw rfl (kw rfl (kw rfl (kw rfl (kw rfl (kw rfl (kw rfl (s1 (pkt rfl rfl) (SO.nil ?_)))))))))
   exact (wq rfl)
  ·refine gw rfl (mv rfl) (gw rfl (len rfl rfl rfl (len_lst un28)) (gw rfl (bi rfl rfl q_i64_eql) (gw rfl (mv rfl) (sp h1 (fun h1 => ?_) (fun h1 => ?_)))))
   ·have q := si h1; subst q
    exact gw rfl (mv rfl) (gw rfl (len rfl rfl rfl (len_lst un28)) (gw rfl (bi rfl rfl q_i64_eql) (gw rfl (pkt rfl rfl) (s1 (pkf rfl rfl) (SO.nil ((wq rfl)))))))
   ·have q := si h1; subst q
    exact kw rfl (kw rfl (kw rfl (gw rfl (pkf rfl rfl) (s1 (pkf rfl rfl) (SO.nil ((wq rfl)))))))
 ·rintro y224 h0
  refine cB h0 rfl (fun h0 => ?_) (fun h0 => ?_)
  ·have q := si h0; subst q
   exact sr (s1 (bld rfl (bd40_ )) (s0 (sto rfl rfl (sB (d' := .d (.agg [.nils, .nils, .nils])) ts40 rfl rfl rfl rfl rfl rfl rfl)) (sa rfl (sn (SC.ret (finR (Wk.trans (Wk.pushE (σ' := [.box (.d (eApiTable p0)), .box (.d (.agg [.nils, .nils, .nils])), .row 9 (List.map eForestOp ([] : List ForestOp)) true]) (.row 9 [] true) (fun _ hh => by cases hh) rfl) (Wk.trans (Wk.boxE (id := 1) (y := .agg [.slc 2 9 0 (([] : List ForestOp).length) none, .d .nils, .d .nils]) (σ' := [.box (.d (eApiTable p0)), .box (.agg [.slc 2 9 0 (([] : List ForestOp).length) none, .d .nils, .d .nils]), .row 9 (List.map eForestOp ([] : List ForestOp)) true]) rfl (AWs.cons (AW.slcn _ _ _) (AWs.cons (AW.refl _) (AWs.cons (AW.refl _) AWs.nil))) rfl) (Wk.trans (Wk.pushE (σ' := [.box (.d (eApiTable p0)), .box (.agg [.slc 2 9 0 (([] : List ForestOp).length) none, .d .nils, .d .nils]), .row 9 (List.map eForestOp ([] : List ForestOp)) true, .row 5 (List.map eApiLock ([] : List ApiLock)) true]) (.row 5 [] true) (fun _ hh => by cases hh) rfl) (Wk.trans (Wk.boxE (id := 1) (y := .agg [.slc 2 9 0 (([] : List ForestOp).length) none, .slc 3 5 0 (([] : List ApiLock).length) none, .d .nils]) (σ' := [.box (.d (eApiTable p0)), .box (.agg [.slc 2 9 0 (([] : List ForestOp).length) none, .slc 3 5 0 (([] : List ApiLock).length) none, .d .nils]), .row 9 (List.map eForestOp ([] : List ForestOp)) true, .row 5 (List.map eApiLock ([] : List ApiLock)) true]) rfl (AWs.cons (AW.refl _) (AWs.cons (AW.slcn _ _ _) (AWs.cons (AW.refl _) AWs.nil))) rfl) (Wk.trans (Wk.pushE (σ' := [.box (.d (eApiTable p0)), .box (.agg [.slc 2 9 0 (([] : List ForestOp).length) none, .slc 3 5 0 (([] : List ApiLock).length) none, .d .nils]), .row 9 (List.map eForestOp ([] : List ForestOp)) true, .row 5 (List.map eApiLock ([] : List ApiLock)) true, .row 4 (List.map eFanProbe ([] : List FanProbe)) true]) (.row 4 [] true) (fun _ hh => by cases hh) rfl) (Wk.trans (Wk.boxE (id := 1) (y := .agg [.slc 2 9 0 (([] : List ForestOp).length) none, .slc 3 5 0 (([] : List ApiLock).length) none, .slc 4 4 0 (([] : List FanProbe).length) none]) (σ' := [.box (.d (eApiTable p0)), .box (.agg [.slc 2 9 0 (([] : List ForestOp).length) none, .slc 3 5 0 (([] : List ApiLock).length) none, .slc 4 4 0 (([] : List FanProbe).length) none]), .row 9 (List.map eForestOp ([] : List ForestOp)) true, .row 5 (List.map eApiLock ([] : List ApiLock)) true, .row 4 (List.map eFanProbe ([] : List FanProbe)) true]) rfl (AWs.cons (AW.refl _) (AWs.cons (AW.refl _) (AWs.cons (AW.slcn _ _ _) AWs.nil))) rfl) (wc (e' := [(8, .ref 0 0 0), (9, .d (eI (1 : Int)))]) [1, 2, 3, 4] [1] (by kernel_rfl) rfl (by kernel_rfl)))))))) (lresC rfl (ld_box ts40 ta40 rfl rfl) (lresT rfl lresN)) rfl))))))
  ·obtain ⟨⟨r226, r227⟩, hq228, h0⟩ := ob h0
   refine sk (sr (s1 (lod (v := .d (eApiTable p0)) rfl (ld_box ts26 ta26 rfl rfl)) (sm rfl (cq [] [2] (fan_read_ok p0 p2 _ hq228) wf rfl rfl rfl cb29 rfl rfl rfl rfl rfl rfl rfl rfl (sm rfl (s1 (ext rfl rfl) (s1 (ext rfl rfl) (s1 (alo (k := 3) zo91 rfl) (s0 (sto rfl rfl (sB (d' := .d (eFanSide r227)) ts91 rfl rfl rfl rfl rfl rfl rfl)) ?_)))))))))
   refine sa rfl (sn (sq (sr (sm rfl (s1 (bi rfl rfl q_i64_neq) (sn (cB h0 rfl (fun h0 => ?_) (fun h0 => ?_))))))))
   ·have q := si h0; subst q
    exact sr (s1 (bld rfl (bd40_ )) (sm rfl (s0 (sto rfl rfl (sB (d' := .d (.agg [.nils, .nils, .nils])) ts40 rfl rfl rfl rfl rfl rfl rfl)) (sa rfl (sn (SC.ret (finR (Wk.trans (Wk.pushE (σ' := [.box (.d (eApiTable p0)), .box (.d (.agg [.nils, .nils, .nils])), .box (.d (eFanSide r227)), .box (.d (eFanSide r227)), .row 9 (List.map eForestOp ([] : List ForestOp)) true]) (.row 9 [] true) (fun _ hh => by cases hh) rfl) (Wk.trans (Wk.boxE (id := 1) (y := .agg [.slc 4 9 0 (([] : List ForestOp).length) none, .d .nils, .d .nils]) (σ' := [.box (.d (eApiTable p0)), .box (.agg [.slc 4 9 0 (([] : List ForestOp).length) none, .d .nils, .d .nils]), .box (.d (eFanSide r227)), .box (.d (eFanSide r227)), .row 9 (List.map eForestOp ([] : List ForestOp)) true]) rfl (AWs.cons (AW.slcn _ _ _) (AWs.cons (AW.refl _) (AWs.cons (AW.refl _) AWs.nil))) rfl) (Wk.trans (Wk.pushE (σ' := [.box (.d (eApiTable p0)), .box (.agg [.slc 4 9 0 (([] : List ForestOp).length) none, .d .nils, .d .nils]), .box (.d (eFanSide r227)), .box (.d (eFanSide r227)), .row 9 (List.map eForestOp ([] : List ForestOp)) true, .row 5 (List.map eApiLock ([] : List ApiLock)) true]) (.row 5 [] true) (fun _ hh => by cases hh) rfl) (Wk.trans (Wk.boxE (id := 1) (y := .agg [.slc 4 9 0 (([] : List ForestOp).length) none, .slc 5 5 0 (([] : List ApiLock).length) none, .d .nils]) (σ' := [.box (.d (eApiTable p0)), .box (.agg [.slc 4 9 0 (([] : List ForestOp).length) none, .slc 5 5 0 (([] : List ApiLock).length) none, .d .nils]), .box (.d (eFanSide r227)), .box (.d (eFanSide r227)), .row 9 (List.map eForestOp ([] : List ForestOp)) true, .row 5 (List.map eApiLock ([] : List ApiLock)) true]) rfl (AWs.cons (AW.refl _) (AWs.cons (AW.slcn _ _ _) (AWs.cons (AW.refl _) AWs.nil))) rfl) (Wk.trans (Wk.pushE (σ' := [.box (.d (eApiTable p0)), .box (.agg [.slc 4 9 0 (([] : List ForestOp).length) none, .slc 5 5 0 (([] : List ApiLock).length) none, .d .nils]), .box (.d (eFanSide r227)), .box (.d (eFanSide r227)), .row 9 (List.map eForestOp ([] : List ForestOp)) true, .row 5 (List.map eApiLock ([] : List ApiLock)) true, .row 4 (List.map eFanProbe ([] : List FanProbe)) true]) (.row 4 [] true) (fun _ hh => by cases hh) rfl) (Wk.trans (Wk.boxE (id := 1) (y := .agg [.slc 4 9 0 (([] : List ForestOp).length) none, .slc 5 5 0 (([] : List ApiLock).length) none, .slc 6 4 0 (([] : List FanProbe).length) none]) (σ' := [.box (.d (eApiTable p0)), .box (.agg [.slc 4 9 0 (([] : List ForestOp).length) none, .slc 5 5 0 (([] : List ApiLock).length) none, .slc 6 4 0 (([] : List FanProbe).length) none]), .box (.d (eFanSide r227)), .box (.d (eFanSide r227)), .row 9 (List.map eForestOp ([] : List ForestOp)) true, .row 5 (List.map eApiLock ([] : List ApiLock)) true, .row 4 (List.map eFanProbe ([] : List FanProbe)) true]) rfl (AWs.cons (AW.refl _) (AWs.cons (AW.refl _) (AWs.cons (AW.slcn _ _ _) AWs.nil))) rfl) (wc (e' := [(8, .ref 0 0 0), (9, .d (eI r226))]) [1, 4, 5, 6] [1] (by kernel_rfl) rfl (by kernel_rfl)))))))) (lresC rfl (ld_box ts40 ta40 rfl rfl) (lresT rfl lresN)) rfl)))))))
   ·obtain ⟨⟨r229, r230⟩, hq231, h0⟩ := ob h0
    refine sk (sr (s1 (lod (v := .d (eApiTable p0)) rfl (ld_box ts26 ta26 rfl rfl)) (sm rfl (cq [] [4] (fan_read_ok p0 p3 _ hq231) wf rfl rfl rfl cb29 rfl rfl rfl rfl rfl rfl rfl rfl (sm rfl (s1 (ext rfl rfl) (s1 (ext rfl rfl) (s1 (alo (k := 5) zo91 rfl) (s0 (sto rfl rfl (sB (d' := .d (eFanSide r230)) ts91 rfl rfl rfl rfl rfl rfl rfl)) ?_)))))))))
    refine sa rfl (sn (sq (sr (sm rfl (s1 (bi rfl rfl q_i64_neq) (sn (cB h0 rfl (fun h0 => ?_) (fun h0 => ?_))))))))
    ·have q := si h0; subst q
     exact sr (s1 (bld rfl (bd40_ )) (sm rfl (s0 (sto rfl rfl (sB (d' := .d (.agg [.nils, .nils, .nils])) ts40 rfl rfl rfl rfl rfl rfl rfl)) (sa rfl (sn (SC.ret (finR (Wk.trans (Wk.pushE (σ' := [.box (.d (eApiTable p0)), .box (.d (.agg [.nils, .nils, .nils])), .box (.d (eFanSide r227)), .box (.d (eFanSide r227)), .box (.d (eFanSide r230)), .box (.d (eFanSide r230)), .row 9 (List.map eForestOp ([] : List ForestOp)) true]) (.row 9 [] true) (fun _ hh => by cases hh) rfl) (Wk.trans (Wk.boxE (id := 1) (y := .agg [.slc 6 9 0 (([] : List ForestOp).length) none, .d .nils, .d .nils]) (σ' := [.box (.d (eApiTable p0)), .box (.agg [.slc 6 9 0 (([] : List ForestOp).length) none, .d .nils, .d .nils]), .box (.d (eFanSide r227)), .box (.d (eFanSide r227)), .box (.d (eFanSide r230)), .box (.d (eFanSide r230)), .row 9 (List.map eForestOp ([] : List ForestOp)) true]) rfl (AWs.cons (AW.slcn _ _ _) (AWs.cons (AW.refl _) (AWs.cons (AW.refl _) AWs.nil))) rfl) (Wk.trans (Wk.pushE (σ' := [.box (.d (eApiTable p0)), .box (.agg [.slc 6 9 0 (([] : List ForestOp).length) none, .d .nils, .d .nils]), .box (.d (eFanSide r227)), .box (.d (eFanSide r227)), .box (.d (eFanSide r230)), .box (.d (eFanSide r230)), .row 9 (List.map eForestOp ([] : List ForestOp)) true, .row 5 (List.map eApiLock ([] : List ApiLock)) true]) (.row 5 [] true) (fun _ hh => by cases hh) rfl) (Wk.trans (Wk.boxE (id := 1) (y := .agg [.slc 6 9 0 (([] : List ForestOp).length) none, .slc 7 5 0 (([] : List ApiLock).length) none, .d .nils]) (σ' := [.box (.d (eApiTable p0)), .box (.agg [.slc 6 9 0 (([] : List ForestOp).length) none, .slc 7 5 0 (([] : List ApiLock).length) none, .d .nils]), .box (.d (eFanSide r227)), .box (.d (eFanSide r227)), .box (.d (eFanSide r230)), .box (.d (eFanSide r230)), .row 9 (List.map eForestOp ([] : List ForestOp)) true, .row 5 (List.map eApiLock ([] : List ApiLock)) true]) rfl (AWs.cons (AW.refl _) (AWs.cons (AW.slcn _ _ _) (AWs.cons (AW.refl _) AWs.nil))) rfl) (Wk.trans (Wk.pushE (σ' := [.box (.d (eApiTable p0)), .box (.agg [.slc 6 9 0 (([] : List ForestOp).length) none, .slc 7 5 0 (([] : List ApiLock).length) none, .d .nils]), .box (.d (eFanSide r227)), .box (.d (eFanSide r227)), .box (.d (eFanSide r230)), .box (.d (eFanSide r230)), .row 9 (List.map eForestOp ([] : List ForestOp)) true, .row 5 (List.map eApiLock ([] : List ApiLock)) true, .row 4 (List.map eFanProbe ([] : List FanProbe)) true]) (.row 4 [] true) (fun _ hh => by cases hh) rfl) (Wk.trans (Wk.boxE (id := 1) (y := .agg [.slc 6 9 0 (([] : List ForestOp).length) none, .slc 7 5 0 (([] : List ApiLock).length) none, .slc 8 4 0 (([] : List FanProbe).length) none]) (σ' := [.box (.d (eApiTable p0)), .box (.agg [.slc 6 9 0 (([] : List ForestOp).length) none, .slc 7 5 0 (([] : List ApiLock).length) none, .slc 8 4 0 (([] : List FanProbe).length) none]), .box (.d (eFanSide r227)), .box (.d (eFanSide r227)), .box (.d (eFanSide r230)), .box (.d (eFanSide r230)), .row 9 (List.map eForestOp ([] : List ForestOp)) true, .row 5 (List.map eApiLock ([] : List ApiLock)) true, .row 4 (List.map eFanProbe ([] : List FanProbe)) true]) rfl (AWs.cons (AW.refl _) (AWs.cons (AW.refl _) (AWs.cons (AW.slcn _ _ _) AWs.nil))) rfl) (wc (e' := [(8, .ref 0 0 0), (9, .d (eI r229))]) [1, 6, 7, 8] [1] (by kernel_rfl) rfl (by kernel_rfl)))))))) (lresC rfl (ld_box ts40 ta40 rfl rfl) (lresT rfl lresN)) rfl)))))))
    ·refine sk (sr (s1 (far (k := 1) rfl fo91_1 ts9 rfl) (s1 (lod rfl (ld_box ts9 ta9 rfl rfl)) (sa rfl (sn (SC.seqB h0 (fun y => ⟨mk 139 [(1, .d ((eL 2 eFanBuilt) p1)), (2, .d ((eL 3 eApiValue) p2)), (3, .d ((eL 3 eApiValue) p3)), (4, .ref 0 0 0), (8, .ref 1 0 0), (10, .ref 2 0 0), (12, .ref 3 0 0), (13, .d (eS y))], [.box (.d (eApiTable p0)), .box (.d (.agg [.nils, .nils, .nils])), .box (.d (eFanSide r227)), .box (.d (eFanSide r230))]⟩) ?_ ?_))))))
     ·intro u1_238 h1 h0
      obtain ⟨_, hq239, h1⟩ := ob h1
      refine SC.blk (sr (s1 (lod (v := .d (eFanSide r230)) rfl (ld_box ts91 ta91 rfl rfl)) (c0 (fan_side_there_ok r230 _ hq239) wf rfl rfl rfl cb30 rfl (fun _ => rfl) (fun _ => rfl) (s1 (nt rfl) (sa rfl (sn (cB h1 rfl (fun h1 => ?_) (fun h1 => ?_))))))))
      ·have q := si h1; subst q
       exact SC.region (s1 (far (k := 1) rfl fo91_1 ts9 rfl) (s1 (lod rfl (ld_box ts9 ta9 rfl rfl)) (sa rfl (SO.nil (lf (wc [0, 1, 3, 5] [0, 1, 3, 5] (by kernel_rfl) rfl (by kernel_rfl)))))))
      ·refine SC.seqP h1 (fun y => ⟨mk 139 [(1, .d ((eL 2 eFanBuilt) p1)), (2, .d ((eL 3 eApiValue) p2)), (3, .d ((eL 3 eApiValue) p3)), (4, .ref 0 0 0), (8, .ref 1 0 0), (10, .ref 2 0 0), (12, .ref 3 0 0), (13, .d (eS r230.primary)), (64, .d (eB y))], [.box (.d (eApiTable p0)), .box (.d (.agg [.nils, .nils, .nils])), .box (.d (eFanSide r227)), .box (.d (eFanSide r230))]⟩) ?_ ?_
       ·intro u2_242 h2
        obtain ⟨_, hq243, h2⟩ := ob h2
        refine SC.region (s1 (lod (v := .d (eFanSide r227)) rfl (ld_box ts91 ta91 rfl rfl)) (c0 (fan_side_there_ok r227 _ hq243) wf rfl rfl rfl cb30 rfl (fun _ => rfl) (fun _ => rfl) (sm rfl (sp h2 (fun h2 => ?_) (fun h2 => ?_)))))
        ·have q := si h2; subst q
         exact gw rfl (far (k := 1) rfl fo91_1 ts9 rfl) (gw rfl (lod rfl (ld_box ts9 ta9 rfl rfl)) (gw rfl (mv rfl) (gw rfl (bi rfl rfl q_str_neq) (s1 (pkt rfl rfl) (sa rfl (SO.nil ((wc [0, 1, 3, 5] [0, 1, 3, 5] (by kernel_rfl) rfl (by kernel_rfl)))))))))
        ·have q := si h2; subst q
         exact kw rfl (kw rfl (kw rfl (kw rfl (s1 (pkf rfl rfl) (sa rfl (SO.nil ((wc [0, 1, 3, 5] [0, 1, 3, 5] (by kernel_rfl) rfl (by kernel_rfl)))))))))
       ·rintro y241 h1
        refine cB h1 rfl (fun h1 => ?_) (fun h1 => ?_)
        ·have q := si h1; subst q; have q := si h0; subst q
         exact sr (s1 (bld rfl (bd40_ )) (s0 (sto rfl rfl (sB (d' := .d (.agg [.nils, .nils, .nils])) ts40 rfl rfl rfl rfl rfl rfl rfl)) (sa rfl (sn (SC.ret (finR (Wk.trans (Wk.pushE (σ' := [.box (.d (eApiTable p0)), .box (.d (.agg [.nils, .nils, .nils])), .box (.d (eFanSide r227)), .box (.d (eFanSide r230)), .row 9 (List.map eForestOp ([] : List ForestOp)) true]) (.row 9 [] true) (fun _ hh => by cases hh) rfl) (Wk.trans (Wk.boxE (id := 1) (y := .agg [.slc 4 9 0 (([] : List ForestOp).length) none, .d .nils, .d .nils]) (σ' := [.box (.d (eApiTable p0)), .box (.agg [.slc 4 9 0 (([] : List ForestOp).length) none, .d .nils, .d .nils]), .box (.d (eFanSide r227)), .box (.d (eFanSide r230)), .row 9 (List.map eForestOp ([] : List ForestOp)) true]) rfl (AWs.cons (AW.slcn _ _ _) (AWs.cons (AW.refl _) (AWs.cons (AW.refl _) AWs.nil))) rfl) (Wk.trans (Wk.pushE (σ' := [.box (.d (eApiTable p0)), .box (.agg [.slc 4 9 0 (([] : List ForestOp).length) none, .d .nils, .d .nils]), .box (.d (eFanSide r227)), .box (.d (eFanSide r230)), .row 9 (List.map eForestOp ([] : List ForestOp)) true, .row 5 (List.map eApiLock ([] : List ApiLock)) true]) (.row 5 [] true) (fun _ hh => by cases hh) rfl) (Wk.trans (Wk.boxE (id := 1) (y := .agg [.slc 4 9 0 (([] : List ForestOp).length) none, .slc 5 5 0 (([] : List ApiLock).length) none, .d .nils]) (σ' := [.box (.d (eApiTable p0)), .box (.agg [.slc 4 9 0 (([] : List ForestOp).length) none, .slc 5 5 0 (([] : List ApiLock).length) none, .d .nils]), .box (.d (eFanSide r227)), .box (.d (eFanSide r230)), .row 9 (List.map eForestOp ([] : List ForestOp)) true, .row 5 (List.map eApiLock ([] : List ApiLock)) true]) rfl (AWs.cons (AW.refl _) (AWs.cons (AW.slcn _ _ _) (AWs.cons (AW.refl _) AWs.nil))) rfl) (Wk.trans (Wk.pushE (σ' := [.box (.d (eApiTable p0)), .box (.agg [.slc 4 9 0 (([] : List ForestOp).length) none, .slc 5 5 0 (([] : List ApiLock).length) none, .d .nils]), .box (.d (eFanSide r227)), .box (.d (eFanSide r230)), .row 9 (List.map eForestOp ([] : List ForestOp)) true, .row 5 (List.map eApiLock ([] : List ApiLock)) true, .row 4 (List.map eFanProbe ([] : List FanProbe)) true]) (.row 4 [] true) (fun _ hh => by cases hh) rfl) (Wk.trans (Wk.boxE (id := 1) (y := .agg [.slc 4 9 0 (([] : List ForestOp).length) none, .slc 5 5 0 (([] : List ApiLock).length) none, .slc 6 4 0 (([] : List FanProbe).length) none]) (σ' := [.box (.d (eApiTable p0)), .box (.agg [.slc 4 9 0 (([] : List ForestOp).length) none, .slc 5 5 0 (([] : List ApiLock).length) none, .slc 6 4 0 (([] : List FanProbe).length) none]), .box (.d (eFanSide r227)), .box (.d (eFanSide r230)), .row 9 (List.map eForestOp ([] : List ForestOp)) true, .row 5 (List.map eApiLock ([] : List ApiLock)) true, .row 4 (List.map eFanProbe ([] : List FanProbe)) true]) rfl (AWs.cons (AW.refl _) (AWs.cons (AW.refl _) (AWs.cons (AW.slcn _ _ _) AWs.nil))) rfl) (wc (e' := [(8, .ref 0 0 0), (9, .d (eI (1 : Int)))]) [1, 4, 5, 6] [1] (by kernel_rfl) rfl (by kernel_rfl)))))))) (lresC rfl (ld_box ts40 ta40 rfl rfl) (lresT rfl lresN)) rfl))))))
        ·have q := si h1; subst q
         exact SC.skip (lf (wq rfl))
     ·rintro y237 h0
      obtain ⟨_, hq244, h0⟩ := ob h0; obtain ⟨r245, hq246, h0⟩ := ob h0
      refine sr (s1 (alo (k := 4) zo40 rfl) (sn (sr (s1 (far (k := 4) rfl fo26_4 ts3 rfl) (s1 (lod rfl (ld_box ts3 ta3 rfl rfl)) (sm rfl (cq [4] [5] (fan_Work_own_ok p0.Tree y237 _ hq244) wf rfl rfl rfl cb31 rfl rfl rfl rfl rfl rfl rfl rfl (sn (sq ?_)))))))))
      refine sr (sm rfl (sm rfl (c0 (slices_Equal_api_Value_api_Value_ok p2 p3 _ hq246) wf rfl rfl rfl cb32 rfl (fun _ => rfl) (fun _ => rfl) (sn (cB h0 rfl (fun h0 => ?_) (fun h0 => ?_))))))
      ·have q := si h0; subst q
       exact sr (s1 (lod (v := .agg [.d .nils, .slc 5 5 0 ([(ApiLock.mk p0.Tree (ApiSpan.mk y237 (y237 ++ ([0] : List UInt8)) false) true)].length) none, .d .nils]) rfl (ld_box ts40 ta40 rfl rfl)) (s0 (sto rfl rfl (sB (d' := .agg [.d .nils, .slc 5 5 0 ([(ApiLock.mk p0.Tree (ApiSpan.mk y237 (y237 ++ ([0] : List UInt8)) false) true)].length) none, .d .nils]) ts40 rfl rfl rfl rfl rfl rfl rfl)) (sa rfl (sn (SC.ret (finR (Wk.trans (Wk.pushE (σ' := [.box (.d (eApiTable p0)), .box (.agg [.d .nils, .slc 5 5 0 ([(ApiLock.mk p0.Tree (ApiSpan.mk y237 (y237 ++ ([0] : List UInt8)) false) true)].length) none, .d .nils]), .box (.d (eFanSide r227)), .box (.d (eFanSide r230)), .box (.agg [.d .nils, .slc 5 5 0 ([(ApiLock.mk p0.Tree (ApiSpan.mk y237 (y237 ++ ([0] : List UInt8)) false) true)].length) none, .d .nils]), .row 5 (List.map eApiLock [(ApiLock.mk p0.Tree (ApiSpan.mk y237 (y237 ++ ([0] : List UInt8)) false) true)]) true, .row 9 (List.map eForestOp ([] : List ForestOp)) true]) (.row 9 [] true) (fun _ hh => by cases hh) rfl) (Wk.trans (Wk.boxE (id := 1) (y := .agg [.slc 6 9 0 (([] : List ForestOp).length) none, .slc 5 5 0 ([(ApiLock.mk p0.Tree (ApiSpan.mk y237 (y237 ++ ([0] : List UInt8)) false) true)].length) none, .d .nils]) (σ' := [.box (.d (eApiTable p0)), .box (.agg [.slc 6 9 0 (([] : List ForestOp).length) none, .slc 5 5 0 ([(ApiLock.mk p0.Tree (ApiSpan.mk y237 (y237 ++ ([0] : List UInt8)) false) true)].length) none, .d .nils]), .box (.d (eFanSide r227)), .box (.d (eFanSide r230)), .box (.agg [.d .nils, .slc 5 5 0 ([(ApiLock.mk p0.Tree (ApiSpan.mk y237 (y237 ++ ([0] : List UInt8)) false) true)].length) none, .d .nils]), .row 5 (List.map eApiLock [(ApiLock.mk p0.Tree (ApiSpan.mk y237 (y237 ++ ([0] : List UInt8)) false) true)]) true, .row 9 (List.map eForestOp ([] : List ForestOp)) true]) rfl (AWs.cons (AW.slcn _ _ _) (AWs.cons (AW.refl _) (AWs.cons (AW.refl _) AWs.nil))) rfl) (Wk.trans (Wk.pushE (σ' := [.box (.d (eApiTable p0)), .box (.agg [.slc 6 9 0 (([] : List ForestOp).length) none, .slc 5 5 0 ([(ApiLock.mk p0.Tree (ApiSpan.mk y237 (y237 ++ ([0] : List UInt8)) false) true)].length) none, .d .nils]), .box (.d (eFanSide r227)), .box (.d (eFanSide r230)), .box (.agg [.d .nils, .slc 5 5 0 ([(ApiLock.mk p0.Tree (ApiSpan.mk y237 (y237 ++ ([0] : List UInt8)) false) true)].length) none, .d .nils]), .row 5 (List.map eApiLock [(ApiLock.mk p0.Tree (ApiSpan.mk y237 (y237 ++ ([0] : List UInt8)) false) true)]) true, .row 9 (List.map eForestOp ([] : List ForestOp)) true, .row 4 (List.map eFanProbe ([] : List FanProbe)) true]) (.row 4 [] true) (fun _ hh => by cases hh) rfl) (Wk.trans (Wk.boxE (id := 1) (y := .agg [.slc 6 9 0 (([] : List ForestOp).length) none, .slc 5 5 0 ([(ApiLock.mk p0.Tree (ApiSpan.mk y237 (y237 ++ ([0] : List UInt8)) false) true)].length) none, .slc 7 4 0 (([] : List FanProbe).length) none]) (σ' := [.box (.d (eApiTable p0)), .box (.agg [.slc 6 9 0 (([] : List ForestOp).length) none, .slc 5 5 0 ([(ApiLock.mk p0.Tree (ApiSpan.mk y237 (y237 ++ ([0] : List UInt8)) false) true)].length) none, .slc 7 4 0 (([] : List FanProbe).length) none]), .box (.d (eFanSide r227)), .box (.d (eFanSide r230)), .box (.agg [.d .nils, .slc 5 5 0 ([(ApiLock.mk p0.Tree (ApiSpan.mk y237 (y237 ++ ([0] : List UInt8)) false) true)].length) none, .d .nils]), .row 5 (List.map eApiLock [(ApiLock.mk p0.Tree (ApiSpan.mk y237 (y237 ++ ([0] : List UInt8)) false) true)]) true, .row 9 (List.map eForestOp ([] : List ForestOp)) true, .row 4 (List.map eFanProbe ([] : List FanProbe)) true]) rfl (AWs.cons (AW.refl _) (AWs.cons (AW.refl _) (AWs.cons (AW.slcn _ _ _) AWs.nil))) rfl) (wc (e' := [(8, .ref 0 0 0), (9, .d (eI (0 : Int)))]) [1, 6, 5, 7] [1] (by kernel_rfl) rfl (by kernel_rfl)))))) (lresC rfl (ld_box ts40 ta40 rfl rfl) (lresT rfl lresN)) rfl))))))
      ·refine sk (SC.seqB h0 (fun y => ⟨mk 139 [(1, .d ((eL 2 eFanBuilt) p1)), (4, .ref 0 0 0), (8, .ref 1 0 0), (10, .ref 2 0 0), (12, .ref 3 0 0), (13, .d (eS y237)), (14, .ref 4 0 0)], [.box (.d (eApiTable p0)), .box (.d (.agg [.nils, .nils, .nils])), .box (.d (eFanSide r227)), .box (.d (eFanSide r230)), .box (.agg [.slc 5 9 0 y.length none, .slc 6 5 0 ([(ApiLock.mk p0.Tree (ApiSpan.mk y237 (y237 ++ ([0] : List UInt8)) false) true)].length) none, .d .nils]), .row 9 (List.map eForestOp y) true, .row 5 (List.map eApiLock [(ApiLock.mk p0.Tree (ApiSpan.mk y237 (y237 ++ ([0] : List UInt8)) false) true)]) true]⟩) ?_ ?_)
       ·intro u1_254 h1 h0
        obtain ⟨_, hq255, h1⟩ := ob h1
        refine sr (s1 (lod (v := .d (eFanSide r230)) rfl (ld_box ts91 ta91 rfl rfl)) (c0 (fan_side_there_ok r230 _ hq255) wf rfl rfl rfl cb30 rfl (fun _ => rfl) (fun _ => rfl) (sn (cB h1 rfl (fun h1 => ?_) (fun h1 => ?_)))))
        ·obtain ⟨⟨r256, r257⟩, hq258, h1⟩ := ob h1
         refine sr (s1 (far (k := 1) rfl fo26_1 ts22 rfl) (s1 (lod rfl (ld_box ts22 ta22 rfl rfl)) (sm rfl (c0 (row_Encode_ok p0.Cols p3 _ hq258) wf rfl rfl rfl cb33 rfl (fun _ => rfl) (fun _ => rfl) (sm rfl (s1 (ext rfl rfl) (s1 (ext rfl rfl) (sa rfl (sa rfl ?_)))))))))
         refine sn (sq (sr (sm rfl (s1 (bi rfl rfl q_i64_neq) (sn (cB h1 rfl (fun h1 => ?_) (fun h1 => ?_)))))))
         ·have q := si h1; subst q; have q := si h0; subst q
          exact sr (s1 (bld rfl (bd40_ )) (sm rfl (s0 (sto rfl rfl (sB (d' := .d (.agg [.nils, .nils, .nils])) ts40 rfl rfl rfl rfl rfl rfl rfl)) (sa rfl (sn (SC.ret (finR (Wk.trans (Wk.pushE (σ' := [.box (.d (eApiTable p0)), .box (.d (.agg [.nils, .nils, .nils])), .box (.d (eFanSide r227)), .box (.d (eFanSide r230)), .box (.agg [.d .nils, .slc 5 5 0 ([(ApiLock.mk p0.Tree (ApiSpan.mk y237 (y237 ++ ([0] : List UInt8)) false) true)].length) none, .d .nils]), .row 5 (List.map eApiLock [(ApiLock.mk p0.Tree (ApiSpan.mk y237 (y237 ++ ([0] : List UInt8)) false) true)]) true, .row 9 (List.map eForestOp ([] : List ForestOp)) true]) (.row 9 [] true) (fun _ hh => by cases hh) rfl) (Wk.trans (Wk.boxE (id := 1) (y := .agg [.slc 6 9 0 (([] : List ForestOp).length) none, .d .nils, .d .nils]) (σ' := [.box (.d (eApiTable p0)), .box (.agg [.slc 6 9 0 (([] : List ForestOp).length) none, .d .nils, .d .nils]), .box (.d (eFanSide r227)), .box (.d (eFanSide r230)), .box (.agg [.d .nils, .slc 5 5 0 ([(ApiLock.mk p0.Tree (ApiSpan.mk y237 (y237 ++ ([0] : List UInt8)) false) true)].length) none, .d .nils]), .row 5 (List.map eApiLock [(ApiLock.mk p0.Tree (ApiSpan.mk y237 (y237 ++ ([0] : List UInt8)) false) true)]) true, .row 9 (List.map eForestOp ([] : List ForestOp)) true]) rfl (AWs.cons (AW.slcn _ _ _) (AWs.cons (AW.refl _) (AWs.cons (AW.refl _) AWs.nil))) rfl) (Wk.trans (Wk.pushE (σ' := [.box (.d (eApiTable p0)), .box (.agg [.slc 6 9 0 (([] : List ForestOp).length) none, .d .nils, .d .nils]), .box (.d (eFanSide r227)), .box (.d (eFanSide r230)), .box (.agg [.d .nils, .slc 5 5 0 ([(ApiLock.mk p0.Tree (ApiSpan.mk y237 (y237 ++ ([0] : List UInt8)) false) true)].length) none, .d .nils]), .row 5 (List.map eApiLock [(ApiLock.mk p0.Tree (ApiSpan.mk y237 (y237 ++ ([0] : List UInt8)) false) true)]) true, .row 9 (List.map eForestOp ([] : List ForestOp)) true, .row 5 (List.map eApiLock ([] : List ApiLock)) true]) (.row 5 [] true) (fun _ hh => by cases hh) rfl) (Wk.trans (Wk.boxE (id := 1) (y := .agg [.slc 6 9 0 (([] : List ForestOp).length) none, .slc 7 5 0 (([] : List ApiLock).length) none, .d .nils]) (σ' := [.box (.d (eApiTable p0)), .box (.agg [.slc 6 9 0 (([] : List ForestOp).length) none, .slc 7 5 0 (([] : List ApiLock).length) none, .d .nils]), .box (.d (eFanSide r227)), .box (.d (eFanSide r230)), .box (.agg [.d .nils, .slc 5 5 0 ([(ApiLock.mk p0.Tree (ApiSpan.mk y237 (y237 ++ ([0] : List UInt8)) false) true)].length) none, .d .nils]), .row 5 (List.map eApiLock [(ApiLock.mk p0.Tree (ApiSpan.mk y237 (y237 ++ ([0] : List UInt8)) false) true)]) true, .row 9 (List.map eForestOp ([] : List ForestOp)) true, .row 5 (List.map eApiLock ([] : List ApiLock)) true]) rfl (AWs.cons (AW.refl _) (AWs.cons (AW.slcn _ _ _) (AWs.cons (AW.refl _) AWs.nil))) rfl) (Wk.trans (Wk.pushE (σ' := [.box (.d (eApiTable p0)), .box (.agg [.slc 6 9 0 (([] : List ForestOp).length) none, .slc 7 5 0 (([] : List ApiLock).length) none, .d .nils]), .box (.d (eFanSide r227)), .box (.d (eFanSide r230)), .box (.agg [.d .nils, .slc 5 5 0 ([(ApiLock.mk p0.Tree (ApiSpan.mk y237 (y237 ++ ([0] : List UInt8)) false) true)].length) none, .d .nils]), .row 5 (List.map eApiLock [(ApiLock.mk p0.Tree (ApiSpan.mk y237 (y237 ++ ([0] : List UInt8)) false) true)]) true, .row 9 (List.map eForestOp ([] : List ForestOp)) true, .row 5 (List.map eApiLock ([] : List ApiLock)) true, .row 4 (List.map eFanProbe ([] : List FanProbe)) true]) (.row 4 [] true) (fun _ hh => by cases hh) rfl) (Wk.trans (Wk.boxE (id := 1) (y := .agg [.slc 6 9 0 (([] : List ForestOp).length) none, .slc 7 5 0 (([] : List ApiLock).length) none, .slc 8 4 0 (([] : List FanProbe).length) none]) (σ' := [.box (.d (eApiTable p0)), .box (.agg [.slc 6 9 0 (([] : List ForestOp).length) none, .slc 7 5 0 (([] : List ApiLock).length) none, .slc 8 4 0 (([] : List FanProbe).length) none]), .box (.d (eFanSide r227)), .box (.d (eFanSide r230)), .box (.agg [.d .nils, .slc 5 5 0 ([(ApiLock.mk p0.Tree (ApiSpan.mk y237 (y237 ++ ([0] : List UInt8)) false) true)].length) none, .d .nils]), .row 5 (List.map eApiLock [(ApiLock.mk p0.Tree (ApiSpan.mk y237 (y237 ++ ([0] : List UInt8)) false) true)]) true, .row 9 (List.map eForestOp ([] : List ForestOp)) true, .row 5 (List.map eApiLock ([] : List ApiLock)) true, .row 4 (List.map eFanProbe ([] : List FanProbe)) true]) rfl (AWs.cons (AW.refl _) (AWs.cons (AW.refl _) (AWs.cons (AW.slcn _ _ _) AWs.nil))) rfl) (wc (e' := [(8, .ref 0 0 0), (9, .d (eI r257))]) [1, 6, 7, 8] [1] (by kernel_rfl) rfl (by kernel_rfl)))))))) (lresC rfl (ld_box ts40 ta40 rfl rfl) (lresT rfl lresN)) rfl)))))))
         ·obtain ⟨_, hq259, h1⟩ := ob h1; have q := si h1; subst q
          exact sk (SC.region (s1 (far (k := 4) rfl fo26_4 ts3 rfl) (s1 (lod rfl (ld_box ts3 ta3 rfl rfl)) (sm rfl (sm rfl (s1 (bld rfl (bd63_1_2_4 (1 : Int) y237 r256)) (cq [4, 5] [6] (fan_Work_do_ok p0.Tree (ApiMsg.mk (0 : UInt64) (1 : Int) y237 (0 : UInt64) r256 (0 : Int) (0 : UInt64)) [(ApiLock.mk p0.Tree (ApiSpan.mk y237 (y237 ++ ([0] : List UInt8)) false) true)] _ hq259) wf rfl rfl rfl cb34 rfl rfl rfl rfl rfl rfl rfl rfl (SO.nil (lf (wc [0, 1, 2, 3, 4, 6, 5] [0, 1, 2, 3, 4] (by kernel_rfl) rfl (by kernel_rfl)))))))))))
        ·obtain ⟨_, hq260, h1⟩ := ob h1; have q := si h1; subst q
         exact SC.region (s1 (far (k := 4) rfl fo26_4 ts3 rfl) (s1 (lod rfl (ld_box ts3 ta3 rfl rfl)) (sm rfl (s1 (bld rfl (bd63_1_2 (2 : Int) y237)) (cq [4, 5] [6] (fan_Work_do_ok p0.Tree (ApiMsg.mk (0 : UInt64) (2 : Int) y237 (0 : UInt64) ([] : List UInt8) (0 : Int) (0 : UInt64)) [(ApiLock.mk p0.Tree (ApiSpan.mk y237 (y237 ++ ([0] : List UInt8)) false) true)] _ hq260) wf rfl rfl rfl cb34 rfl rfl rfl rfl rfl rfl rfl rfl (SO.nil (lf (wc [0, 1, 2, 3, 4, 6, 5] [0, 1, 2, 3, 4] (by kernel_rfl) rfl (by kernel_rfl)))))))))
       ·rintro y253 h0
        refine SC.seqP h0 (fun y => ⟨mk 139 [(8, .ref 0 0 0), (14, .ref 1 0 0)], [.box (.d (.agg [.nils, .nils, .nils])), .box (.agg [.slc 2 9 0 y.1.length none, .slc 3 5 0 y.2.1.length none, .slc 4 4 0 y.2.2.length none]), .row 9 (List.map eForestOp y.1) true, .row 5 (List.map eApiLock y.2.1) true, .row 4 (List.map eFanProbe y.2.2) true]⟩) ?_ ?_
        ·intro u1_353 h1
         obtain ⟨u2_415, h2, h1⟩ := ob h1
         refine sr (s1 (far (k := 3) rfl fo26_3 ts24 rfl) (s1 (lod rfl (ld_box ts24 ta24 rfl rfl)) (s1 (len rfl rfl rfl (len_lst un24)) (sm rfl (sn (SC.blk (SC.loopB h2 (fun y => ⟨mk 139 [(1, .d ((eL 2 eFanBuilt) p1)), (4, .ref 0 0 0), (8, .ref 1 0 0), (10, .ref 2 0 0), (12, .ref 3 0 0), (13, .d (eS y237)), (14, .ref 4 0 0), (107, .d ((eL 6 eApiIndex) p0.Indexes)), (108, .d (eI (p0.Indexes.length : Int))), (109, .d (eI y.1))], [.box (.d (eApiTable p0)), .box (.d (.agg [.nils, .nils, .nils])), .box (.d (eFanSide r227)), .box (.d (eFanSide r230)), .box (.agg [.slc 5 9 0 y.2.1.length none, .slc 6 5 0 y.2.2.1.length none, .slc 7 4 0 y.2.2.2.length none]), .row 9 (List.map eForestOp y.2.1) true, .row 5 (List.map eApiLock y.2.2.1) true, .row 4 (List.map eFanProbe y.2.2.2) true]⟩) (Wk.trans (Wk.pushE (σ' := [.box (.d (eApiTable p0)), .box (.d (.agg [.nils, .nils, .nils])), .box (.d (eFanSide r227)), .box (.d (eFanSide r230)), .box (.agg [.slc 5 9 0 y253.length none, .slc 6 5 0 ([(ApiLock.mk p0.Tree (ApiSpan.mk y237 (y237 ++ ([0] : List UInt8)) false) true)].length) none, .d .nils]), .row 9 (List.map eForestOp y253) true, .row 5 (List.map eApiLock [(ApiLock.mk p0.Tree (ApiSpan.mk y237 (y237 ++ ([0] : List UInt8)) false) true)]) true, .row 4 (List.map eFanProbe ([] : List FanProbe)) true]) (.row 4 [] true) (fun _ hh => by cases hh) rfl) (Wk.trans (Wk.boxE (id := 4) (y := .agg [.slc 5 9 0 y253.length none, .slc 6 5 0 ([(ApiLock.mk p0.Tree (ApiSpan.mk y237 (y237 ++ ([0] : List UInt8)) false) true)].length) none, .slc 7 4 0 (([] : List FanProbe).length) none]) (σ' := [.box (.d (eApiTable p0)), .box (.d (.agg [.nils, .nils, .nils])), .box (.d (eFanSide r227)), .box (.d (eFanSide r230)), .box (.agg [.slc 5 9 0 y253.length none, .slc 6 5 0 ([(ApiLock.mk p0.Tree (ApiSpan.mk y237 (y237 ++ ([0] : List UInt8)) false) true)].length) none, .slc 7 4 0 (([] : List FanProbe).length) none]), .row 9 (List.map eForestOp y253) true, .row 5 (List.map eApiLock [(ApiLock.mk p0.Tree (ApiSpan.mk y237 (y237 ++ ([0] : List UInt8)) false) true)]) true, .row 4 (List.map eFanProbe ([] : List FanProbe)) true]) rfl (AWs.cons (AW.refl _) (AWs.cons (AW.refl _) (AWs.cons (AW.slcn _ _ _) AWs.nil))) rfl) (wq rfl))) ?_)))))))
         intro n442
         rintro ⟨y380, y381, y382, y383⟩ w2_414 h3 hv3
         refine sr (s1 (bi rfl rfl q_i64_lss) (sn (sq (cB h3 rfl (fun h3 => ?_) (fun h3 => ?_)))))
         ·refine sk (SC.seqP h3 (fun y => ⟨mk 139 [(1, .d ((eL 2 eFanBuilt) p1)), (4, .ref 0 0 0), (8, .ref 1 0 0), (10, .ref 2 0 0), (12, .ref 3 0 0), (13, .d (eS y237)), (14, .ref 4 0 0), (107, .d ((eL 6 eApiIndex) p0.Indexes)), (108, .d (eI (p0.Indexes.length : Int))), (109, .d (eI y380))], [.box (.d (eApiTable p0)), .box (.d (.agg [.nils, .nils, .nils])), .box (.d (eFanSide r227)), .box (.d (eFanSide r230)), .box (.agg [.slc 5 9 0 y.1.length none, .slc 6 5 0 y.2.1.length none, .slc 7 4 0 y.2.2.length none]), .row 9 (List.map eForestOp y.1) true, .row 5 (List.map eApiLock y.2.1) true, .row 4 (List.map eFanProbe y.2.2) true]⟩) ?_ ?_)
          ·intro u4_430 h4
           obtain ⟨v431, hv431, h4⟩ := ob h4
           refine SC.blk (sr (sm rfl (s1 (ial rfl rfl un24 ts82 (getI_some hv431).1 (map_get (getI_some hv431).2) rfl) (s1 (lod (v := .d (eApiIndex v431)) rfl (ld_rop ts82 ta82 rfl)) (s1 (alo (k := 8) zo82 rfl) (sa rfl (s0 (sto rfl rfl (sB (d' := .d (eApiIndex v431)) ts82 rfl rfl rfl rfl rfl rfl rfl)) (sn (SC.seqP h4 (fun y => ⟨mk 139 [(1, .d ((eL 2 eFanBuilt) p1)), (4, .ref 0 0 0), (8, .ref 1 0 0), (10, .ref 2 0 0), (12, .ref 3 0 0), (13, .d (eS y237)), (14, .ref 4 0 0), (18, .ref 5 0 0), (107, .d ((eL 6 eApiIndex) p0.Indexes)), (108, .d (eI (p0.Indexes.length : Int))), (109, .d (eI y380)), (131, .d (eB y))], [.box (.d (eApiTable p0)), .box (.d (.agg [.nils, .nils, .nils])), .box (.d (eFanSide r227)), .box (.d (eFanSide r230)), .box (.agg [.slc 6 9 0 y381.length none, .slc 7 5 0 y382.length none, .slc 8 4 0 y383.length none]), .box (.d (eApiIndex v431)), .row 9 (List.map eForestOp y381) true, .row 5 (List.map eApiLock y382) true, .row 4 (List.map eFanProbe y383) true]⟩) ?_ ?_)))))))))
           ·intro u5_435 h5
            refine SC.region (s1 (far (k := 4) rfl fo82_4 ts4 rfl) (s1 (lod rfl (ld_box ts4 ta4 rfl rfl)) (sm rfl (sp h5 (fun h5 => ?_) (fun h5 => ?_)))))
            ·have q := si h5; subst q
             refine kw rfl (kw rfl (kw rfl (kw rfl (kw rfl (kw rfl (kw rfl (kw rfl (kw rfl (kw rfl ?_)))))))))
             exact kw rfl (kw rfl (kw rfl (kw rfl (s1 (pkt rfl rfl) (SO.nil ((wc [0, 1, 2, 3, 4, 8, 5, 6, 7] [0, 1, 2, 3, 4, 8] (by kernel_rfl) rfl (by kernel_rfl))))))))
            ·obtain ⟨v436, hv436, h5⟩ := ob h5
             refine gw rfl (mv rfl) (gw rfl (mv rfl) (gw rfl (ial rfl rfl un27 ts99 (getI_some hv436).1 (map_get (getI_some hv436).2) rfl) (gw rfl (fap rfl fo99_1 ts4 rfl) (gw rfl (lod rfl (ld_rop ts4 ta4 rfl)) (gw rfl (mv rfl) (sp h5 (fun h5 => ?_) (fun h5 => ?_)))))))
             ·obtain ⟨v437, hv437, h5⟩ := ob h5; have q := si h5; subst q
              refine gw rfl (mv rfl) (gw rfl (mv rfl) (gw rfl (mv rfl) (gw rfl (ial rfl rfl un27 ts99 (getI_some hv437).1 (map_get (getI_some hv437).2) rfl) (gw rfl (fap rfl fo99_0 ts9 rfl) (gw rfl (lod rfl (ld_rop ts9 ta9 rfl)) (gw rfl (bi rfl rfl q_str_leq) (gw rfl (pkt rfl rfl) (s1 (pkf rfl rfl) (SO.nil ?_)))))))))
              exact (wc [0, 1, 2, 3, 4, 8, 5, 6, 7] [0, 1, 2, 3, 4, 8] (by kernel_rfl) rfl (by kernel_rfl))
             ·have q := si h5; subst q
              refine kw rfl (kw rfl (kw rfl (kw rfl (kw rfl (kw rfl (kw rfl (gw rfl (pkf rfl rfl) (s1 (pkf rfl rfl) (SO.nil ?_)))))))))
              exact (wc [0, 1, 2, 3, 4, 8, 5, 6, 7] [0, 1, 2, 3, 4, 8] (by kernel_rfl) rfl (by kernel_rfl))
           ·rintro y434 h4
            refine cB h4 rfl (fun h4 => ?_) (fun h4 => ?_)
            ·obtain ⟨⟨r438, r439, r440⟩, hq441, h4⟩ := ob h4; have q := si h4; subst q
             exact SC.region (s1 (lod (v := .d (eApiTable p0)) rfl (ld_box ts26 ta26 rfl rfl)) (s1 (lod (v := .d (eApiIndex v431)) rfl (ld_box ts82 ta82 rfl rfl)) (s1 (lod (v := .d (eFanSide r227)) rfl (ld_box ts91 ta91 rfl rfl)) (s1 (lod (v := .d (eFanSide r230)) rfl (ld_box ts91 ta91 rfl rfl)) (cq [4, 6, 7, 8] [9, 10, 11] (fan_Work_index_2_ok p0 v431 r227 r230 y381 y382 y383 _ hq441) wf rfl rfl rfl cb35 rfl rfl rfl rfl rfl rfl rfl rfl (SO.nil ((wc [0, 1, 2, 3, 4, 9, 10, 11] [0, 1, 2, 3, 4] (by kernel_rfl) rfl (by kernel_rfl)))))))))
            ·have q := si h4; subst q
             exact SC.skip ((wc [0, 1, 2, 3, 4, 6, 7, 8] [0, 1, 2, 3, 4] (by kernel_rfl) rfl (by kernel_rfl)))
          ·rintro ⟨y427, y428, y429⟩ h3
           have q := si h3; subst q
           exact SC.region (s1 (bi rfl rfl q_i64_add) (sm rfl (SO.nil (lf (wq rfl)))))
         ·have q := si h3; subst q; have q : _ = _ := hv3; subst q; have q := si h1; subst q
          exact SC.exit ((wc [1, 4, 5, 6, 7] [1, 4] (by kernel_rfl) rfl (by kernel_rfl)))
        ·rintro ⟨y350, y351, y352⟩ h0
         have q := si h0; subst q
         exact sr (s1 (lod (v := .agg [.slc 2 9 0 y350.length none, .slc 3 5 0 y351.length none, .slc 4 4 0 y352.length none]) rfl (ld_box ts40 ta40 rfl rfl)) (s0 (sto rfl rfl (sB (d' := .agg [.slc 2 9 0 y350.length none, .slc 3 5 0 y351.length none, .slc 4 4 0 y352.length none]) ts40 rfl rfl rfl rfl rfl rfl rfl)) (sa rfl (sn (SC.ret (finR (wc (e' := [(8, .ref 0 0 0), (9, .d (eI (0 : Int)))]) [0, 2, 3, 4] [0] (by kernel_rfl) rfl (by kernel_rfl)) (lresC rfl (ld_box ts40 ta40 rfl rfl) (lresT rfl lresN)) rfl))))))
noncomputable def law19_awake : Option Bool :=
 bif decide (0 ≤ (1 : Int) ∧ (1 : Int) * 24 ≤ 70368744177664 ∧ (1 : Int) ≤ 70368744177664) then
 Option.bind (fan_Change (ApiTable.mk ([97] : List UInt8) [(ApiColumn.mk ([105, 100] : List UInt8) (1 : Int) (0 : Int) false (ApiValue.mk (1 : Int) (0 : UInt64) ([] : List UInt8))), (ApiColumn.mk ([110] : List UInt8) (1 : Int) (0 : Int) false (ApiValue.mk (1 : Int) (0 : UInt64) ([] : List UInt8)))] [(0 : Int)] [(ApiIndex.mk ([120] : List UInt8) [(ApiPart.mk (1 : Int) false)] ([] : List Int) true true (3 : Int))] (2 : Int)) (List.replicate (1 : Int).toNat (FanBuilt.mk ([] : List UInt8) false)) ([] : List ApiValue) [(ApiValue.mk (1 : Int) (1 : UInt64) ([] : List UInt8)), (ApiValue.mk (1 : Int) (2 : UInt64) ([] : List UInt8))]) fun (r15, r16, r17, r18) =>
 Option.bind (α := Bool)
 (bif (r15 == (0 : Int)) then
 bif ((r16.length : Int) == (2 : Int)) then
 bif ((r17.length : Int) == (3 : Int)) then
 bif ((r18.length : Int) == (1 : Int)) then
 Option.bind (getI r16 (1 : Int)) fun v24 =>
 bif (v24.Tree == (3 : Int)) then
 Option.bind (fan_Point ([97] : List UInt8)) fun _ =>
 some ((([97] : List UInt8) ++ ([0] : List UInt8)) == ([97, 0] : List UInt8))
 else
 some false
 else
 some false
 else
 some false
 else
 some false
 else
 some false)
 fun y22 =>
 some y22
 else none
theorem law19_awake_ok (r : Bool) (h0 : law19_awake = some r) : CallAt Tryz.prog 5 [] [] (.d (eB r)) [] := by
 unfold law19_awake at h0
 refine fn0 [] Tryz.func5 rfl rfl rfl rfl rfl ?_
 obtain ⟨hg14, h0⟩ := gd h0; obtain ⟨⟨r15, r16, r17, r18⟩, hq19, h0⟩ := ob h0
 refine sr (sa rfl (sn (sr (s1 (bld rfl (bd68_0 (1 : Int))) (s1 (bld rfl (bd77_0_1_4 ([105, 100] : List UInt8) (1 : Int) (ApiValue.mk (1 : Int) (0 : UInt64) ([] : List UInt8)))) (s1 (bld rfl (bd68_0 (1 : Int))) (s1 (bld rfl (bd77_0_1_4 ([110] : List UInt8) (1 : Int) (ApiValue.mk (1 : Int) (0 : UInt64) ([] : List UInt8)))) (s1 (bsn (k := 0) (ds := List.map eApiColumn [(ApiColumn.mk ([105, 100] : List UInt8) (1 : Int) (0 : Int) false (ApiValue.mk (1 : Int) (0 : UInt64) ([] : List UInt8))), (ApiColumn.mk ([110] : List UInt8) (1 : Int) (0 : Int) false (ApiValue.mk (1 : Int) (0 : UInt64) ([] : List UInt8)))]) (off := 0) (l' := [(ApiColumn.mk ([105, 100] : List UInt8) (1 : Int) (0 : Int) false (ApiValue.mk (1 : Int) (0 : UInt64) ([] : List UInt8))), (ApiColumn.mk ([110] : List UInt8) (1 : Int) (0 : Int) false (ApiValue.mk (1 : Int) (0 : UInt64) ([] : List UInt8)))].length) rfl un22 ei77 rfl rfl (by rfl) rfl rfl rfl) (s1 (bsn (k := 1) (ds := List.map eI [(0 : Int)]) (off := 0) (l' := [(0 : Int)].length) rfl un23 ei3 rfl rfl (by rfl) rfl rfl rfl) ?_)))))))))
 refine s1 (bld rfl (bd26_0_1_2_4 ([97] : List UInt8) (2 : Int))) (s1 (alo (k := 2) zo26 rfl) (s0 (sto rfl rfl (sB (d' := .agg [.d (eS ([97] : List UInt8)), .slc 0 7 0 ([(ApiColumn.mk ([105, 100] : List UInt8) (1 : Int) (0 : Int) false (ApiValue.mk (1 : Int) (0 : UInt64) ([] : List UInt8))), (ApiColumn.mk ([110] : List UInt8) (1 : Int) (0 : Int) false (ApiValue.mk (1 : Int) (0 : UInt64) ([] : List UInt8)))].length) none, .slc 1 1 0 ([(0 : Int)].length) none, .d .nils, .d (eI (2 : Int))]) ts26 rfl rfl rfl rfl rfl rfl rfl)) (sn (sr (s1 (bld rfl (bd79_0 (1 : Int))) (s1 (bsn (k := 3) (ds := List.map eApiPart [(ApiPart.mk (1 : Int) false)]) (off := 0) (l' := [(ApiPart.mk (1 : Int) false)].length) rfl un80 ei79 rfl rfl (by rfl) rfl rfl rfl) (s1 (bld rfl (bd82_0_1_3_4_5 ([120] : List UInt8) true true (3 : Int))) (SO.wk (Wk.frzs (i := 13) (x := .agg [.d (eS ([120] : List UInt8)), .slc 3 2 0 ([(ApiPart.mk (1 : Int) false)].length) none, .d .nils, .d (eB true), .d (eB true), .d (eI (3 : Int))]) rfl rfl rfl (frzs_d rfl (frzs_slc (fF rfl rfl rfl) (frzs_d rfl (frzs_d rfl (frzs_d rfl (frzs_d rfl frzs_nil))))))) (SO.wk (Wk.put1 (i := 13) (x := .d (.agg [(eS ([120] : List UInt8)), ((eL 2 eApiPart) [(ApiPart.mk (1 : Int) false)]), .nils, (eB true), (eB true), (eI (3 : Int))])) (y := .d (eApiIndex (ApiIndex.mk ([120] : List UInt8) [(ApiPart.mk (1 : Int) false)] ([] : List Int) true true (3 : Int)))) rfl rfl (AW.aggd rfl (AWs.cons (AW.refl _) (AWs.cons (AW.refl _) (AWs.cons (AW.nl _) (AWs.cons (AW.refl _) (AWs.cons (AW.refl _) (AWs.cons (AW.refl _) AWs.nil)))))))) ?_)))))))))
 refine s1 (bsn (k := 4) (ds := List.map eApiIndex [(ApiIndex.mk ([120] : List UInt8) [(ApiPart.mk (1 : Int) false)] ([] : List Int) true true (3 : Int))]) (off := 0) (l' := [(ApiIndex.mk ([120] : List UInt8) [(ApiPart.mk (1 : Int) false)] ([] : List Int) true true (3 : Int))].length) rfl un24 ei82 rfl rfl (by rfl) rfl rfl rfl) (s1 (far (k := 3) rfl fo26_3 ts24 rfl) (s0 (sto rfl rfl (sB (d' := .agg [.d (eS ([97] : List UInt8)), .slc 0 7 0 ([(ApiColumn.mk ([105, 100] : List UInt8) (1 : Int) (0 : Int) false (ApiValue.mk (1 : Int) (0 : UInt64) ([] : List UInt8))), (ApiColumn.mk ([110] : List UInt8) (1 : Int) (0 : Int) false (ApiValue.mk (1 : Int) (0 : UInt64) ([] : List UInt8)))].length) none, .slc 1 1 0 ([(0 : Int)].length) none, .slc 4 6 0 ([(ApiIndex.mk ([120] : List UInt8) [(ApiPart.mk (1 : Int) false)] ([] : List Int) true true (3 : Int))].length) none, .d (eI (2 : Int))]) ts24 rfl rfl rfl rfl rfl rfl rfl)) (sn (sd (by kernel_rfl) (t1 ([2], false) (lod (v := .agg [.d (eS ([97] : List UInt8)), .slc 0 7 0 ([(ApiColumn.mk ([105, 100] : List UInt8) (1 : Int) (0 : Int) false (ApiValue.mk (1 : Int) (0 : UInt64) ([] : List UInt8))), (ApiColumn.mk ([110] : List UInt8) (1 : Int) (0 : Int) false (ApiValue.mk (1 : Int) (0 : UInt64) ([] : List UInt8)))].length) none, .slc 1 1 0 ([(0 : Int)].length) none, .slc 4 6 0 ([(ApiIndex.mk ([120] : List UInt8) [(ApiPart.mk (1 : Int) false)] ([] : List Int) true true (3 : Int))].length) none, .d (eI (2 : Int))]) rfl (ld_box ts26 ta26 rfl rfl)) rfl ?_)))))
 refine t1 ([5], true) (mks (f := eFanBuilt) (u := (FanBuilt.mk ([] : List UInt8) false)) (k := 5) rfl rfl un27 ei99 rfl hg14 rfl) rfl (t1 ([], false) (bld rfl (bd68_0_1 (1 : Int) (1 : UInt64))) rfl (t1 ([], false) (bld rfl (bd68_0_1 (1 : Int) (2 : UInt64))) rfl (t1 ([6], true) (bsn (k := 6) (ds := List.map eApiValue [(ApiValue.mk (1 : Int) (1 : UInt64) ([] : List UInt8)), (ApiValue.mk (1 : Int) (2 : UInt64) ([] : List UInt8))]) (off := 0) (l' := [(ApiValue.mk (1 : Int) (1 : UInt64) ([] : List UInt8)), (ApiValue.mk (1 : Int) (2 : UInt64) ([] : List UInt8))].length) rfl un28 ei68 rfl rfl (by rfl) rfl rfl rfl) rfl (tq (args' := [.agg [.d (eS ([97] : List UInt8)), .slc 0 7 0 ([(ApiColumn.mk ([105, 100] : List UInt8) (1 : Int) (0 : Int) false (ApiValue.mk (1 : Int) (0 : UInt64) ([] : List UInt8))), (ApiColumn.mk ([110] : List UInt8) (1 : Int) (0 : Int) false (ApiValue.mk (1 : Int) (0 : UInt64) ([] : List UInt8)))].length) none, .slc 1 1 0 ([(0 : Int)].length) none, .slc 2 6 0 ([(ApiIndex.mk ([120] : List UInt8) [(ApiPart.mk (1 : Int) false)] ([] : List Int) true true (3 : Int))].length) none, .d (eI (2 : Int))], .slc 3 2 0 ((List.replicate (1 : Int).toNat (FanBuilt.mk ([] : List UInt8) false)).length) none, .d .nils, .slc 4 3 0 ([(ApiValue.mk (1 : Int) (1 : UInt64) ([] : List UInt8)), (ApiValue.mk (1 : Int) (2 : UInt64) ([] : List UInt8))].length) none]) (σc := [.row 7 (List.map eApiColumn [(ApiColumn.mk ([105, 100] : List UInt8) (1 : Int) (0 : Int) false (ApiValue.mk (1 : Int) (0 : UInt64) ([] : List UInt8))), (ApiColumn.mk ([110] : List UInt8) (1 : Int) (0 : Int) false (ApiValue.mk (1 : Int) (0 : UInt64) ([] : List UInt8)))]) true, .row 1 (List.map eI [(0 : Int)]) true, .row 6 (List.map eApiIndex [(ApiIndex.mk ([120] : List UInt8) [(ApiPart.mk (1 : Int) false)] ([] : List Int) true true (3 : Int))]) true, .row 2 (List.map eFanBuilt (List.replicate (1 : Int).toNat (FanBuilt.mk ([] : List UInt8) false))) true, .row 3 (List.map eApiValue [(ApiValue.mk (1 : Int) (1 : UInt64) ([] : List UInt8)), (ApiValue.mk (1 : Int) (2 : UInt64) ([] : List UInt8))]) true]) [0, 1, 4, 5, 6] [7, 8, 9, 10] ([0, 1, 4, 5, 6, 7, 8, 9, 10], true) (CallAt.frz (ArgF.frzw (y := .d (eApiTable (ApiTable.mk ([97] : List UInt8) [(ApiColumn.mk ([105, 100] : List UInt8) (1 : Int) (0 : Int) false (ApiValue.mk (1 : Int) (0 : UInt64) ([] : List UInt8))), (ApiColumn.mk ([110] : List UInt8) (1 : Int) (0 : Int) false (ApiValue.mk (1 : Int) (0 : UInt64) ([] : List UInt8)))] [(0 : Int)] [(ApiIndex.mk ([120] : List UInt8) [(ApiPart.mk (1 : Int) false)] ([] : List Int) true true (3 : Int))] (2 : Int)))) rfl (frzs_d rfl (frzs_slc (fF rfl rfl rfl) (frzs_slc (fF rfl rfl rfl) (frzs_slc (fF rfl rfl rfl) (frzs_d rfl frzs_nil))))) (AW.aggd rfl (AWs.cons (AW.refl _) (AWs.cons (AW.refl _) (AWs.cons (AW.refl _) (AWs.cons (AW.refl _) (AWs.cons (AW.refl _) AWs.nil)))))) (ArgF.frz (fF rfl rfl rfl) (ArgF.aw (AW.nl _) (ArgF.frz (fF rfl rfl rfl) (ArgF.nil _))))) (fq [] [5, 6, 7, 8] (fan_Change_ok (ApiTable.mk ([97] : List UInt8) [(ApiColumn.mk ([105, 100] : List UInt8) (1 : Int) (0 : Int) false (ApiValue.mk (1 : Int) (0 : UInt64) ([] : List UInt8))), (ApiColumn.mk ([110] : List UInt8) (1 : Int) (0 : Int) false (ApiValue.mk (1 : Int) (0 : UInt64) ([] : List UInt8)))] [(0 : Int)] [(ApiIndex.mk ([120] : List UInt8) [(ApiPart.mk (1 : Int) false)] ([] : List Int) true true (3 : Int))] (2 : Int)) (List.replicate (1 : Int).toNat (FanBuilt.mk ([] : List UInt8) false)) ([] : List ApiValue) [(ApiValue.mk (1 : Int) (1 : UInt64) ([] : List UInt8)), (ApiValue.mk (1 : Int) (2 : UInt64) ([] : List UInt8))] _ hq19) rfl rfl rfl rfl rfl rfl rfl rfl)) wf rfl rfl rfl cb10 rfl rfl rfl rfl rfl rfl rfl rfl rfl ?_))))
 refine t1 ([], false) (mv rfl) rfl (t1 ([], false) (ext rfl rfl) rfl (t1 ([], false) (ext rfl rfl) rfl (t1 ([11], true) (alo (k := 11) zo40 rfl) rfl (t0 ([11, 8, 9, 10], true) (sto rfl rfl (sB (d' := .agg [.slc 8 9 0 r16.length none, .slc 9 5 0 r17.length none, .slc 10 4 0 r18.length none]) ts40 rfl rfl rfl rfl rfl rfl rfl)) rfl (t1 ([], false) (asg rfl) rfl (tn (by decide +kernel) (SC.seqP h0 (fun y => ⟨mk 58 [(0, .d (eB y))], []⟩) ?_ ?_)))))))
 ·intro u1_23 h1
  refine SC.region (sm rfl (s1 (bi rfl rfl q_i64_eql) (sm rfl (sp h1 (fun h1 => ?_) (fun h1 => ?_)))))
  ·refine gw rfl (far (k := 0) rfl fo40_0 ts36 rfl) (gw rfl (lod rfl (ld_box ts36 ta36 rfl rfl)) (gw rfl (len rfl rfl rfl (len_slc un36)) (gw rfl (bi rfl rfl q_i64_eql) (s1 (pkt rfl rfl) (sm rfl (sp h1 (fun h1 => ?_) (fun h1 => ?_)))))))
   ·refine gw rfl (far (k := 1) rfl fo40_1 ts37 rfl) (gw rfl (lod rfl (ld_box ts37 ta37 rfl rfl)) (gw rfl (len rfl rfl rfl (len_slc un37)) (gw rfl (bi rfl rfl q_i64_eql) (s1 (pkt rfl rfl) (sm rfl (sp h1 (fun h1 => ?_) (fun h1 => ?_)))))))
    ·refine gw rfl (far (k := 2) rfl fo40_2 ts38 rfl) (gw rfl (lod rfl (ld_box ts38 ta38 rfl rfl)) (gw rfl (len rfl rfl rfl (len_slc un38)) (gw rfl (bi rfl rfl q_i64_eql) (s1 (pkt rfl rfl) (sm rfl (sp h1 (fun h1 => ?_) (fun h1 => ?_)))))))
     ·obtain ⟨v24, hv24, h1⟩ := ob h1
      refine gw rfl (far (k := 0) rfl fo40_0 ts36 rfl) (gw rfl (lod rfl (ld_box ts36 ta36 rfl rfl)) (gw rfl (iaz rfl rfl un36 ts65 (getI_lt hv24)) (gw rfl (far (k := 1) rfl fo65_1 ts3 rfl) (gw rfl (lod rfl (ld_row ts3 ta3 rfl (map_get (getI_some hv24).2) rfl)) (gw rfl (bi rfl rfl q_i64_eql) (s1 (pkt rfl rfl) (sm rfl (sp h1 (fun h1 => ?_) (fun h1 => ?_)))))))))
      ·obtain ⟨_, hq25, h1⟩ := ob h1; have q := si h1; subst q
       exact cq [] [12] (fan_Point_ok ([97] : List UInt8) _ hq25) (ww rfl) rfl rfl rfl cb6 rfl rfl rfl rfl rfl rfl rfl rfl (gw rfl (fld rfl fo31_1 ts9 ta9 rfl rfl) (gw rfl (bi rfl rfl (q_str_eql (b := ([97, 0] : List UInt8)))) (s1 (pkt rfl rfl) (sa rfl (SO.nil ((wc [] [] (by kernel_rfl) rfl (by kernel_rfl))))))))
      ·have q := si h1; subst q
       exact kw rfl (kw rfl (kw rfl (s1 (pkf rfl rfl) (sa rfl (SO.nil ((wc [] [] (by kernel_rfl) rfl (by kernel_rfl))))))))
     ·have q := si h1; subst q
      refine kw rfl (kw rfl (kw rfl (kw rfl (kw rfl (kw rfl (s1 (pkf rfl rfl) (sm rfl (kw rfl (kw rfl ?_)))))))))
      exact kw rfl (s1 (pkf rfl rfl) (sa rfl (SO.nil ((wc [] [] (by kernel_rfl) rfl (by kernel_rfl))))))
    ·have q := si h1; subst q
     refine kw rfl (kw rfl (kw rfl (kw rfl (s1 (pkf rfl rfl) (sm rfl (kw rfl (kw rfl (kw rfl (kw rfl ?_)))))))))
     refine kw rfl (kw rfl (s1 (pkf rfl rfl) (sm rfl (kw rfl (kw rfl (kw rfl (s1 (pkf rfl rfl) (sa rfl (SO.nil ?_)))))))))
     exact (wc [] [] (by kernel_rfl) rfl (by kernel_rfl))
   ·have q := si h1; subst q
    refine kw rfl (kw rfl (kw rfl (kw rfl (s1 (pkf rfl rfl) (sm rfl (kw rfl (kw rfl (kw rfl (kw rfl ?_)))))))))
    refine s1 (pkf rfl rfl) (sm rfl (kw rfl (kw rfl (kw rfl (kw rfl (kw rfl (kw rfl (s1 (pkf rfl rfl) (sm rfl ?_)))))))))
    exact kw rfl (kw rfl (kw rfl (s1 (pkf rfl rfl) (sa rfl (SO.nil ((wc [] [] (by kernel_rfl) rfl (by kernel_rfl))))))))
  ·have q := si h1; subst q
   refine kw rfl (kw rfl (kw rfl (kw rfl (s1 (pkf rfl rfl) (sm rfl (kw rfl (kw rfl (kw rfl (kw rfl ?_)))))))))
   refine s1 (pkf rfl rfl) (sm rfl (kw rfl (kw rfl (kw rfl (kw rfl (s1 (pkf rfl rfl) (sm rfl (kw rfl (kw rfl ?_)))))))))
   refine kw rfl (kw rfl (kw rfl (kw rfl (s1 (pkf rfl rfl) (sm rfl (kw rfl (kw rfl (kw rfl (s1 (pkf rfl rfl) ?_)))))))))
   exact sa rfl (SO.nil ((wc [] [] (by kernel_rfl) rfl (by kernel_rfl))))
 ·rintro y22 h0
  have q := si h0; subst q
  exact SC.ret (finR (Wk.refl _) (lresT rfl lresN) rfl)
noncomputable def ref06_Name (p0 : List UInt8) : Option Bool :=
 Option.bind (α := Bool)
 (bif (decide ((p0.length : Int) < (1 : Int))) then
 some true
 else
 bif (decide ((p0.length : Int) > (16 : Int))) then
 some true
 else
 Option.bind (getI p0 (0 : Int)) fun v155 =>
 bif (decide (v155 < (97 : UInt8))) then
 some true
 else
 Option.bind (getI p0 (0 : Int)) fun v156 =>
 some (decide ((122 : UInt8) < v156)))
 fun y153 =>
 bif y153 then
 some false
 else
 bindE (Y := Unit) (E := Bool)
 (Option.bind (α := Unit ⊕ Bool)
 (loop (Y := Int) (W := Unit ⊕ Bool) (fun y251 =>
 bif (decide (y251 < (p0.length : Int))) then
 Option.bind (α := Bool)
 (Option.bind (getI p0 y251) fun v289 =>
 bif (decide (v289 < (97 : UInt8))) then
 Option.bind (getI p0 y251) fun v290 =>
 bif (decide (v290 < (48 : UInt8))) then
 Option.bind (getI p0 y251) fun v291 =>
 some (v291 != (95 : UInt8))
 else
 Option.bind (getI p0 y251) fun v292 =>
 bif (decide ((57 : UInt8) < v292)) then
 Option.bind (getI p0 y251) fun v293 =>
 some (v293 != (95 : UInt8))
 else
 some false
 else
 Option.bind (getI p0 y251) fun v294 =>
 bif (decide ((122 : UInt8) < v294)) then
 Option.bind (getI p0 y251) fun v295 =>
 bif (decide (v295 < (48 : UInt8))) then
 Option.bind (getI p0 y251) fun v296 =>
 some (v296 != (95 : UInt8))
 else
 Option.bind (getI p0 y251) fun v297 =>
 bif (decide ((57 : UInt8) < v297)) then
 Option.bind (getI p0 y251) fun v298 =>
 some (v298 != (95 : UInt8))
 else
 some false
 else
 some false)
 fun y287 =>
 bif y287 then
 some (Sum.inr (Sum.inr false))
 else
 some (Sum.inl (w64 (y251 + (1 : Int))))
 else
 some (Sum.inr (Sum.inl ()))) (1 : Int))
 (Sum.elim (fun e => some (Sum.inl e)) (fun e => some (Sum.inr e))))
 (fun _ =>
 some true)
 (fun e => some e)
theorem ref06_Name_ok (p0 : List UInt8) (r : Bool) (h0 : ref06_Name p0 = some r) : CallAt Tryz.prog 22 [.d (eS p0)] [] (.d (eB r)) [] := by
 unfold ref06_Name at h0
 refine fn0 [0] Tryz.func22 rfl rfl rfl rfl rfl ?_
 refine sr (sa rfl (sn (sq (SC.seqP h0 (fun y => ⟨mk 56 [(0, .d (eS p0)), (21, .d (eB y))], []⟩) ?_ ?_))))
 ·intro u1_154 h1
  refine SC.region (sm rfl (s1 (len rfl rfl rfl (len_str un9)) (s1 (bi rfl rfl q_i64_lss) (sm rfl (sp h1 (fun h1 => ?_) (fun h1 => ?_))))))
  ·have q := si h1; subst q
   refine kw rfl (kw rfl (kw rfl (s1 (pkt rfl rfl) (sm rfl (kw rfl (kw rfl (kw rfl (s1 (pkt rfl rfl) (sm rfl ?_)))))))))
   exact kw rfl (kw rfl (kw rfl (s1 (pkt rfl rfl) (SO.nil ((wq rfl))))))
  ·refine gw rfl (mv rfl) (gw rfl (len rfl rfl rfl (len_str un9)) (gw rfl (bi rfl rfl q_i64_gtr) (s1 (pkf rfl rfl) (sm rfl (sp h1 (fun h1 => ?_) (fun h1 => ?_))))))
   ·have q := si h1; subst q
    refine kw rfl (kw rfl (kw rfl (s1 (pkt rfl rfl) (sm rfl (kw rfl (kw rfl (kw rfl (s1 (pkt rfl rfl) (SO.nil ?_)))))))))
    exact (wq rfl)
   ·obtain ⟨v155, hv155, h1⟩ := ob h1
    refine gw rfl (mv rfl) (gw rfl (ixs rfl rfl rfl rfl (ix_str un9 (getI_some hv155).1 (getI_some hv155).2)) (gw rfl (bi rfl rfl (q_u8_lss (b := (97 : UInt8)))) (s1 (pkf rfl rfl) (sm rfl (sp h1 (fun h1 => ?_) (fun h1 => ?_))))))
    ·have q := si h1; subst q
     exact kw rfl (kw rfl (kw rfl (s1 (pkt rfl rfl) (SO.nil ((wq rfl))))))
    ·obtain ⟨v156, hv156, h1⟩ := ob h1; have q := si h1; subst q
     exact gw rfl (mv rfl) (gw rfl (ixs rfl rfl rfl rfl (ix_str un9 (getI_some hv156).1 (getI_some hv156).2)) (gw rfl (bi rfl rfl (q_u8_gtr (b := (122 : UInt8)))) (s1 (pkf rfl rfl) (SO.nil ((wq rfl))))))
 ·rintro y153 h0
  refine cB h0 rfl (fun h0 => ?_) (fun h0 => ?_)
  ·have q := si h0; subst q
   exact sr (sa rfl (sn (SC.ret (finR (Wk.refl _) (lresT rfl lresN) rfl))))
  ·refine sk (SC.seqB h0 (fun y => ⟨mk 56 [], []⟩) ?_ ?_)
   ·intro u1_228 h1 h0
    obtain ⟨u2_276, h2, h1⟩ := ob h1
    refine sr (sa rfl (sn (SC.blk (SC.loopB h2 (fun y => ⟨mk 56 [(0, .d (eS p0)), (3, .d (eI y))], []⟩) (wq rfl) ?_))))
    intro n299
    rintro y251 w2_275 h3 hv3
    refine sq (sr (sm rfl (sm rfl (s1 (len rfl rfl rfl (len_str un9)) (s1 (bi rfl rfl q_i64_lss) (sn (cB h3 rfl (fun h3 => ?_) (fun h3 => ?_))))))))
    ·refine sk (sq (SC.blk (SC.seqP h3 (fun y => ⟨mk 56 [(0, .d (eS p0)), (3, .d (eI y251)), (55, .d (eB y))], []⟩) ?_ ?_)))
     ·intro u4_288 h4
      obtain ⟨v289, hv289, h4⟩ := ob h4
      refine SC.region (sm rfl (sm rfl (s1 (ixs rfl rfl rfl rfl (ix_str un9 (getI_some hv289).1 (getI_some hv289).2)) (s1 (bi rfl rfl (q_u8_lss (b := (97 : UInt8)))) (sm rfl (sp h4 (fun h4 => ?_) (fun h4 => ?_)))))))
      ·obtain ⟨v290, hv290, h4⟩ := ob h4
       refine kw rfl (kw rfl (kw rfl (kw rfl (s1 (pkt rfl rfl) (sm rfl (gw rfl (mv rfl) (gw rfl (mv rfl) (gw rfl (ixs rfl rfl rfl rfl (ix_str un9 (getI_some hv290).1 (getI_some hv290).2)) (gw rfl (bi rfl rfl (q_u8_lss (b := (48 : UInt8)))) ?_)))))))))
       refine gw rfl (mv rfl) (sp h4 (fun h4 => ?_) (fun h4 => ?_))
       ·obtain ⟨v291, hv291, h4⟩ := ob h4; have q := si h4; subst q
        refine kw rfl (kw rfl (kw rfl (kw rfl (gw rfl (pkt rfl rfl) (s1 (pkt rfl rfl) (sm rfl (gw rfl (mv rfl) (gw rfl (mv rfl) (gw rfl (ixs rfl rfl rfl rfl (ix_str un9 (getI_some hv291).1 (getI_some hv291).2)) ?_)))))))))
        exact gw rfl (bi rfl rfl (q_u8_neq (b := (95 : UInt8)))) (s1 (pkt rfl rfl) (SO.nil ((wq rfl))))
       ·obtain ⟨v292, hv292, h4⟩ := ob h4
        refine gw rfl (mv rfl) (gw rfl (mv rfl) (gw rfl (ixs rfl rfl rfl rfl (ix_str un9 (getI_some hv292).1 (getI_some hv292).2)) (gw rfl (bi rfl rfl (q_u8_gtr (b := (57 : UInt8)))) (gw rfl (pkf rfl rfl) (s1 (pkt rfl rfl) (sm rfl (sp h4 (fun h4 => ?_) (fun h4 => ?_))))))))
        ·obtain ⟨v293, hv293, h4⟩ := ob h4; have q := si h4; subst q
         exact gw rfl (mv rfl) (gw rfl (mv rfl) (gw rfl (ixs rfl rfl rfl rfl (ix_str un9 (getI_some hv293).1 (getI_some hv293).2)) (gw rfl (bi rfl rfl (q_u8_neq (b := (95 : UInt8)))) (s1 (pkt rfl rfl) (SO.nil ((wq rfl)))))))
        ·have q := si h4; subst q
         exact kw rfl (kw rfl (kw rfl (kw rfl (s1 (pkf rfl rfl) (SO.nil ((wq rfl)))))))
      ·obtain ⟨v294, hv294, h4⟩ := ob h4
       refine gw rfl (mv rfl) (gw rfl (mv rfl) (gw rfl (ixs rfl rfl rfl rfl (ix_str un9 (getI_some hv294).1 (getI_some hv294).2)) (gw rfl (bi rfl rfl (q_u8_gtr (b := (122 : UInt8)))) (s1 (pkf rfl rfl) (sm rfl (sp h4 (fun h4 => ?_) (fun h4 => ?_)))))))
       ·obtain ⟨v295, hv295, h4⟩ := ob h4
        refine gw rfl (mv rfl) (gw rfl (mv rfl) (gw rfl (ixs rfl rfl rfl rfl (ix_str un9 (getI_some hv295).1 (getI_some hv295).2)) (gw rfl (bi rfl rfl (q_u8_lss (b := (48 : UInt8)))) (gw rfl (mv rfl) (sp h4 (fun h4 => ?_) (fun h4 => ?_))))))
        ·obtain ⟨v296, hv296, h4⟩ := ob h4; have q := si h4; subst q
         refine kw rfl (kw rfl (kw rfl (kw rfl (gw rfl (pkt rfl rfl) (s1 (pkt rfl rfl) (sm rfl (gw rfl (mv rfl) (gw rfl (mv rfl) (gw rfl (ixs rfl rfl rfl rfl (ix_str un9 (getI_some hv296).1 (getI_some hv296).2)) ?_)))))))))
         exact gw rfl (bi rfl rfl (q_u8_neq (b := (95 : UInt8)))) (s1 (pkt rfl rfl) (SO.nil ((wq rfl))))
        ·obtain ⟨v297, hv297, h4⟩ := ob h4
         refine gw rfl (mv rfl) (gw rfl (mv rfl) (gw rfl (ixs rfl rfl rfl rfl (ix_str un9 (getI_some hv297).1 (getI_some hv297).2)) (gw rfl (bi rfl rfl (q_u8_gtr (b := (57 : UInt8)))) (gw rfl (pkf rfl rfl) (s1 (pkt rfl rfl) (sm rfl (sp h4 (fun h4 => ?_) (fun h4 => ?_))))))))
         ·obtain ⟨v298, hv298, h4⟩ := ob h4; have q := si h4; subst q
          exact gw rfl (mv rfl) (gw rfl (mv rfl) (gw rfl (ixs rfl rfl rfl rfl (ix_str un9 (getI_some hv298).1 (getI_some hv298).2)) (gw rfl (bi rfl rfl (q_u8_neq (b := (95 : UInt8)))) (s1 (pkt rfl rfl) (SO.nil ((wq rfl)))))))
         ·have q := si h4; subst q
          exact kw rfl (kw rfl (kw rfl (kw rfl (s1 (pkf rfl rfl) (SO.nil ((wq rfl)))))))
       ·have q := si h4; subst q
        refine kw rfl (kw rfl (kw rfl (kw rfl (kw rfl (kw rfl (kw rfl (kw rfl (kw rfl (kw rfl ?_)))))))))
        exact s1 (pkf rfl rfl) (sm rfl (kw rfl (kw rfl (kw rfl (kw rfl (s1 (pkf rfl rfl) (SO.nil ((wq rfl)))))))))
     ·rintro y287 h3
      refine cB h3 rfl (fun h3 => ?_) (fun h3 => ?_)
      ·have q := si h3; subst q; have q : _ = _ := hv3; subst q; have q := si h1; subst q; have q := si h0; subst q
       exact sr (sa rfl (sn (SC.ret (finR (Wk.refl _) (lresT rfl lresN) rfl))))
      ·refine SC.skip ?_
       change SC _ _ _ _ _
       have q := si h3; subst q
       exact SC.region (sm rfl (s1 (bi rfl rfl q_i64_add) (sa rfl (SO.nil (lf (wq rfl))))))
    ·have q := si h3; subst q; have q : _ = _ := hv3; subst q; have q := si h1; subst q
     exact SC.exit (lf (wq rfl))
   ·intro _ h0
    have q := si h0; subst q
    exact sr (sa rfl (sn (SC.ret (finR (Wk.refl _) (lresT rfl lresN) rfl))))
noncomputable def ref06_utf8 (p0 : List UInt8) : Option Bool :=
 bindE (Y := Unit) (E := Bool)
 (Option.bind (α := Unit ⊕ Bool)
 (loop (Y := Int) (W := Unit ⊕ Bool) (fun y549 =>
 bif (decide (y549 < (p0.length : Int))) then
 Option.bind (getI p0 y549) fun v606 =>
 bindE (Y := Int × Int × Int) (E := Bool)
 (bif (decide ((v606.toNat : Int) < (128 : Int))) then
 some (Sum.inl ((1 : Int), (0 : Int), (v606.toNat : Int)))
 else
 Option.bind (α := Bool)
 (bif (decide ((v606.toNat : Int) ≥ (194 : Int))) then
 some (decide ((v606.toNat : Int) < (224 : Int)))
 else
 some false)
 fun y617 =>
 bif y617 then
 some (Sum.inl ((2 : Int), (128 : Int), (w64 ((v606.toNat : Int) - (192 : Int)))))
 else
 Option.bind (α := Bool)
 (bif (decide ((v606.toNat : Int) ≥ (224 : Int))) then
 some (decide ((v606.toNat : Int) < (240 : Int)))
 else
 some false)
 fun y619 =>
 bif y619 then
 some (Sum.inl ((3 : Int), (2048 : Int), (w64 ((v606.toNat : Int) - (224 : Int)))))
 else
 Option.bind (α := Bool)
 (bif (decide ((v606.toNat : Int) ≥ (240 : Int))) then
 some (decide ((v606.toNat : Int) < (245 : Int)))
 else
 some false)
 fun y621 =>
 bif y621 then
 some (Sum.inl ((4 : Int), (65536 : Int), (w64 ((v606.toNat : Int) - (240 : Int)))))
 else
 some (Sum.inr false))
 (fun (y613, y614, y615) =>
 bif (decide ((w64 (y549 + y613)) > (p0.length : Int))) then
 some (Sum.inr (Sum.inr false))
 else
 bindE (Y := Int) (E := Bool)
 (Option.bind (α := Int ⊕ Bool)
 (loop (Y := Int × Int) (W := Int ⊕ Bool) (fun (y644, y645) =>
 bif (decide (y645 < y613)) then
 Option.bind (getI p0 (w64 (y549 + y645))) fun v653 =>
 Option.bind (α := Bool)
 (bif (decide ((v653.toNat : Int) < (128 : Int))) then
 some true
 else
 some (decide ((v653.toNat : Int) ≥ (192 : Int))))
 fun y654 =>
 bif y654 then
 some (Sum.inr (Sum.inr false))
 else
 some (Sum.inl ((w64 ((w64 ((w64 (y644 * (64 : Int))) + (v653.toNat : Int))) - (128 : Int))), (w64 (y645 + (1 : Int)))))
 else
 some (Sum.inr (Sum.inl y644))) (y615, (1 : Int)))
 (Sum.elim (fun e => some (Sum.inl e)) (fun e => some (Sum.inr e))))
 (fun y639 =>
 Option.bind (α := Bool)
 (bif (decide (y639 < y614)) then
 some true
 else
 bif (decide (y639 > (1114111 : Int))) then
 some true
 else
 bif (decide (y639 ≥ (55296 : Int))) then
 some (decide (y639 < (57344 : Int)))
 else
 some false)
 fun y657 =>
 bif y657 then
 some (Sum.inr (Sum.inr false))
 else
 some (Sum.inl (w64 (y549 + y613))))
 (fun e => some (Sum.inr (Sum.inr e))))
 (fun e => some (Sum.inr (Sum.inr e)))
 else
 some (Sum.inr (Sum.inl ()))) (0 : Int))
 (Sum.elim (fun e => some (Sum.inl e)) (fun e => some (Sum.inr e))))
 (fun _ =>
 some true)
 (fun e => some e)
theorem ref06_utf8_ok (p0 : List UInt8) (r : Bool) (h0 : ref06_utf8 p0 = some r) : CallAt Tryz.prog 120 [.d (eS p0)] [] (.d (eB r)) [] := by
 unfold ref06_utf8 at h0
 refine fn0 [0] Tryz.func120 rfl rfl rfl rfl rfl ?_
 refine sr (sa rfl (sn (SC.seqB h0 (fun y => ⟨mk 95 [], []⟩) ?_ ?_)))
 ·intro u1_495 h1 h0
  obtain ⟨u2_605, h2, h1⟩ := ob h1
  refine sr (sa rfl (sn (SC.blk (SC.loopB h2 (fun y => ⟨mk 95 [(0, .d (eS p0)), (3, .d (eI y))], []⟩) (wq rfl) ?_))))
  intro n659
  rintro y549 w2_604 h3 hv3
  refine sq (sr (sm rfl (sm rfl (s1 (len rfl rfl rfl (len_str un9)) (s1 (bi rfl rfl q_i64_lss) (sn (cB h3 rfl (fun h3 => ?_) (fun h3 => ?_))))))))
  ·obtain ⟨v606, hv606, h3⟩ := ob h3
   refine sk (SC.blk (sr (sm rfl (sm rfl (s1 (ixs rfl rfl rfl rfl (ix_str un9 (getI_some hv606).1 (getI_some hv606).2)) (s1 (cvo rfl (cv_u8_i64 un5 un3 v606)) (sa rfl (sn (sr ?_)))))))))
   refine sa rfl (sn (sr (sa rfl (sn (sr (sm rfl (sa rfl (sn (SC.seqB h3 (fun y => ⟨mk 95 [(0, .d (eS p0)), (3, .d (eI y549)), (5, .d (eI y.1)), (6, .d (eI y.2.1)), (7, .d (eI y.2.2))], []⟩) ?_ ?_)))))))))
   ·intro u4_616 h4 h3
    refine SC.blk (sr (sm rfl (s1 (bi rfl rfl q_i64_lss) (sa rfl (sn (cB h4 rfl (fun h4 => ?_) (fun h4 => ?_)))))))
    ·have q := si h4; subst q
     exact SC.skip (lf (wq rfl))
    ·refine SC.seqP h4 (fun y => ⟨mk 95 [(0, .d (eS p0)), (3, .d (eI y549)), (4, .d (eI (v606.toNat : Int))), (22, .d (eB y))], []⟩) ?_ ?_
     ·intro u5_618 h5
      refine SC.region (sm rfl (s1 (bi rfl rfl q_i64_geq) (sm rfl (sp h5 (fun h5 => ?_) (fun h5 => ?_)))))
      ·have q := si h5; subst q
       exact gw rfl (mv rfl) (gw rfl (bi rfl rfl q_i64_lss) (s1 (pkt rfl rfl) (sa rfl (SO.nil ((wq rfl))))))
      ·have q := si h5; subst q
       exact kw rfl (kw rfl (s1 (pkf rfl rfl) (sa rfl (SO.nil ((wq rfl))))))
     ·rintro y617 h4
      refine cB h4 rfl (fun h4 => ?_) (fun h4 => ?_)
      ·have q := si h4; subst q
       exact SC.region (sm rfl (s1 (bi rfl rfl q_i64_sub) (sa rfl (sa rfl (sa rfl (SO.nil (lf (wq rfl))))))))
      ·refine SC.seqP h4 (fun y => ⟨mk 95 [(0, .d (eS p0)), (3, .d (eI y549)), (4, .d (eI (v606.toNat : Int))), (31, .d (eB y))], []⟩) ?_ ?_
       ·intro u5_620 h5
        refine SC.region (sm rfl (s1 (bi rfl rfl q_i64_geq) (sm rfl (sp h5 (fun h5 => ?_) (fun h5 => ?_)))))
        ·have q := si h5; subst q
         exact gw rfl (mv rfl) (gw rfl (bi rfl rfl q_i64_lss) (s1 (pkt rfl rfl) (sa rfl (SO.nil ((wq rfl))))))
        ·have q := si h5; subst q
         exact kw rfl (kw rfl (s1 (pkf rfl rfl) (sa rfl (SO.nil ((wq rfl))))))
       ·rintro y619 h4
        refine cB h4 rfl (fun h4 => ?_) (fun h4 => ?_)
        ·have q := si h4; subst q
         exact SC.region (sm rfl (s1 (bi rfl rfl q_i64_sub) (sa rfl (sa rfl (sa rfl (SO.nil (lf (wq rfl))))))))
        ·refine SC.seqP h4 (fun y => ⟨mk 95 [(0, .d (eS p0)), (3, .d (eI y549)), (4, .d (eI (v606.toNat : Int))), (40, .d (eB y))], []⟩) ?_ ?_
         ·intro u5_622 h5
          refine SC.region (sm rfl (s1 (bi rfl rfl q_i64_geq) (sm rfl (sp h5 (fun h5 => ?_) (fun h5 => ?_)))))
          ·have q := si h5; subst q
           exact gw rfl (mv rfl) (gw rfl (bi rfl rfl q_i64_lss) (s1 (pkt rfl rfl) (sa rfl (SO.nil ((wq rfl))))))
          ·have q := si h5; subst q
           exact kw rfl (kw rfl (s1 (pkf rfl rfl) (sa rfl (SO.nil ((wq rfl))))))
         ·rintro y621 h4
          refine cB h4 rfl (fun h4 => ?_) (fun h4 => ?_)
          ·have q := si h4; subst q
           exact SC.region (sm rfl (s1 (bi rfl rfl q_i64_sub) (sa rfl (sa rfl (sa rfl (SO.nil (lf (wq rfl))))))))
          ·have q := si h4; subst q; have q := si h3; subst q; have q : _ = _ := hv3; subst q; have q := si h1; subst q; have q := si h0; subst q
           exact sr (sa rfl (sn (SC.ret (finR (Wk.refl _) (lresT rfl lresN) rfl))))
   ·rintro ⟨y613, y614, y615⟩ h3
    refine sq (sr (sm rfl (sm rfl (s1 (bi rfl rfl q_i64_add) (sm rfl (s1 (len rfl rfl rfl (len_str un9)) (s1 (bi rfl rfl q_i64_gtr) (sn (cB h3 rfl (fun h3 => ?_) (fun h3 => ?_))))))))))
    ·have q := si h3; subst q; have q : _ = _ := hv3; subst q; have q := si h1; subst q; have q := si h0; subst q
     exact sr (sa rfl (sn (SC.ret (finR (Wk.refl _) (lresT rfl lresN) rfl))))
    ·refine sk (SC.seqB h3 (fun y => ⟨mk 95 [(0, .d (eS p0)), (3, .d (eI y549)), (5, .d (eI y613)), (6, .d (eI y614)), (7, .d (eI y))], []⟩) ?_ ?_)
     ·intro u4_640 h4 h3
      obtain ⟨u5_652, h5, h4⟩ := ob h4
      refine sr (sa rfl (sn (SC.blk (SC.loopB h5 (fun y => ⟨mk 95 [(0, .d (eS p0)), (3, .d (eI y549)), (5, .d (eI y613)), (6, .d (eI y614)), (7, .d (eI y.1)), (8, .d (eI y.2))], []⟩) (wq rfl) ?_))))
      intro n656
      rintro ⟨y644, y645⟩ w5_651 h6 hv6
      refine sq (sr (sm rfl (sm rfl (s1 (bi rfl rfl q_i64_lss) (sn (cB h6 rfl (fun h6 => ?_) (fun h6 => ?_)))))))
      ·obtain ⟨v653, hv653, h6⟩ := ob h6
       refine sk (sq (SC.blk (sr (sm rfl (sm rfl (sm rfl (s1 (bi rfl rfl q_i64_add) (s1 (ixs rfl rfl rfl rfl (ix_str un9 (getI_some hv653).1 (getI_some hv653).2)) (s1 (cvo rfl (cv_u8_i64 un5 un3 v653)) ?_)))))))))
       refine sa rfl (sn (sq (SC.seqP h6 (fun y => ⟨mk 95 [(0, .d (eS p0)), (3, .d (eI y549)), (5, .d (eI y613)), (6, .d (eI y614)), (7, .d (eI y644)), (8, .d (eI y645)), (9, .d (eI (v653.toNat : Int))), (71, .d (eB y))], []⟩) ?_ ?_)))
       ·intro u7_655 h7
        refine SC.region (sm rfl (s1 (bi rfl rfl q_i64_lss) (sm rfl (sp h7 (fun h7 => ?_) (fun h7 => ?_)))))
        ·have q := si h7; subst q
         exact kw rfl (kw rfl (s1 (pkt rfl rfl) (SO.nil ((wq rfl)))))
        ·have q := si h7; subst q
         exact gw rfl (mv rfl) (gw rfl (bi rfl rfl q_i64_geq) (s1 (pkf rfl rfl) (SO.nil ((wq rfl)))))
       ·rintro y654 h6
        refine cB h6 rfl (fun h6 => ?_) (fun h6 => ?_)
        ·have q := si h6; subst q; have q : _ = _ := hv6; subst q; have q := si h4; subst q; have q := si h3; subst q; have q : _ = _ := hv3; subst q; have q := si h1; subst q; have q := si h0; subst q
         exact sr (sa rfl (sn (SC.ret (finR (Wk.refl _) (lresT rfl lresN) rfl))))
        ·refine sk (SC.region (sm rfl (s1 (bi rfl rfl q_i64_mul) (sm rfl (s1 (bi rfl rfl q_i64_add) (s1 (bi rfl rfl q_i64_sub) (sa rfl (SO.nil ?_))))))))
         change SC _ _ _ _ _
         have q := si h6; subst q
         exact SC.region (sm rfl (s1 (bi rfl rfl q_i64_add) (sa rfl (SO.nil (lf (wq rfl))))))
      ·have q := si h6; subst q; have q : _ = _ := hv6; subst q; have q := si h4; subst q
       exact SC.exit (lf (wq rfl))
     ·rintro y639 h3
      refine sq (SC.seqP h3 (fun y => ⟨mk 95 [(0, .d (eS p0)), (3, .d (eI y549)), (5, .d (eI y613)), (91, .d (eB y))], []⟩) ?_ ?_)
      ·intro u4_658 h4
       refine SC.region (sm rfl (sm rfl (s1 (bi rfl rfl q_i64_lss) (sm rfl (sp h4 (fun h4 => ?_) (fun h4 => ?_))))))
       ·have q := si h4; subst q
        refine kw rfl (kw rfl (s1 (pkt rfl rfl) (sm rfl (kw rfl (kw rfl (kw rfl (kw rfl (kw rfl (kw rfl ?_)))))))))
        exact s1 (pkt rfl rfl) (SO.nil ((wq rfl)))
       ·refine gw rfl (mv rfl) (gw rfl (bi rfl rfl q_i64_gtr) (s1 (pkf rfl rfl) (sm rfl (sp h4 (fun h4 => ?_) (fun h4 => ?_)))))
        ·have q := si h4; subst q
         exact kw rfl (kw rfl (kw rfl (kw rfl (kw rfl (kw rfl (s1 (pkt rfl rfl) (SO.nil ((wq rfl)))))))))
        ·refine gw rfl (mv rfl) (gw rfl (bi rfl rfl q_i64_geq) (gw rfl (mv rfl) (sp h4 (fun h4 => ?_) (fun h4 => ?_))))
         ·have q := si h4; subst q
          exact gw rfl (mv rfl) (gw rfl (bi rfl rfl q_i64_lss) (gw rfl (pkt rfl rfl) (s1 (pkf rfl rfl) (SO.nil ((wq rfl))))))
         ·have q := si h4; subst q
          exact kw rfl (kw rfl (gw rfl (pkf rfl rfl) (s1 (pkf rfl rfl) (SO.nil ((wq rfl))))))
      ·rintro y657 h3
       refine cB h3 rfl (fun h3 => ?_) (fun h3 => ?_)
       ·have q := si h3; subst q; have q : _ = _ := hv3; subst q; have q := si h1; subst q; have q := si h0; subst q
        exact sr (sa rfl (sn (SC.ret (finR (Wk.refl _) (lresT rfl lresN) rfl))))
       ·have q := si h3; subst q
        exact sk (SC.region (sm rfl (sm rfl (s1 (bi rfl rfl q_i64_add) (sa rfl (SO.nil (lf (wq rfl))))))))
  ·have q := si h3; subst q; have q : _ = _ := hv3; subst q; have q := si h1; subst q
   exact SC.exit (lf (wq rfl))
 ·intro _ h0
  have q := si h0; subst q
  exact sr (sa rfl (sn (SC.ret (finR (Wk.refl _) (lresT rfl lresN) rfl))))
noncomputable def ref06_Valid (p0 : ApiValue) : Option Bool :=
 bif (p0.Kind == (0 : Int)) then
 Option.bind (α := Bool)
 (bif (p0.N == (0 : UInt64)) then
 some (p0.S == ([] : List UInt8))
 else
 some false)
 fun y16 =>
 some y16
 else
 Option.bind (α := Bool)
 (bif (p0.Kind == (1 : Int)) then
 some (p0.Kind == (1 : Int))
 else
 some (p0.Kind == (2 : Int)))
 fun y18 =>
 bif y18 then
 some (p0.S == ([] : List UInt8))
 else
 bif (p0.Kind == (3 : Int)) then
 Option.bind (α := Bool)
 (bif (decide (p0.N < (2 : UInt64))) then
 some (p0.S == ([] : List UInt8))
 else
 some false)
 fun y20 =>
 some y20
 else
 bif (p0.Kind == (4 : Int)) then
 Option.bind (α := Bool)
 (bif (p0.N == (0 : UInt64)) then
 some (decide ((p0.S.length : Int) ≤ (64 : Int)))
 else
 some false)
 fun y22 =>
 some y22
 else
 bif (p0.Kind == (5 : Int)) then
 Option.bind (α := Bool)
 (bif (p0.N == (0 : UInt64)) then
 bif (decide ((p0.S.length : Int) ≤ (64 : Int))) then
 Option.bind (ref06_utf8 p0.S) fun r28 =>
 some r28
 else
 some false
 else
 some false)
 fun y26 =>
 some y26
 else
 some false
theorem ref06_Valid_ok (p0 : ApiValue) (r : Bool) (h0 : ref06_Valid p0 = some r) : CallAt Tryz.prog 98 [.d (eApiValue p0)] [] (.d (eB r)) [] := by
 unfold ref06_Valid at h0
 refine fn0 [0] Tryz.func98 rfl rfl rfl rfl rfl ?_
 refine sr (s1 (bxo (k := 0) rfl rfl rfl) (sa rfl (sn (sq (sr (s1 (far (k := 0) rfl fo68_0 ts3 rfl) (s1 (lod rfl (ld_box ts3 ta3 rfl rfl)) (sn (SC.blk ?_)))))))))
 refine sr (s1 (bi rfl rfl q_i64_eql) (sa rfl (sn (cB h0 rfl (fun h0 => ?_) (fun h0 => ?_)))))
 ·refine SC.seqP h0 (fun y => ⟨mk 58 [(2, .d (eB y))], []⟩) ?_ ?_
  ·intro u1_17 h1
   refine SC.region (s1 (far (k := 1) rfl fo68_1 ts54 rfl) (s1 (lod rfl (ld_box ts54 ta54 rfl rfl)) (s1 (bi rfl rfl (q_u64_eql (b := (0 : UInt64)))) (sm rfl (sp h1 (fun h1 => ?_) (fun h1 => ?_))))))
   ·have q := si h1; subst q
    exact gw rfl (far (k := 2) rfl fo68_2 ts9 rfl) (gw rfl (lod rfl (ld_box ts9 ta9 rfl rfl)) (gw rfl (bi rfl rfl (q_str_eql (b := ([] : List UInt8)))) (s1 (pkt rfl rfl) (sa rfl (SO.nil ((wc [] [] (by kernel_rfl) rfl (by kernel_rfl))))))))
   ·have q := si h1; subst q
    exact kw rfl (kw rfl (kw rfl (s1 (pkf rfl rfl) (sa rfl (SO.nil ((wc [] [] (by kernel_rfl) rfl (by kernel_rfl))))))))
  ·rintro y16 h0
   have q := si h0; subst q
   exact SC.ret (finR (Wk.refl _) (lresT rfl lresN) rfl)
 ·refine SC.seqP h0 (fun y => ⟨mk 58 [(1, .ref 0 0 0), (4, .d (eI p0.Kind)), (15, .d (eB y))], [.box (.d (eApiValue p0))]⟩) ?_ ?_
  ·intro u1_19 h1
   refine sr (s1 (bi rfl rfl q_i64_eql) (sa rfl (sn (cB h1 rfl (fun h1 => ?_) (fun h1 => ?_)))))
   ·have q := si h1; subst q
    exact SC.skip ((wq rfl))
   ·have q := si h1; subst q
    exact SC.region (s1 (bi rfl rfl q_i64_eql) (sa rfl (SO.nil ((wq rfl)))))
  ·rintro y18 h0
   refine cB h0 rfl (fun h0 => ?_) (fun h0 => ?_)
   ·have q := si h0; subst q
    exact sr (s1 (far (k := 2) rfl fo68_2 ts9 rfl) (s1 (lod rfl (ld_box ts9 ta9 rfl rfl)) (s1 (bi rfl rfl (q_str_eql (b := ([] : List UInt8)))) (sa rfl (sn (SC.ret (finR (wc (e' := [(2, .d (eB (p0.S == ([] : List UInt8))))]) [] [] (by kernel_rfl) rfl (by kernel_rfl)) (lresT rfl lresN) rfl)))))))
   ·refine sr (s1 (bi rfl rfl q_i64_eql) (sa rfl (sn (cB h0 rfl (fun h0 => ?_) (fun h0 => ?_)))))
    ·refine SC.seqP h0 (fun y => ⟨mk 58 [(2, .d (eB y))], []⟩) ?_ ?_
     ·intro u1_21 h1
      refine SC.region (s1 (far (k := 1) rfl fo68_1 ts54 rfl) (s1 (lod rfl (ld_box ts54 ta54 rfl rfl)) (s1 (bi rfl rfl (q_u64_lss (b := (2 : UInt64)))) (sm rfl (sp h1 (fun h1 => ?_) (fun h1 => ?_))))))
      ·have q := si h1; subst q
       exact gw rfl (far (k := 2) rfl fo68_2 ts9 rfl) (gw rfl (lod rfl (ld_box ts9 ta9 rfl rfl)) (gw rfl (bi rfl rfl (q_str_eql (b := ([] : List UInt8)))) (s1 (pkt rfl rfl) (sa rfl (SO.nil ((wc [] [] (by kernel_rfl) rfl (by kernel_rfl))))))))
      ·have q := si h1; subst q
       exact kw rfl (kw rfl (kw rfl (s1 (pkf rfl rfl) (sa rfl (SO.nil ((wc [] [] (by kernel_rfl) rfl (by kernel_rfl))))))))
     ·rintro y20 h0
      have q := si h0; subst q
      exact SC.ret (finR (Wk.refl _) (lresT rfl lresN) rfl)
    ·refine sr (s1 (bi rfl rfl q_i64_eql) (sa rfl (sn (cB h0 rfl (fun h0 => ?_) (fun h0 => ?_)))))
     ·refine SC.seqP h0 (fun y => ⟨mk 58 [(2, .d (eB y))], []⟩) ?_ ?_
      ·intro u1_23 h1
       refine SC.region (s1 (far (k := 1) rfl fo68_1 ts54 rfl) (s1 (lod rfl (ld_box ts54 ta54 rfl rfl)) (s1 (bi rfl rfl (q_u64_eql (b := (0 : UInt64)))) (sm rfl (sp h1 (fun h1 => ?_) (fun h1 => ?_))))))
       ·have q := si h1; subst q
        exact gw rfl (far (k := 2) rfl fo68_2 ts9 rfl) (gw rfl (lod rfl (ld_box ts9 ta9 rfl rfl)) (gw rfl (len rfl rfl rfl (len_str un9)) (gw rfl (bi rfl rfl q_i64_leq) (s1 (pkt rfl rfl) (sa rfl (SO.nil ((wc [] [] (by kernel_rfl) rfl (by kernel_rfl)))))))))
       ·have q := si h1; subst q
        exact kw rfl (kw rfl (kw rfl (kw rfl (s1 (pkf rfl rfl) (sa rfl (SO.nil ((wc [] [] (by kernel_rfl) rfl (by kernel_rfl)))))))))
      ·rintro y22 h0
       have q := si h0; subst q
       exact SC.ret (finR (Wk.refl _) (lresT rfl lresN) rfl)
     ·refine sr (s1 (bi rfl rfl q_i64_eql) (sa rfl (sn (cB h0 rfl (fun h0 => ?_) (fun h0 => ?_)))))
      ·refine SC.seqP h0 (fun y => ⟨mk 58 [(2, .d (eB y))], []⟩) ?_ ?_
       ·intro u1_27 h1
        refine SC.region (s1 (far (k := 1) rfl fo68_1 ts54 rfl) (s1 (lod rfl (ld_box ts54 ta54 rfl rfl)) (s1 (bi rfl rfl (q_u64_eql (b := (0 : UInt64)))) (sm rfl (sp h1 (fun h1 => ?_) (fun h1 => ?_))))))
        ·refine gw rfl (far (k := 2) rfl fo68_2 ts9 rfl) (gw rfl (lod rfl (ld_box ts9 ta9 rfl rfl)) (gw rfl (len rfl rfl rfl (len_str un9)) (gw rfl (bi rfl rfl q_i64_leq) (s1 (pkt rfl rfl) (sm rfl (sp h1 (fun h1 => ?_) (fun h1 => ?_)))))))
         ·obtain ⟨r28, hq29, h1⟩ := ob h1; have q := si h1; subst q
          exact gw rfl (far (k := 2) rfl fo68_2 ts9 rfl) (gw rfl (lod rfl (ld_box ts9 ta9 rfl rfl)) (c0 (ref06_utf8_ok p0.S _ hq29) (ww rfl) rfl rfl rfl cb120 rfl (fun _ => rfl) (fun _ => rfl) (s1 (pkt rfl rfl) (sa rfl (SO.nil ((wc [] [] (by kernel_rfl) rfl (by kernel_rfl))))))))
         ·have q := si h1; subst q
          exact kw rfl (kw rfl (kw rfl (s1 (pkf rfl rfl) (sa rfl (SO.nil ((wc [] [] (by kernel_rfl) rfl (by kernel_rfl))))))))
        ·have q := si h1; subst q
         refine kw rfl (kw rfl (kw rfl (kw rfl (s1 (pkf rfl rfl) (sm rfl (kw rfl (kw rfl (kw rfl (s1 (pkf rfl rfl) ?_)))))))))
         exact sa rfl (SO.nil ((wc [] [] (by kernel_rfl) rfl (by kernel_rfl))))
       ·rintro y26 h0
        have q := si h0; subst q
        exact SC.ret (finR (Wk.refl _) (lresT rfl lresN) rfl)
      ·refine SC.skip ?_
       change SC _ _ _ _ _
       have q := si h0; subst q
       exact sr (sa rfl (sn (SC.ret (finR (wc (e' := [(2, .d (eB false))]) [] [] (by kernel_rfl) rfl (by kernel_rfl)) (lresT rfl lresN) rfl))))
noncomputable def ref06_Fits (p0 : ApiColumn) (p1 : ApiValue) : Option Int :=
 Option.bind (α := Bool)
 (Option.bind (ref06_Valid p1) fun r14 =>
 bif (!r14) then
 some true
 else
 bif (p1.Kind == (0 : Int)) then
 bif (!p0.Nulls) then
 some true
 else
 bif (p1.Kind != (0 : Int)) then
 some (p1.Kind != p0.Kind)
 else
 some false
 else
 bif (p1.Kind != (0 : Int)) then
 some (p1.Kind != p0.Kind)
 else
 some false)
 fun y12 =>
 bif y12 then
 some (8 : Int)
 else
 Option.bind (α := Bool)
 (bif (p1.Kind == (4 : Int)) then
 some (decide ((p1.S.length : Int) > p0.Max))
 else
 bif (p1.Kind == (5 : Int)) then
 some (decide ((p1.S.length : Int) > p0.Max))
 else
 some false)
 fun y16 =>
 bif y16 then
 some (7 : Int)
 else
 some (0 : Int)
theorem ref06_Fits_ok (p0 : ApiColumn) (p1 : ApiValue) (r : Int) (h0 : ref06_Fits p0 p1 = some r) : CallAt Tryz.prog 62 [.d (eApiColumn p0), .d (eApiValue p1)] [] (.d (eI r)) [] := by
 unfold ref06_Fits at h0
 refine fn0 [0, 1] Tryz.func62 rfl rfl rfl rfl rfl ?_
 refine sr (s1 (bxo (k := 0) rfl rfl rfl) (s1 (bxo (k := 1) rfl rfl rfl) (sa rfl (sn (sq (SC.seqP h0 (fun y => ⟨mk 46 [(2, .ref 0 0 0), (3, .ref 1 0 0), (29, .d (eB y))], [.box (.d (eApiColumn p0)), .box (.d (eApiValue p1))]⟩) ?_ ?_))))))
 ·intro u1_13 h1
  obtain ⟨r14, hq15, h1⟩ := ob h1
  refine SC.region (s1 (lod (v := .d (eApiValue p1)) rfl (ld_box ts68 ta68 rfl rfl)) (c0 (ref06_Valid_ok p1 _ hq15) wf rfl rfl rfl cb98 rfl (fun _ => rfl) (fun _ => rfl) (s1 (nt rfl) (sm rfl (sp h1 (fun h1 => ?_) (fun h1 => ?_))))))
  ·have q := si h1; subst q
   refine kw rfl (kw rfl (kw rfl (kw rfl (kw rfl (kw rfl (kw rfl (kw rfl (s1 (pkt rfl rfl) (sm rfl ?_)))))))))
   refine kw rfl (kw rfl (kw rfl (kw rfl (kw rfl (kw rfl (kw rfl (kw rfl (kw rfl (kw rfl ?_)))))))))
   exact s1 (pkt rfl rfl) (SO.nil ((wq rfl)))
  ·refine gw rfl (far (k := 0) rfl fo68_0 ts3 rfl) (gw rfl (lod rfl (ld_box ts3 ta3 rfl rfl)) (gw rfl (bi rfl rfl q_i64_eql) (gw rfl (mv rfl) (sp h1 (fun h1 => ?_) (fun h1 => ?_)))))
   ·refine gw rfl (far (k := 3) rfl fo77_3 ts4 rfl) (gw rfl (lod rfl (ld_box ts4 ta4 rfl rfl)) (gw rfl (nt rfl) (gw rfl (pkt rfl rfl) (s1 (pkf rfl rfl) (sm rfl (sp h1 (fun h1 => ?_) (fun h1 => ?_)))))))
    ·have q := si h1; subst q
     refine kw rfl (kw rfl (kw rfl (kw rfl (kw rfl (kw rfl (kw rfl (kw rfl (kw rfl (kw rfl ?_)))))))))
     exact s1 (pkt rfl rfl) (SO.nil ((wq rfl)))
    ·refine gw rfl (far (k := 0) rfl fo68_0 ts3 rfl) (gw rfl (lod rfl (ld_box ts3 ta3 rfl rfl)) (gw rfl (bi rfl rfl q_i64_neq) (gw rfl (mv rfl) (sp h1 (fun h1 => ?_) (fun h1 => ?_)))))
     ·have q := si h1; subst q
      exact gw rfl (far (k := 0) rfl fo68_0 ts3 rfl) (gw rfl (lod rfl (ld_box ts3 ta3 rfl rfl)) (gw rfl (far (k := 1) rfl fo77_1 ts3 rfl) (gw rfl (lod rfl (ld_box ts3 ta3 rfl rfl)) (gw rfl (bi rfl rfl q_i64_neq) (gw rfl (pkt rfl rfl) (s1 (pkf rfl rfl) (SO.nil ((wq rfl)))))))))
     ·have q := si h1; subst q
      exact kw rfl (kw rfl (kw rfl (kw rfl (kw rfl (gw rfl (pkf rfl rfl) (s1 (pkf rfl rfl) (SO.nil ((wq rfl)))))))))
   ·refine kw rfl (kw rfl (kw rfl (gw rfl (pkf rfl rfl) (s1 (pkf rfl rfl) (sm rfl (gw rfl (far (k := 0) rfl fo68_0 ts3 rfl) (gw rfl (lod rfl (ld_box ts3 ta3 rfl rfl)) (gw rfl (bi rfl rfl q_i64_neq) (gw rfl (mv rfl) ?_)))))))))
    refine sp h1 (fun h1 => ?_) (fun h1 => ?_)
    ·have q := si h1; subst q
     exact gw rfl (far (k := 0) rfl fo68_0 ts3 rfl) (gw rfl (lod rfl (ld_box ts3 ta3 rfl rfl)) (gw rfl (far (k := 1) rfl fo77_1 ts3 rfl) (gw rfl (lod rfl (ld_box ts3 ta3 rfl rfl)) (gw rfl (bi rfl rfl q_i64_neq) (gw rfl (pkt rfl rfl) (s1 (pkf rfl rfl) (SO.nil ((wq rfl)))))))))
    ·have q := si h1; subst q
     exact kw rfl (kw rfl (kw rfl (kw rfl (kw rfl (gw rfl (pkf rfl rfl) (s1 (pkf rfl rfl) (SO.nil ((wq rfl)))))))))
 ·rintro y12 h0
  refine cB h0 rfl (fun h0 => ?_) (fun h0 => ?_)
  ·have q := si h0; subst q
   exact sr (sa rfl (sn (SC.ret (finR (wc (e' := [(4, .d (eI (8 : Int)))]) [] [] (by kernel_rfl) rfl (by kernel_rfl)) (lresT rfl lresN) rfl))))
  ·refine sk (sq (SC.seqP h0 (fun y => ⟨mk 46 [(45, .d (eB y))], []⟩) ?_ ?_))
   ·intro u1_17 h1
    refine SC.region (s1 (far (k := 0) rfl fo68_0 ts3 rfl) (s1 (lod rfl (ld_box ts3 ta3 rfl rfl)) (s1 (bi rfl rfl q_i64_eql) (sm rfl (sp h1 (fun h1 => ?_) (fun h1 => ?_))))))
    ·have q := si h1; subst q
     refine kw rfl (kw rfl (kw rfl (s1 (pkt rfl rfl) (sm rfl (gw rfl (far (k := 2) rfl fo68_2 ts9 rfl) (gw rfl (lod rfl (ld_box ts9 ta9 rfl rfl)) (gw rfl (len rfl rfl rfl (len_str un9)) (gw rfl (far (k := 2) rfl fo77_2 ts3 rfl) (gw rfl (lod rfl (ld_box ts3 ta3 rfl rfl)) ?_)))))))))
     exact gw rfl (bi rfl rfl q_i64_gtr) (s1 (pkt rfl rfl) (SO.nil ((wc [] [] (by kernel_rfl) rfl (by kernel_rfl)))))
    ·refine gw rfl (far (k := 0) rfl fo68_0 ts3 rfl) (gw rfl (lod rfl (ld_box ts3 ta3 rfl rfl)) (gw rfl (bi rfl rfl q_i64_eql) (s1 (pkf rfl rfl) (sm rfl (sp h1 (fun h1 => ?_) (fun h1 => ?_))))))
     ·have q := si h1; subst q
      exact gw rfl (far (k := 2) rfl fo68_2 ts9 rfl) (gw rfl (lod rfl (ld_box ts9 ta9 rfl rfl)) (gw rfl (len rfl rfl rfl (len_str un9)) (gw rfl (far (k := 2) rfl fo77_2 ts3 rfl) (gw rfl (lod rfl (ld_box ts3 ta3 rfl rfl)) (gw rfl (bi rfl rfl q_i64_gtr) (s1 (pkt rfl rfl) (SO.nil ((wc [] [] (by kernel_rfl) rfl (by kernel_rfl))))))))))
     ·have q := si h1; subst q
      exact kw rfl (kw rfl (kw rfl (kw rfl (kw rfl (kw rfl (s1 (pkf rfl rfl) (SO.nil ((wc [] [] (by kernel_rfl) rfl (by kernel_rfl))))))))))
   ·rintro y16 h0
    refine cB h0 rfl (fun h0 => ?_) (fun h0 => ?_)
    ·have q := si h0; subst q
     exact sr (sa rfl (sn (SC.ret (finR (Wk.refl _) (lresT rfl lresN) rfl))))
    ·have q := si h0; subst q
     exact sk (sr (sa rfl (sn (SC.ret (finR (Wk.refl _) (lresT rfl lresN) rfl)))))
noncomputable def ref06_Column (p0 : ApiColumn) : Option Int :=
 Option.bind (ref06_Name p0.Name) fun r10 =>
 bif (!r10) then
 some (1 : Int)
 else
 Option.bind (α := Bool)
 (bif (decide (p0.Kind < (1 : Int))) then
 some true
 else
 some (decide (p0.Kind > (5 : Int))))
 fun y12 =>
 bif y12 then
 some (8 : Int)
 else
 Option.bind (α := Bool)
 (bif (decide (p0.Kind < (4 : Int))) then
 bif (p0.Max != (0 : Int)) then
 some true
 else
 bif (decide (p0.Kind > (3 : Int))) then
 bif (decide (p0.Max < (1 : Int))) then
 some true
 else
 some (decide (p0.Max > (64 : Int)))
 else
 some false
 else
 bif (decide (p0.Kind > (3 : Int))) then
 bif (decide (p0.Max < (1 : Int))) then
 some true
 else
 some (decide (p0.Max > (64 : Int)))
 else
 some false)
 fun y14 =>
 bif y14 then
 some (7 : Int)
 else
 Option.bind (ref06_Fits p0 p0.Default) fun r16 =>
 some r16
theorem ref06_Column_ok (p0 : ApiColumn) (r : Int) (h0 : ref06_Column p0 = some r) : CallAt Tryz.prog 23 [.d (eApiColumn p0)] [] (.d (eI r)) [] := by
 unfold ref06_Column at h0
 refine fn0 [0] Tryz.func23 rfl rfl rfl rfl rfl ?_
 obtain ⟨r10, hq11, h0⟩ := ob h0
 refine sr (s1 (bxo (k := 0) rfl rfl rfl) (sa rfl (sn (sq (sr (s1 (far (k := 0) rfl fo77_0 ts9 rfl) (s1 (lod rfl (ld_box ts9 ta9 rfl rfl)) (c0 (ref06_Name_ok p0.Name _ hq11) wf rfl rfl rfl cb22 rfl (fun _ => rfl) (fun _ => rfl) (s1 (nt rfl) ?_)))))))))
 refine sn (cB h0 rfl (fun h0 => ?_) (fun h0 => ?_))
 ·have q := si h0; subst q
  exact sr (sa rfl (sn (SC.ret (finR (wc (e' := [(2, .d (eI (1 : Int)))]) [] [] (by kernel_rfl) rfl (by kernel_rfl)) (lresT rfl lresN) rfl))))
 ·refine sk (sq (SC.seqP h0 (fun y => ⟨mk 42 [(1, .ref 0 0 0), (14, .d (eB y))], [.box (.d (eApiColumn p0))]⟩) ?_ ?_))
  ·intro u1_13 h1
   refine SC.region (s1 (far (k := 1) rfl fo77_1 ts3 rfl) (s1 (lod rfl (ld_box ts3 ta3 rfl rfl)) (s1 (bi rfl rfl q_i64_lss) (sm rfl (sp h1 (fun h1 => ?_) (fun h1 => ?_))))))
   ·have q := si h1; subst q
    exact kw rfl (kw rfl (kw rfl (s1 (pkt rfl rfl) (SO.nil ((wq rfl))))))
   ·have q := si h1; subst q
    exact gw rfl (far (k := 1) rfl fo77_1 ts3 rfl) (gw rfl (lod rfl (ld_box ts3 ta3 rfl rfl)) (gw rfl (bi rfl rfl q_i64_gtr) (s1 (pkf rfl rfl) (SO.nil ((wq rfl))))))
  ·rintro y12 h0
   refine cB h0 rfl (fun h0 => ?_) (fun h0 => ?_)
   ·have q := si h0; subst q
    exact sr (sa rfl (sn (SC.ret (finR (wc (e' := [(2, .d (eI (8 : Int)))]) [] [] (by kernel_rfl) rfl (by kernel_rfl)) (lresT rfl lresN) rfl))))
   ·refine sk (sq (SC.seqP h0 (fun y => ⟨mk 42 [(1, .ref 0 0 0), (37, .d (eB y))], [.box (.d (eApiColumn p0))]⟩) ?_ ?_))
    ·intro u1_15 h1
     refine SC.region (s1 (far (k := 1) rfl fo77_1 ts3 rfl) (s1 (lod rfl (ld_box ts3 ta3 rfl rfl)) (s1 (bi rfl rfl q_i64_lss) (sm rfl (sp h1 (fun h1 => ?_) (fun h1 => ?_))))))
     ·refine gw rfl (far (k := 2) rfl fo77_2 ts3 rfl) (gw rfl (lod rfl (ld_box ts3 ta3 rfl rfl)) (gw rfl (bi rfl rfl q_i64_neq) (s1 (pkt rfl rfl) (sm rfl (sp h1 (fun h1 => ?_) (fun h1 => ?_))))))
      ·have q := si h1; subst q
       refine kw rfl (kw rfl (kw rfl (kw rfl (kw rfl (kw rfl (kw rfl (kw rfl (kw rfl (kw rfl ?_)))))))))
       exact kw rfl (kw rfl (kw rfl (s1 (pkt rfl rfl) (SO.nil ((wq rfl))))))
      ·refine gw rfl (far (k := 1) rfl fo77_1 ts3 rfl) (gw rfl (lod rfl (ld_box ts3 ta3 rfl rfl)) (gw rfl (bi rfl rfl q_i64_gtr) (gw rfl (mv rfl) (sp h1 (fun h1 => ?_) (fun h1 => ?_)))))
       ·refine gw rfl (far (k := 2) rfl fo77_2 ts3 rfl) (gw rfl (lod rfl (ld_box ts3 ta3 rfl rfl)) (gw rfl (bi rfl rfl q_i64_lss) (gw rfl (mv rfl) (sp h1 (fun h1 => ?_) (fun h1 => ?_)))))
        ·have q := si h1; subst q
         exact kw rfl (kw rfl (kw rfl (gw rfl (pkt rfl rfl) (gw rfl (pkt rfl rfl) (s1 (pkf rfl rfl) (SO.nil ((wq rfl))))))))
        ·have q := si h1; subst q
         exact gw rfl (far (k := 2) rfl fo77_2 ts3 rfl) (gw rfl (lod rfl (ld_box ts3 ta3 rfl rfl)) (gw rfl (bi rfl rfl q_i64_gtr) (gw rfl (pkf rfl rfl) (gw rfl (pkt rfl rfl) (s1 (pkf rfl rfl) (SO.nil ((wq rfl))))))))
       ·have q := si h1; subst q
        refine kw rfl (kw rfl (kw rfl (kw rfl (kw rfl (kw rfl (kw rfl (kw rfl (gw rfl (pkf rfl rfl) (s1 (pkf rfl rfl) ?_)))))))))
        exact SO.nil ((wq rfl))
     ·refine kw rfl (kw rfl (kw rfl (s1 (pkf rfl rfl) (sm rfl (gw rfl (far (k := 1) rfl fo77_1 ts3 rfl) (gw rfl (lod rfl (ld_box ts3 ta3 rfl rfl)) (gw rfl (bi rfl rfl q_i64_gtr) (gw rfl (mv rfl) (sp h1 (fun h1 => ?_) (fun h1 => ?_))))))))))
      ·refine gw rfl (far (k := 2) rfl fo77_2 ts3 rfl) (gw rfl (lod rfl (ld_box ts3 ta3 rfl rfl)) (gw rfl (bi rfl rfl q_i64_lss) (gw rfl (mv rfl) (sp h1 (fun h1 => ?_) (fun h1 => ?_)))))
       ·have q := si h1; subst q
        exact kw rfl (kw rfl (kw rfl (gw rfl (pkt rfl rfl) (gw rfl (pkt rfl rfl) (s1 (pkf rfl rfl) (SO.nil ((wq rfl))))))))
       ·have q := si h1; subst q
        exact gw rfl (far (k := 2) rfl fo77_2 ts3 rfl) (gw rfl (lod rfl (ld_box ts3 ta3 rfl rfl)) (gw rfl (bi rfl rfl q_i64_gtr) (gw rfl (pkf rfl rfl) (gw rfl (pkt rfl rfl) (s1 (pkf rfl rfl) (SO.nil ((wq rfl))))))))
      ·have q := si h1; subst q
       refine kw rfl (kw rfl (kw rfl (kw rfl (kw rfl (kw rfl (kw rfl (kw rfl (gw rfl (pkf rfl rfl) (s1 (pkf rfl rfl) ?_)))))))))
       exact SO.nil ((wq rfl))
    ·rintro y14 h0
     refine cB h0 rfl (fun h0 => ?_) (fun h0 => ?_)
     ·have q := si h0; subst q
      exact sr (sa rfl (sn (SC.ret (finR (wc (e' := [(2, .d (eI (7 : Int)))]) [] [] (by kernel_rfl) rfl (by kernel_rfl)) (lresT rfl lresN) rfl))))
     ·obtain ⟨r16, hq17, h0⟩ := ob h0; have q := si h0; subst q
      exact sk (sr (s1 (lod (v := .d (eApiColumn p0)) rfl (ld_box ts77 ta77 rfl rfl)) (s1 (far (k := 4) rfl fo77_4 ts68 rfl) (s1 (lod (v := .d (eApiValue p0.Default)) rfl (ld_box ts68 ta68 rfl rfl)) (c0 (ref06_Fits_ok p0 p0.Default _ hq17) wf rfl rfl rfl cb62 rfl (fun _ => rfl) (fun _ => rfl) (sa rfl (sn (SC.ret (finR (wc (e' := [(2, .d (eI r16))]) [] [] (by kernel_rfl) rfl (by kernel_rfl)) (lresT rfl lresN) rfl)))))))))
noncomputable def ref17_Has (p0 : List Int) (p1 : Int) : Option Bool :=
 bindE (Y := Unit) (E := Bool)
 (Option.bind (α := Unit ⊕ Bool)
 (loop (Y := Int) (W := Unit ⊕ Bool) (fun y29 =>
 bif (decide (y29 < (p0.length : Int))) then
 Option.bind (getI p0 y29) fun v34 =>
 bif (v34 == p1) then
 some (Sum.inr (Sum.inr true))
 else
 some (Sum.inl (w64 (y29 + (1 : Int))))
 else
 some (Sum.inr (Sum.inl ()))) (0 : Int))
 (Sum.elim (fun e => some (Sum.inl e)) (fun e => some (Sum.inr e))))
 (fun _ =>
 some false)
 (fun e => some e)
theorem ref17_Has_ok (p0 : List Int) (p1 : Int) (r : Bool) (h0 : ref17_Has p0 p1 = some r) : CallAt Tryz.prog 52 [.d ((eL 1 eI) p0), .d (eI p1)] [] (.d (eB r)) [] := by
 unfold ref17_Has at h0
 refine fn0 [0, 1] Tryz.func52 rfl rfl rfl rfl rfl ?_
 refine sr (sa rfl (sn (SC.seqB h0 (fun y => ⟨mk 18 [], []⟩) ?_ ?_)))
 ·intro u1_27 h1 h0
  obtain ⟨u2_33, h2, h1⟩ := ob h1
  refine sr (sa rfl (sn (SC.blk (SC.loopB h2 (fun y => ⟨mk 18 [(0, .d ((eL 1 eI) p0)), (1, .d (eI p1)), (5, .d (eI y))], []⟩) (wq rfl) ?_))))
  intro n35
  rintro y29 w2_32 h3 hv3
  refine sq (sr (sm rfl (sm rfl (s1 (len rfl rfl rfl (len_lst un23)) (s1 (bi rfl rfl q_i64_lss) (sn (cB h3 rfl (fun h3 => ?_) (fun h3 => ?_))))))))
  ·obtain ⟨v34, hv34, h3⟩ := ob h3
   refine sk (sq (SC.blk (sr (sm rfl (sm rfl (s1 (ial rfl rfl un23 ts3 (getI_some hv34).1 (map_get (getI_some hv34).2) rfl) (s1 (lod rfl (ld_rop ts3 ta3 rfl)) (sm rfl (s1 (bi rfl rfl q_i64_eql) ?_)))))))))
   refine sn (cB h3 rfl (fun h3 => ?_) (fun h3 => ?_))
   ·have q := si h3; subst q; have q : _ = _ := hv3; subst q; have q := si h1; subst q; have q := si h0; subst q
    exact sr (sa rfl (sn (SC.ret (finR (Wk.refl _) (lresT rfl lresN) rfl))))
   ·refine SC.skip ?_
    change SC _ _ _ _ _
    have q := si h3; subst q
    exact SC.region (sm rfl (s1 (bi rfl rfl q_i64_add) (sa rfl (SO.nil (lf (wq rfl))))))
  ·have q := si h3; subst q; have q : _ = _ := hv3; subst q; have q := si h1; subst q
   exact SC.exit (lf (wq rfl))
 ·intro _ h0
  have q := si h0; subst q
  exact sr (sa rfl (sn (SC.ret (finR (Wk.refl _) (lresT rfl lresN) rfl))))
noncomputable def ref17_places (p0 : Int) (p1 : List Int) : Option Bool :=
 bindE (Y := Unit) (E := Bool)
 (Option.bind (α := Unit ⊕ Bool)
 (loop (Y := Int) (W := Unit ⊕ Bool) (fun y159 =>
 bif (decide (y159 < (p1.length : Int))) then
 Option.bind (α := Bool)
 (Option.bind (getI p1 y159) fun v185 =>
 bif (decide (v185 < (0 : Int))) then
 some true
 else
 Option.bind (getI p1 y159) fun v186 =>
 bif (decide (v186 ≥ p0)) then
 some true
 else
 bif decide (0 ≤ y159 ∧ y159 ≤ (p1.length : Int)) then
 Option.bind (getI p1 y159) fun v188 =>
 Option.bind (ref17_Has (List.take y159.toNat p1) v188) fun r189 =>
 some r189
 else none)
 fun y183 =>
 bif y183 then
 some (Sum.inr (Sum.inr false))
 else
 some (Sum.inl (w64 (y159 + (1 : Int))))
 else
 some (Sum.inr (Sum.inl ()))) (0 : Int))
 (Sum.elim (fun e => some (Sum.inl e)) (fun e => some (Sum.inr e))))
 (fun _ =>
 some true)
 (fun e => some e)
theorem ref17_places_ok (p0 : Int) (p1 : List Int) (r : Bool) (h0 : ref17_places p0 p1 = some r) : CallAt Tryz.prog 24 [.d (eI p0), .d ((eL 1 eI) p1)] [] (.d (eB r)) [] := by
 unfold ref17_places at h0
 refine fn0 [0, 1] Tryz.func24 rfl rfl rfl rfl rfl ?_
 refine sr (sa rfl (sn (SC.seqB h0 (fun y => ⟨mk 35 [], []⟩) ?_ ?_)))
 ·intro u1_144 h1 h0
  obtain ⟨u2_176, h2, h1⟩ := ob h1
  refine sr (sa rfl (sn (SC.blk (SC.loopB h2 (fun y => ⟨mk 35 [(0, .d (eI p0)), (1, .d ((eL 1 eI) p1)), (5, .d (eI y))], []⟩) (wq rfl) ?_))))
  intro n191
  rintro y159 w2_175 h3 hv3
  refine sq (sr (sm rfl (sm rfl (s1 (len rfl rfl rfl (len_lst un23)) (s1 (bi rfl rfl q_i64_lss) (sn (cB h3 rfl (fun h3 => ?_) (fun h3 => ?_))))))))
  ·refine sk (sq (SC.blk (SC.seqP h3 (fun y => ⟨mk 35 [(0, .d (eI p0)), (1, .d ((eL 1 eI) p1)), (5, .d (eI y159)), (34, .d (eB y))], []⟩) ?_ ?_)))
   ·intro u4_184 h4
    obtain ⟨v185, hv185, h4⟩ := ob h4
    refine SC.draws (by kernel_rfl) (t1 ([], false) (mv rfl) rfl (t1 ([], false) (mv rfl) rfl (t1 ([], false) (ial rfl rfl un23 ts3 (getI_some hv185).1 (map_get (getI_some hv185).2) rfl) rfl (t1 ([], false) (lod rfl (ld_rop ts3 ta3 rfl)) rfl (t1 ([], false) (bi rfl rfl q_i64_lss) rfl (t1 ([], false) (mv rfl) rfl (tp h4 (fun h4 => ?_) (fun h4 => ?_))))))))
    ·have q := si h4; subst q
     refine jw rfl (jw rfl (jw rfl (jw rfl (jw rfl (jw rfl (t1 ([], false) (pkt rfl rfl) rfl (t1 ([], false) (mv rfl) rfl (jw rfl (jw rfl ?_)))))))))
     refine jw rfl (jw rfl (jw rfl (jw rfl (jw rfl (jw rfl (t1 ([], false) (pkt rfl rfl) rfl (ST.nil (And.intro (by decide +kernel) ?_))))))))
     exact (wq rfl)
    ·obtain ⟨v186, hv186, h4⟩ := ob h4
     refine u1 ([], false) (ww rfl) (mv rfl) rfl (u1 ([], false) (ww rfl) (mv rfl) rfl (u1 ([], false) (ww rfl) (ial rfl rfl un23 ts3 (getI_some hv186).1 (map_get (getI_some hv186).2) rfl) rfl (u1 ([], false) (ww rfl) (lod rfl (ld_rop ts3 ta3 rfl)) rfl (u1 ([], false) (ww rfl) (mv rfl) rfl (u1 ([], false) (ww rfl) (bi rfl rfl q_i64_geq) rfl (t1 ([], false) (pkf rfl rfl) rfl (t1 ([], false) (mv rfl) rfl (tp h4 (fun h4 => ?_) (fun h4 => ?_)))))))))
     ·have q := si h4; subst q
      refine jw rfl (jw rfl (jw rfl (jw rfl (jw rfl (jw rfl (jw rfl (jw rfl (t1 ([], false) (pkt rfl rfl) rfl (ST.nil (And.intro (by decide +kernel) ?_))))))))))
      exact (wq rfl)
     ·obtain ⟨hg187, h4⟩ := gd h4; obtain ⟨v188, hv188, h4⟩ := ob h4; obtain ⟨r189, hq190, h4⟩ := ob h4; have q := si h4; subst q
      refine u1 ([], false) (ww rfl) (mv rfl) rfl (u1 ([], false) (ww rfl) (mv rfl) rfl (u1 ([], false) (ww rfl) (slo rfl rfl rfl rfl (sl_lst_hi un23 ts3 hg187)) rfl (u1 ([], false) (ww rfl) (mv rfl) rfl (u1 ([], false) (ww rfl) (mv rfl) rfl (u1 ([], false) (ww rfl) (ial rfl rfl un23 ts3 (getI_some hv188).1 (map_get (getI_some hv188).2) rfl) rfl (u1 ([], false) (ww rfl) (lod rfl (ld_rop ts3 ta3 rfl)) rfl (tc0 (ref17_Has_ok (List.take y159.toNat p1) v188 _ hq190) (ww rfl) rfl rfl rfl cb52 rfl (fun _ => rfl) (fun _ => rfl) (t1 ([], false) (pkf rfl rfl) rfl (ST.nil (And.intro (by decide +kernel) ?_))))))))))
      exact (wq rfl)
   ·rintro y183 h3
    refine cB h3 rfl (fun h3 => ?_) (fun h3 => ?_)
    ·have q := si h3; subst q; have q : _ = _ := hv3; subst q; have q := si h1; subst q; have q := si h0; subst q
     exact sr (sa rfl (sn (SC.ret (finR (Wk.refl _) (lresT rfl lresN) rfl))))
    ·refine SC.skip ?_
     change SC _ _ _ _ _
     have q := si h3; subst q
     exact SC.region (sm rfl (s1 (bi rfl rfl q_i64_add) (sa rfl (SO.nil (lf (wq rfl))))))
  ·have q := si h3; subst q; have q : _ = _ := hv3; subst q; have q := si h1; subst q
   exact SC.exit (lf (wq rfl))
 ·intro _ h0
  have q := si h0; subst q
  exact sr (sa rfl (sn (SC.ret (finR (Wk.refl _) (lresT rfl lresN) rfl))))
end Lv
