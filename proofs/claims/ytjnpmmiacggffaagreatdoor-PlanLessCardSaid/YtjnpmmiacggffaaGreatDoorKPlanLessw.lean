/- The law PlanLess of the seat: for every arguments it returns true, and memory reads as it did. No condition of its own. -/
import Derived.Test.YtjnpmmiacggffaaGreatDoorKF
import Derived.Test.YtjnpmmiacggffaaGreatDoorKPlanLessr
namespace Go.Proofs.YtjnpmmiacggffaaGreatDoor
open Go.ChangeShapes Go.WideShapes Go.ChangeAt Go.RowKit
set_option linter.unusedVariables false
set_option linter.unusedSimpArgs false
set_option maxRecDepth 100000
theorem planLess_calls (W : World) (a0 : Lv.ApiTable) (a1 : Lv.PlanQuery) (k0 : (Lv.okApiTable 140737488351232 a0)) (k1 : (Lv.okPlanQuery 140737488351232 a1)) (cargs : Array Value)
  (hT : Go.Lib.Utf8Tabs (Tryz.laysValid_ren.g 3) (Tryz.laysValid_ren.g 4) W) (hm : ∃ m, W.cell? ⟨2, 0, none⟩ = some (.int .i64 m))
  (hv : Lv.VRs (fun a => W.cell? a) (fun _ => none) [.d (Lv.eApiTable a0), .d (Lv.ePlanQuery a1)] cargs) :
  Calls Tryz.prog 5 cargs W fun e W' => e = .returned (.bool true) ∧ Below W.heap.size W W' :=
 @Lv.calls_of_callAt (mkTab W) Tryz.prog 5 _ _ _ _ (@Lv.law21_PlanLess_ok (mkTab W) (tabOk hT hm) a0 a1 true (@Lv.PlanLess_true (mkTab W) a0 a1 (Lv.okT_ofB (by decide) k0) (Lv.okQ21 (by decide) k1) k1.2.2.1.1)) rfl W (fun _ _ h => h) hv
theorem planLess_reads (os : Os) {H : Type} (enc : TypeId × Value → H) : ∃ places, DataW.whole enc Tryz.prog ((World.laidAll Tryz.prog os Rows.planLessRow.laid).forCall (fun _ _ => 0) ⟨#[], #[.agg #[.string ⟨#[]⟩, .slice none 0 0, .slice none 0 0, .slice none 0 0, .int .i64 0], .agg #[.slice none 0 0, .slice none 0 0, .slice none 0 0, .int .i64 0]], []⟩).memory Tryz.f5.params.toList Rows.planLessSpec.vars false #[Value.agg #[.string ⟨#[]⟩, .slice none 0 0, .slice none 0 0, .slice none 0 0, .int .i64 0], .agg #[.slice none 0 0, .slice none 0 0, .slice none 0 0, .int .i64 0]].toList 8 = some ([.agg [.lit (.string []), .nil, .nil, .nil, .lit (.int .i64 0)], .agg [.nil, .nil, .nil, .lit (.int .i64 0)]], [], places) :=
 ⟨[], by kernel_rfl⟩
theorem planLess_lifted (os : Os) (started : os.Started) (H : Type) (enc : TypeId × Value → H) (F : Stop.Interp) :
  ReturnsInHanded {} Tryz.checked os 5 .any ((OpenSpec.ofChange Rows.planLessSpec).preRow enc Tryz.prog Tryz.f5 Rows.planLessRow.domain false Rows.planLessRow.laid) (((OpenSpec.ofChange Rows.planLessSpec).at F).post enc Tryz.prog Tryz.f5 false true false false) := by
 obtain ⟨places, hx⟩ := planLess_reads os enc
 refine returnsInHanded_of_row (C := Tryz.checked) (s := OpenSpec.ofChange Rows.planLessSpec) own started (by kernel_rfl) Tryz.func5
  (witness_row_at (enc := enc) (C := Tryz.checked) false (World.laidAll Tryz.prog os Rows.planLessRow.laid) #[.agg #[.string ⟨#[]⟩, .slice none 0 0, .slice none 0 0, .slice none 0 0, .int .i64 0], .agg #[.slice none 0 0, .slice none 0 0, .slice none 0 0, .int .i64 0]] (World.laidAll_os _ _ _) (by kernel_rfl) (by kernel_rfl) (by kernel_rfl)
   (OpenSpec.preRow_of_cond 8 hx (by kernel_rfl) (fun k hk => by cases hk) (by kernel_rfl) (by rw [MakeChecks.laidMetH_plain _ _ _ (by kernel_rfl)]; exact laidMet_laidAll _ (by kernel_rfl) (by kernel_rfl)))) ?_
 intro W base args ds gs before hval0 hW _ hcond hsz0 hL hsh _
 have hval : ∀ (j : Nat) t v, Tryz.f5.params[j]? = some t → args[j]? = some v → Value.okWide Tryz.prog W .any base t v := hval0
 have hsz : (DataW.weightsEach Tryz.prog (Tryz.f5.params.toList ++ Rows.planLessSpec.plain.varTypes Tryz.prog) (ds ++ gs)).all (· ≤ reachBytes) = true := hsz0
 have hW' := hW
 obtain ⟨p, q, hA0, hV, rfl, hfz, hnd⟩ := hW
 have hA : DataW.TrodAll enc Tryz.prog W 0 (fun _ => true) true Tryz.f5.params.toList args.toList ds p := hA0
 rw [Tryz.params5] at hA hval hsz
 obtain ⟨v0, vs0, d0, ds0, p0, q0, hargs, rfl, rfl, h0, r0⟩ := trodAll_cons hA
 obtain ⟨v1, vs1, d1, ds1, p1, q1, rfl, rfl, rfl, h1, r1⟩ := trodAll_cons r0
 obtain ⟨rfl, rfl, rfl⟩ := trodAll_nil r1
 obtain rfl : args = #[v0, v1] := by cases args; simp_all
 obtain ⟨rfl, rfl⟩ := trodVars_none hV
 have lt0 : ∀ x ∈ p0, x.block < W.heap.size := by obtain ⟨m, hm⟩ := h0; exact DataW.trod_lt m _ _ _ hm
 have lt1 : ∀ x ∈ p1, x.block < W.heap.size := by obtain ⟨m, hm⟩ := h1; exact DataW.trod_lt m _ _ _ hm
 obtain ⟨a0, V0, k0⟩ := Lv.sdArg laws sd26 h0 (.inl fun a => ⟨rfl, by obtain ⟨cs, e, _⟩ := okWide_struct u26 (hval 0 26 v0 rfl rfl); exact ⟨cs, e⟩⟩) (good_of hsz (j := 0) (t := 26) rfl rfl)
 obtain ⟨a1, V1, k1⟩ := Lv.sdArg laws sd30 h1 (.inl fun a => ⟨rfl, by obtain ⟨cs, e, _⟩ := okWide_struct u30 (hval 1 30 v1 rfl rfl); exact ⟨cs, e⟩⟩) (good_of hsz (j := 1) (t := 30) rfl rfl)
 clear hA0 hval0 hsz0
 have hT := tabs_of hL (.tail _ (first_eq ▸ .head _)) (accept_eq ▸ .head _) (by kernel_rfl)
 refine (planLess_calls W a0 a1 k0 k1 _ hT (maxLen_of hsh) (Lv.vrs_cons V0 (Lv.vrs_cons V1 Lv.vrs_nil))).mono fun e W' ⟨he, bel⟩ => ?_
 subst he
 exact ⟨_, rfl, _, _, _, [], _, [], hW', trodAll_mk1 (shut_bool u4 _), (trodAll_cons_mk (Below.trod laidOut (by kernel_rfl) (of_decide_eq_true (by kernel_rfl)) h0 bel lt0) (trodAll_cons_mk (Below.trod laidOut (by kernel_rfl) (of_decide_eq_true (by kernel_rfl)) h1 bel lt1) trodAll_mk0)), rfl, bel.frame _, fun h => by cases h⟩
theorem planLess_said : Rows.PlanLessSaid :=
 OpenClaim.holds_of_cond 5 Tryz.f5 rfl rfl rfl rfl rfl rfl rfl ⟨rfl, rfl, rfl, rfl, rfl⟩ rfl rfl rfl rfl rfl (by kernel_rfl) Tryz.func5 (by kernel_rfl)
  (of_decide_eq_true (by kernel_rfl)) (by unfold Func.isWrapper; first | (rw [if_pos (by decide +kernel)]; kernel_rfl) | (rw [if_neg (by decide +kernel)]; exact ⟨rfl, rfl⟩))
  (fun os started H enc _ F => by rw [OpenClaim.pre_eq_preRow]; exact planLess_lifted os started H enc F)
theorem planLess_card : Rows.PlanLessCardSaid :=
 Claim7.holds_tied_plain_at .later [] _ _ _ _ planLess_said (fun _ h => by cases h) (by kernel_rfl) (fun _ h => by cases h) planLess_row_tie rfl ⟨rfl, rfl⟩ (by kernel_rfl) rfl
  (fun f fn hf hfn => by
   obtain rfl : f = 5 := Option.some.inj ((show Tryz.prog.funcNamed "granary/granarylaw21.PlanLess" = some 5 by kernel_rfl).symm.trans hf) |>.symm
   obtain rfl : fn = Tryz.f5 := (Option.some.inj (Tryz.func5.symm.trans hfn)).symm
   exact ⟨by kernel_rfl, fun j t ht => by
    rw [Tryz.params5] at ht
    have hm : t ∈ [26, 30] := by simpa using Array.mem_of_getElem? ht
    have hall : ([26, 30].all fun u => !Tryz.prog.wantsStandIn u) = true := by kernel_rfl
    exact (show Tryz.prog.wantsStandIn t = false by simpa using List.all_eq_true.1 hall t hm)⟩)
  (by kernel_rfl)
#print axioms planLess_said
#print axioms planLess_card
end Go.Proofs.YtjnpmmiacggffaaGreatDoor
