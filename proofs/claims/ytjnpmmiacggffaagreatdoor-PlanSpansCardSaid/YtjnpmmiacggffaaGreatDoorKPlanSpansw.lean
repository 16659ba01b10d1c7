/- The law PlanSpans of the seat: for every arguments it returns true, and memory reads as it did. No condition of its own. -/
import Derived.Test.YtjnpmmiacggffaaGreatDoorKF
import Derived.Test.YtjnpmmiacggffaaGreatDoorKPlanSpansr
namespace Go.Proofs.YtjnpmmiacggffaaGreatDoor
open Go.ChangeShapes Go.WideShapes Go.ChangeAt Go.RowKit
set_option linter.unusedVariables false
set_option linter.unusedSimpArgs false
set_option maxRecDepth 100000
theorem planSpans_calls (W : World) (a0 : Lv.ApiTable) (a1 : Lv.PlanQuery) (a2 : List Lv.ApiValue) (k0 : (Lv.okApiTable 140737488351232 a0)) (k1 : (Lv.okPlanQuery 140737488351232 a1)) (k2 : (a2.length * 32 ≤ 140737488351232 ∧ ∀ y ∈ a2, (Lv.okApiValue 140737488351232 y))) (cargs : Array Value)
  (hT : Go.Lib.Utf8Tabs (Tryz.laysValid_ren.g 3) (Tryz.laysValid_ren.g 4) W) (hm : ∃ m, W.cell? ⟨2, 0, none⟩ = some (.int .i64 m))
  (hv : Lv.VRs (fun a => W.cell? a) (fun _ => none) [.d (Lv.eApiTable a0), .d (Lv.ePlanQuery a1), .d ((Lv.eL 3 Lv.eApiValue) a2)] cargs) :
  Calls Tryz.prog 6 cargs W fun e W' => e = .returned (.bool true) ∧ Below W.heap.size W W' :=
 @Lv.calls_of_callAt (mkTab W) Tryz.prog 6 _ _ _ _ (@Lv.law21_PlanSpans_ok (mkTab W) (tabOk hT hm) a0 a1 a2 true (@Lv.PlanSpans_true (mkTab W) a0 a1 a2 (Lv.okT_ofB (by decide) k0) (Lv.okQ21 (by decide) k1) k1.2.2.1.1 (Lv.okVs21 (by decide) (by decide) k2))) rfl W (fun _ _ h => h) hv
theorem planSpans_reads (os : Os) {H : Type} (enc : TypeId × Value → H) : ∃ places, DataW.whole enc Tryz.prog ((World.laidAll Tryz.prog os Rows.planSpansRow.laid).forCall (fun _ _ => 0) ⟨#[], #[.agg #[.string ⟨#[]⟩, .slice none 0 0, .slice none 0 0, .slice none 0 0, .int .i64 0], .agg #[.slice none 0 0, .slice none 0 0, .slice none 0 0, .int .i64 0], .slice none 0 0], []⟩).memory Tryz.f6.params.toList Rows.planSpansSpec.vars false #[Value.agg #[.string ⟨#[]⟩, .slice none 0 0, .slice none 0 0, .slice none 0 0, .int .i64 0], .agg #[.slice none 0 0, .slice none 0 0, .slice none 0 0, .int .i64 0], .slice none 0 0].toList 8 = some ([.agg [.lit (.string []), .nil, .nil, .nil, .lit (.int .i64 0)], .agg [.nil, .nil, .nil, .lit (.int .i64 0)], .nil], [], places) :=
 ⟨[], by kernel_rfl⟩
theorem planSpans_lifted (os : Os) (started : os.Started) (H : Type) (enc : TypeId × Value → H) (F : Stop.Interp) :
  ReturnsInHanded {} Tryz.checked os 6 .any ((OpenSpec.ofChange Rows.planSpansSpec).preRow enc Tryz.prog Tryz.f6 Rows.planSpansRow.domain false Rows.planSpansRow.laid) (((OpenSpec.ofChange Rows.planSpansSpec).at F).post enc Tryz.prog Tryz.f6 false true false false) := by
 obtain ⟨places, hx⟩ := planSpans_reads os enc
 refine returnsInHanded_of_row (C := Tryz.checked) (s := OpenSpec.ofChange Rows.planSpansSpec) own started (by kernel_rfl) Tryz.func6
  (witness_row_at (enc := enc) (C := Tryz.checked) false (World.laidAll Tryz.prog os Rows.planSpansRow.laid) #[.agg #[.string ⟨#[]⟩, .slice none 0 0, .slice none 0 0, .slice none 0 0, .int .i64 0], .agg #[.slice none 0 0, .slice none 0 0, .slice none 0 0, .int .i64 0], .slice none 0 0] (World.laidAll_os _ _ _) (by kernel_rfl) (by kernel_rfl) (by kernel_rfl)
   (OpenSpec.preRow_of_cond 8 hx (by kernel_rfl) (fun k hk => by cases hk) (by kernel_rfl) (by rw [MakeChecks.laidMetH_plain _ _ _ (by kernel_rfl)]; exact laidMet_laidAll _ (by kernel_rfl) (by kernel_rfl)))) ?_
 intro W base args ds gs before hval0 hW _ hcond hsz0 hL hsh _
 have hval : ∀ (j : Nat) t v, Tryz.f6.params[j]? = some t → args[j]? = some v → Value.okWide Tryz.prog W .any base t v := hval0
 have hsz : (DataW.weightsEach Tryz.prog (Tryz.f6.params.toList ++ Rows.planSpansSpec.plain.varTypes Tryz.prog) (ds ++ gs)).all (· ≤ reachBytes) = true := hsz0
 have hW' := hW
 obtain ⟨p, q, hA0, hV, rfl, hfz, hnd⟩ := hW
 have hA : DataW.TrodAll enc Tryz.prog W 0 (fun _ => true) true Tryz.f6.params.toList args.toList ds p := hA0
 rw [Tryz.params6] at hA hval hsz
 obtain ⟨v0, vs0, d0, ds0, p0, q0, hargs, rfl, rfl, h0, r0⟩ := trodAll_cons hA
 obtain ⟨v1, vs1, d1, ds1, p1, q1, rfl, rfl, rfl, h1, r1⟩ := trodAll_cons r0
 obtain ⟨v2, vs2, d2, ds2, p2, q2, rfl, rfl, rfl, h2, r2⟩ := trodAll_cons r1
 obtain ⟨rfl, rfl, rfl⟩ := trodAll_nil r2
 obtain rfl : args = #[v0, v1, v2] := by cases args; simp_all
 obtain ⟨rfl, rfl⟩ := trodVars_none hV
 have lt0 : ∀ x ∈ p0, x.block < W.heap.size := by obtain ⟨m, hm⟩ := h0; exact DataW.trod_lt m _ _ _ hm
 have lt1 : ∀ x ∈ p1, x.block < W.heap.size := by obtain ⟨m, hm⟩ := h1; exact DataW.trod_lt m _ _ _ hm
 have lt2 : ∀ x ∈ p2, x.block < W.heap.size := by obtain ⟨m, hm⟩ := h2; exact DataW.trod_lt m _ _ _ hm
 obtain ⟨a0, V0, k0⟩ := Lv.sdArg laws sd26 h0 (.inl fun a => ⟨rfl, by obtain ⟨cs, e, _⟩ := okWide_struct u26 (hval 0 26 v0 rfl rfl); exact ⟨cs, e⟩⟩) (good_of hsz (j := 0) (t := 26) rfl rfl)
 obtain ⟨a1, V1, k1⟩ := Lv.sdArg laws sd30 h1 (.inl fun a => ⟨rfl, by obtain ⟨cs, e, _⟩ := okWide_struct u30 (hval 1 30 v1 rfl rfl); exact ⟨cs, e⟩⟩) (good_of hsz (j := 1) (t := 30) rfl rfl)
 obtain ⟨a2, V2, k2⟩ := Lv.sdArg laws sd61 h2 (.inr fun a => ⟨rfl, fun cs e => by obtain ⟨x, y, z, e'⟩ := okWide_slice u61 (hval 2 61 v2 rfl rfl); rw [e'] at e; cases e⟩) (good_of hsz (j := 2) (t := 61) rfl rfl)
 clear hA0 hval0 hsz0
 have hT := tabs_of hL (.tail _ (first_eq ▸ .head _)) (accept_eq ▸ .head _) (by kernel_rfl)
 refine (planSpans_calls W a0 a1 a2 k0 k1 k2 _ hT (maxLen_of hsh) (Lv.vrs_cons V0 (Lv.vrs_cons V1 (Lv.vrs_cons V2 Lv.vrs_nil)))).mono fun e W' ⟨he, bel⟩ => ?_
 subst he
 exact ⟨_, rfl, _, _, _, [], _, [], hW', trodAll_mk1 (shut_bool u4 _), (trodAll_cons_mk (Below.trod laidOut (by kernel_rfl) (of_decide_eq_true (by kernel_rfl)) h0 bel lt0) (trodAll_cons_mk (Below.trod laidOut (by kernel_rfl) (of_decide_eq_true (by kernel_rfl)) h1 bel lt1) (trodAll_cons_mk (Below.trod laidOut (by kernel_rfl) (of_decide_eq_true (by kernel_rfl)) h2 bel lt2) trodAll_mk0))), rfl, bel.frame _, fun h => by cases h⟩
theorem planSpans_said : Rows.PlanSpansSaid :=
 OpenClaim.holds_of_cond 6 Tryz.f6 rfl rfl rfl rfl rfl rfl rfl ⟨rfl, rfl, rfl, rfl, rfl⟩ rfl rfl rfl rfl rfl (by kernel_rfl) Tryz.func6 (by kernel_rfl)
  (of_decide_eq_true (by kernel_rfl)) (by unfold Func.isWrapper; first | (rw [if_pos (by decide +kernel)]; kernel_rfl) | (rw [if_neg (by decide +kernel)]; exact ⟨rfl, rfl⟩))
  (fun os started H enc _ F => by rw [OpenClaim.pre_eq_preRow]; exact planSpans_lifted os started H enc F)
theorem planSpans_card : Rows.PlanSpansCardSaid :=
 Claim7.holds_tied_plain_at .later [] _ _ _ _ planSpans_said (fun _ h => by cases h) (by kernel_rfl) (fun _ h => by cases h) planSpans_row_tie rfl ⟨rfl, rfl⟩ (by kernel_rfl) rfl
  (fun f fn hf hfn => by
   obtain rfl : f = 6 := Option.some.inj ((show Tryz.prog.funcNamed "granary/granarylaw21.PlanSpans" = some 6 by kernel_rfl).symm.trans hf) |>.symm
   obtain rfl : fn = Tryz.f6 := (Option.some.inj (Tryz.func6.symm.trans hfn)).symm
   exact ⟨by kernel_rfl, fun j t ht => by
    rw [Tryz.params6] at ht
    have hm : t ∈ [26, 30, 61] := by simpa using Array.mem_of_getElem? ht
    have hall : ([26, 30, 61].all fun u => !Tryz.prog.wantsStandIn u) = true := by kernel_rfl
    exact (show Tryz.prog.wantsStandIn t = false by simpa using List.all_eq_true.1 hall t hm)⟩)
  (by kernel_rfl)
#print axioms planSpans_said
#print axioms planSpans_card
end Go.Proofs.YtjnpmmiacggffaaGreatDoor
