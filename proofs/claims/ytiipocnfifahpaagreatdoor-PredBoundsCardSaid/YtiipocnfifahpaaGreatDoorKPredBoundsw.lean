/- The law PredBounds of the seat: for every arguments it returns true, and memory reads as it did. No condition of its own. -/
import Derived.Test.YtiipocnfifahpaaGreatDoorKF
import Derived.Test.YtiipocnfifahpaaGreatDoorKPredBoundsr
namespace Go.Proofs.YtiipocnfifahpaaGreatDoor
open Go.ChangeShapes Go.WideShapes Go.ChangeAt Go.RowKit
set_option linter.unusedVariables false
set_option linter.unusedSimpArgs false
set_option maxRecDepth 100000
theorem predBounds_calls (W : World) (a0 : List Lv.ApiColumn) (a1 : List Lv.PredNode) (a2 : List Lv.ApiValue) (a3 : List Lv.ApiPart) (a4 : List UInt8) (k0 : (a0.length * 72 ≤ 140737488351232 ∧ ∀ y ∈ a0, (Lv.okApiColumn 140737488351232 y))) (k1 : (a1.length * 56 ≤ 140737488351232 ∧ ∀ y ∈ a1, (Lv.okPredNode 140737488351232 y))) (k2 : (a2.length * 32 ≤ 140737488351232 ∧ ∀ y ∈ a2, (Lv.okApiValue 140737488351232 y))) (k3 : (a3.length * 16 ≤ 140737488351232 ∧ ∀ y ∈ a3, (Lv.okApiPart 140737488351232 y))) (k4 : (a4.length ≤ 140737488351232)) (cargs : Array Value)
  (hT : Go.Lib.Utf8Tabs (Tryz.laysValid_ren.g 3) (Tryz.laysValid_ren.g 4) W) (hm : ∃ m, W.cell? ⟨2, 0, none⟩ = some (.int .i64 m))
  (hv : Lv.VRs (fun a => W.cell? a) (fun _ => none) [.d ((Lv.eL 7 Lv.eApiColumn) a0), .d ((Lv.eL 6 Lv.ePredNode) a1), .d ((Lv.eL 3 Lv.eApiValue) a2), .d ((Lv.eL 2 Lv.eApiPart) a3), .d (Lv.eS a4)] cargs) :
  Calls Tryz.prog 3 cargs W fun e W' => e = .returned (.bool true) ∧ Below W.heap.size W W' :=
 @Lv.calls_of_callAt (mkTab W) Tryz.prog 3 _ _ _ _ (@Lv.law20_PredBounds_ok (mkTab W) (tabOk hT hm) a0 a1 a2 a3 a4 true (@Lv.PredBounds_true (mkTab W) a0 a1 a2 a3 a4 (Lv.okCs20 (by decide) (by decide) k0) (Lv.okNs20 (by decide) k1) (Lv.okVs20 (by decide) (by decide) k2) (by omega))) rfl W (fun _ _ h => h) hv
theorem predBounds_reads (os : Os) {H : Type} (enc : TypeId × Value → H) : ∃ places, DataW.whole enc Tryz.prog ((World.laidAll Tryz.prog os Rows.predBoundsRow.laid).forCall (fun _ _ => 0) ⟨#[], #[.slice none 0 0, .slice none 0 0, .slice none 0 0, .slice none 0 0, .string ⟨#[]⟩], []⟩).memory Tryz.f3.params.toList Rows.predBoundsSpec.vars false #[Value.slice none 0 0, .slice none 0 0, .slice none 0 0, .slice none 0 0, .string ⟨#[]⟩].toList 8 = some ([.nil, .nil, .nil, .nil, .lit (.string [])], [], places) :=
 ⟨[], by kernel_rfl⟩
theorem predBounds_lifted (os : Os) (started : os.Started) (H : Type) (enc : TypeId × Value → H) (F : Stop.Interp) :
  ReturnsInHanded {} Tryz.checked os 3 .any ((OpenSpec.ofChange Rows.predBoundsSpec).preRow enc Tryz.prog Tryz.f3 Rows.predBoundsRow.domain false Rows.predBoundsRow.laid) (((OpenSpec.ofChange Rows.predBoundsSpec).at F).post enc Tryz.prog Tryz.f3 false true false false) := by
 obtain ⟨places, hx⟩ := predBounds_reads os enc
 refine returnsInHanded_of_row (C := Tryz.checked) (s := OpenSpec.ofChange Rows.predBoundsSpec) own started (by kernel_rfl) Tryz.func3
  (witness_row_at (enc := enc) (C := Tryz.checked) false (World.laidAll Tryz.prog os Rows.predBoundsRow.laid) #[.slice none 0 0, .slice none 0 0, .slice none 0 0, .slice none 0 0, .string ⟨#[]⟩] (World.laidAll_os _ _ _) (by kernel_rfl) (by kernel_rfl) (by kernel_rfl)
   (OpenSpec.preRow_of_cond 8 hx (by kernel_rfl) (fun k hk => by cases hk) (by kernel_rfl) (by rw [MakeChecks.laidMetH_plain _ _ _ (by kernel_rfl)]; exact laidMet_laidAll _ (by kernel_rfl) (by kernel_rfl)))) ?_
 intro W base args ds gs before hval0 hW _ hcond hsz0 hL hsh _
 have hval : ∀ (j : Nat) t v, Tryz.f3.params[j]? = some t → args[j]? = some v → Value.okWide Tryz.prog W .any base t v := hval0
 have hsz : (DataW.weightsEach Tryz.prog (Tryz.f3.params.toList ++ Rows.predBoundsSpec.plain.varTypes Tryz.prog) (ds ++ gs)).all (· ≤ reachBytes) = true := hsz0
 have hW' := hW
 obtain ⟨p, q, hA0, hV, rfl, hfz, hnd⟩ := hW
 have hA : DataW.TrodAll enc Tryz.prog W 0 (fun _ => true) true Tryz.f3.params.toList args.toList ds p := hA0
 rw [Tryz.params3] at hA hval hsz
 obtain ⟨v0, vs0, d0, ds0, p0, q0, hargs, rfl, rfl, h0, r0⟩ := trodAll_cons hA
 obtain ⟨v1, vs1, d1, ds1, p1, q1, rfl, rfl, rfl, h1, r1⟩ := trodAll_cons r0
 obtain ⟨v2, vs2, d2, ds2, p2, q2, rfl, rfl, rfl, h2, r2⟩ := trodAll_cons r1
 obtain ⟨v3, vs3, d3, ds3, p3, q3, rfl, rfl, rfl, h3, r3⟩ := trodAll_cons r2
 obtain ⟨v4, vs4, d4, ds4, p4, q4, rfl, rfl, rfl, h4, r4⟩ := trodAll_cons r3
 obtain ⟨rfl, rfl, rfl⟩ := trodAll_nil r4
 obtain rfl : args = #[v0, v1, v2, v3, v4] := by cases args; simp_all
 obtain ⟨rfl, rfl⟩ := trodVars_none hV
 have lt0 : ∀ x ∈ p0, x.block < W.heap.size := by obtain ⟨m, hm⟩ := h0; exact DataW.trod_lt m _ _ _ hm
 have lt1 : ∀ x ∈ p1, x.block < W.heap.size := by obtain ⟨m, hm⟩ := h1; exact DataW.trod_lt m _ _ _ hm
 have lt2 : ∀ x ∈ p2, x.block < W.heap.size := by obtain ⟨m, hm⟩ := h2; exact DataW.trod_lt m _ _ _ hm
 have lt3 : ∀ x ∈ p3, x.block < W.heap.size := by obtain ⟨m, hm⟩ := h3; exact DataW.trod_lt m _ _ _ hm
 have lt4 : ∀ x ∈ p4, x.block < W.heap.size := by obtain ⟨m, hm⟩ := h4; exact DataW.trod_lt m _ _ _ hm
 obtain ⟨a0, V0, k0⟩ := Lv.sdArg laws sd22 h0 (.inr fun a => ⟨rfl, fun cs e => by obtain ⟨x, y, z, e'⟩ := okWide_slice u22 (hval 0 22 v0 rfl rfl); rw [e'] at e; cases e⟩) (good_of hsz (j := 0) (t := 22) rfl rfl)
 obtain ⟨a1, V1, k1⟩ := Lv.sdArg laws sd23 h1 (.inr fun a => ⟨rfl, fun cs e => by obtain ⟨x, y, z, e'⟩ := okWide_slice u23 (hval 1 23 v1 rfl rfl); rw [e'] at e; cases e⟩) (good_of hsz (j := 1) (t := 23) rfl rfl)
 obtain ⟨a2, V2, k2⟩ := Lv.sdArg laws sd24 h2 (.inr fun a => ⟨rfl, fun cs e => by obtain ⟨x, y, z, e'⟩ := okWide_slice u24 (hval 2 24 v2 rfl rfl); rw [e'] at e; cases e⟩) (good_of hsz (j := 2) (t := 24) rfl rfl)
 obtain ⟨a3, V3, k3⟩ := Lv.sdArg laws sd25 h3 (.inr fun a => ⟨rfl, fun cs e => by obtain ⟨x, y, z, e'⟩ := okWide_slice u25 (hval 3 25 v3 rfl rfl); rw [e'] at e; cases e⟩) (good_of hsz (j := 3) (t := 25) rfl rfl)
 obtain ⟨a4, V4, k4⟩ := Lv.sdArg laws sd9 h4 (.inr fun a => ⟨rfl, fun cs e => by obtain ⟨x, e'⟩ := okWide_string u9 (hval 4 9 v4 rfl rfl); rw [e'] at e; cases e⟩) (good_of hsz (j := 4) (t := 9) rfl rfl)
 clear hA0 hval0 hsz0
 have hT := tabs_of hL (.tail _ (first_eq ▸ .head _)) (accept_eq ▸ .head _) (by kernel_rfl)
 refine (predBounds_calls W a0 a1 a2 a3 a4 k0 k1 k2 k3 k4 _ hT (maxLen_of hsh) (Lv.vrs_cons V0 (Lv.vrs_cons V1 (Lv.vrs_cons V2 (Lv.vrs_cons V3 (Lv.vrs_cons V4 Lv.vrs_nil)))))).mono fun e W' ⟨he, bel⟩ => ?_
 subst he
 exact ⟨_, rfl, _, _, _, [], _, [], hW', trodAll_mk1 (shut_bool u4 _), (trodAll_cons_mk (Below.trod laidOut (by kernel_rfl) (of_decide_eq_true (by kernel_rfl)) h0 bel lt0) (trodAll_cons_mk (Below.trod laidOut (by kernel_rfl) (of_decide_eq_true (by kernel_rfl)) h1 bel lt1) (trodAll_cons_mk (Below.trod laidOut (by kernel_rfl) (of_decide_eq_true (by kernel_rfl)) h2 bel lt2) (trodAll_cons_mk (Below.trod laidOut (by kernel_rfl) (of_decide_eq_true (by kernel_rfl)) h3 bel lt3) (trodAll_cons_mk (Below.trod laidOut (by kernel_rfl) (of_decide_eq_true (by kernel_rfl)) h4 bel lt4) trodAll_mk0))))), rfl, bel.frame _, fun h => by cases h⟩
theorem predBounds_said : Rows.PredBoundsSaid :=
 OpenClaim.holds_of_cond 3 Tryz.f3 rfl rfl rfl rfl rfl rfl rfl ⟨rfl, rfl, rfl, rfl, rfl⟩ rfl rfl rfl rfl rfl (by kernel_rfl) Tryz.func3 (by kernel_rfl)
  (of_decide_eq_true (by kernel_rfl)) (by unfold Func.isWrapper; first | (rw [if_pos (by decide +kernel)]; kernel_rfl) | (rw [if_neg (by decide +kernel)]; exact ⟨rfl, rfl⟩))
  (fun os started H enc _ F => by rw [OpenClaim.pre_eq_preRow]; exact predBounds_lifted os started H enc F)
theorem predBounds_card : Rows.PredBoundsCardSaid :=
 Claim7.holds_tied_plain_at .later [] _ _ _ _ predBounds_said (fun _ h => by cases h) (by kernel_rfl) (fun _ h => by cases h) predBounds_row_tie rfl ⟨rfl, rfl⟩ (by kernel_rfl) rfl
  (fun f fn hf hfn => by
   obtain rfl : f = 3 := Option.some.inj ((show Tryz.prog.funcNamed "granary/granarylaw20.PredBounds" = some 3 by kernel_rfl).symm.trans hf) |>.symm
   obtain rfl : fn = Tryz.f3 := (Option.some.inj (Tryz.func3.symm.trans hfn)).symm
   exact ⟨by kernel_rfl, fun j t ht => by
    rw [Tryz.params3] at ht
    have hm : t ∈ [22, 23, 24, 25, 9] := by simpa using Array.mem_of_getElem? ht
    have hall : ([22, 23, 24, 25, 9].all fun u => !Tryz.prog.wantsStandIn u) = true := by kernel_rfl
    exact (show Tryz.prog.wantsStandIn t = false by simpa using List.all_eq_true.1 hall t hm)⟩)
  (by kernel_rfl)
#print axioms predBounds_said
#print axioms predBounds_card
end Go.Proofs.YtiipocnfifahpaaGreatDoor
