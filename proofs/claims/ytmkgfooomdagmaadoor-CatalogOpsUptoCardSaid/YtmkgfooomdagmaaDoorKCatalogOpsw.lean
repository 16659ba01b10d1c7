/- The law CatalogOps of the seat: for every arguments of bulk at most 1048576 together it returns true, and memory reads as it did. Its condition: that bound. -/
import Derived.Test.YtmkgfooomdagmaaDoorKF
import Derived.Test.YtmkgfooomdagmaaDoorKCatalogOpsr
namespace Go.Proofs.YtmkgfooomdagmaaDoor
open Go.ChangeShapes Go.WideShapes Go.ChangeAt Go.RowKit
set_option linter.unusedVariables false
set_option linter.unusedSimpArgs false
set_option maxRecDepth 100000
theorem catalogOps_calls (W : World) (a0 : Int) (a1 : List Lv.ApiPair) (a2 : List Lv.ApiPair) (k0 : (-9223372036854775808 ≤ a0 ∧ a0 < 9223372036854775808)) (k1 : (a1.length ≤ 1048576 ∧ ∀ y ∈ a1, (Lv.okApiPair 1048576 y))) (k2 : (a2.length ≤ 1048576 ∧ ∀ y ∈ a2, (Lv.okApiPair 1048576 y))) (cargs : Array Value)
  (hT : Go.Lib.Utf8Tabs (Tryd.laysValid_ren.g 3) (Tryd.laysValid_ren.g 4) W)
  (hv : Lv.VRs (fun a => W.cell? a) (fun _ => none) [.d (Lv.eI a0), .d ((Lv.eL 2 Lv.eApiPair) a1), .d ((Lv.eL 2 Lv.eApiPair) a2)] cargs) :
  Calls Tryd.prog 3 cargs W fun e W' => e = .returned (.bool true) ∧ Below W.heap.size W W' :=
 @Lv.calls_of_callAt (mkTab W) Tryd.prog 3 _ _ _ _ (@Lv.law18_CatalogOps_ok (mkTab W) (tabOk hT) a0 a1 a2 true (@Lv.CatalogOps_true (mkTab W) a0 a1 a2 k1.1 k2.1)) rfl W (fun _ _ h => h) hv
theorem catalogOps_reads (os : Os) {H : Type} (enc : TypeId × Value → H) : ∃ places, DataW.whole enc Tryd.prog ((World.laidAll Tryd.prog os Rows.catalogOpsUptoRow.laid).forCall (fun _ _ => 0) ⟨#[], #[.int .i64 0, .slice none 0 0, .slice none 0 0], []⟩).memory Tryd.f3.params.toList Rows.catalogOpsSpec.vars false #[Value.int .i64 0, .slice none 0 0, .slice none 0 0].toList 8 = some ([.lit (.int .i64 0), .nil, .nil], [], places) :=
 ⟨[], by kernel_rfl⟩
theorem catalogOps_lifted (os : Os) (started : os.Started) (H : Type) (enc : TypeId × Value → H) (F : Stop.Interp) :
  ReturnsInHanded {} Tryd.checked os 3 .any ((Rows.OpenSpec.upto Rows.catalogOpsSpec).preRow enc Tryd.prog Tryd.f3 Rows.catalogOpsUptoRow.domain false Rows.catalogOpsUptoRow.laid) (((Rows.OpenSpec.upto Rows.catalogOpsSpec).at F).post enc Tryd.prog Tryd.f3 false true false false) := by
 obtain ⟨places, hx⟩ := catalogOps_reads os enc
 refine returnsInHanded_of_row (C := Tryd.checked) (s := Rows.OpenSpec.upto Rows.catalogOpsSpec) own started (by kernel_rfl) Tryd.func3
  (witness_row_at (enc := enc) (C := Tryd.checked) false (World.laidAll Tryd.prog os Rows.catalogOpsUptoRow.laid) #[.int .i64 0, .slice none 0 0, .slice none 0 0] (World.laidAll_os _ _ _) (by kernel_rfl) (by kernel_rfl) (by kernel_rfl)
   (OpenSpec.preRow_of_cond 8 hx (by kernel_rfl) (fun k hk => by cases hk; kernel_rfl) (by kernel_rfl) (by rw [MakeChecks.laidMetH_plain _ _ _ (by kernel_rfl)]; exact laidMet_laidAll _ (by kernel_rfl) (by kernel_rfl)))) ?_
 intro W base args ds gs before hval0 hW _ hcond hsz0 hL hsh _
 have hval : ∀ (j : Nat) t v, Tryd.f3.params[j]? = some t → args[j]? = some v → Value.okWide Tryd.prog W .any base t v := hval0
 have hsz : (DataW.weightsEach Tryd.prog (Tryd.f3.params.toList ++ Rows.catalogOpsSpec.plain.varTypes Tryd.prog) (ds ++ gs)).all (· ≤ reachBytes) = true := hsz0
 have hW' := hW
 obtain ⟨p, q, hA0, hV, rfl, hfz, hnd⟩ := hW
 have hA : DataW.TrodAll enc Tryd.prog W 0 (fun _ => true) true Tryd.f3.params.toList args.toList ds p := hA0
 rw [Tryd.params3] at hA hval hsz
 obtain ⟨v0, vs0, d0, ds0, p0, q0, hargs, rfl, rfl, h0, r0⟩ := trodAll_cons hA
 obtain ⟨v1, vs1, d1, ds1, p1, q1, rfl, rfl, rfl, h1, r1⟩ := trodAll_cons r0
 obtain ⟨v2, vs2, d2, ds2, p2, q2, rfl, rfl, rfl, h2, r2⟩ := trodAll_cons r1
 obtain ⟨rfl, rfl, rfl⟩ := trodAll_nil r2
 obtain rfl : args = #[v0, v1, v2] := by cases args; simp_all
 obtain ⟨rfl, rfl⟩ := trodVars_none hV
 have hb : Rows.uptoBulkAll ([d0, d1, d2] ++ []) ≤ 1048576 := of_decide_eq_true (hcond _ rfl)
 have lt0 : ∀ x ∈ p0, x.block < W.heap.size := by obtain ⟨m, hm⟩ := h0; exact DataW.trod_lt m _ _ _ hm
 have lt1 : ∀ x ∈ p1, x.block < W.heap.size := by obtain ⟨m, hm⟩ := h1; exact DataW.trod_lt m _ _ _ hm
 have lt2 : ∀ x ∈ p2, x.block < W.heap.size := by obtain ⟨m, hm⟩ := h2; exact DataW.trod_lt m _ _ _ hm
 obtain ⟨a0, V0, k0⟩ := Lv.sdArg laws sd3 h0 (.inr fun a => ⟨rfl, fun cs e => by obtain ⟨x, e'⟩ := okWide_int u3 (hval 0 3 v0 rfl rfl); rw [e'] at e; cases e⟩) (good_of hb (j := 0) rfl 3)
 obtain ⟨a1, V1, k1⟩ := Lv.sdArg laws sd22 h1 (.inr fun a => ⟨rfl, fun cs e => by obtain ⟨x, y, z, e'⟩ := okWide_slice u22 (hval 1 22 v1 rfl rfl); rw [e'] at e; cases e⟩) (good_of hb (j := 1) rfl 22)
 obtain ⟨a2, V2, k2⟩ := Lv.sdArg laws sd22 h2 (.inr fun a => ⟨rfl, fun cs e => by obtain ⟨x, y, z, e'⟩ := okWide_slice u22 (hval 2 22 v2 rfl rfl); rw [e'] at e; cases e⟩) (good_of hb (j := 2) rfl 22)
 clear hA0 hval0 hsz0
 have hT := tabs_of hL (.tail _ (first_eq ▸ .head _)) (accept_eq ▸ .head _) (by kernel_rfl)
 refine (catalogOps_calls W a0 a1 a2 k0 k1 k2 _ hT (Lv.vrs_cons V0 (Lv.vrs_cons V1 (Lv.vrs_cons V2 Lv.vrs_nil)))).mono fun e W' ⟨he, bel⟩ => ?_
 subst he
 exact ⟨_, rfl, _, _, _, [], _, [], hW', trodAll_mk1 (shut_bool u4 _), (trodAll_cons_mk (Below.trod laidOut (by kernel_rfl) (of_decide_eq_true (by kernel_rfl)) h0 bel lt0) (trodAll_cons_mk (Below.trod laidOut (by kernel_rfl) (of_decide_eq_true (by kernel_rfl)) h1 bel lt1) (trodAll_cons_mk (Below.trod laidOut (by kernel_rfl) (of_decide_eq_true (by kernel_rfl)) h2 bel lt2) trodAll_mk0))), rfl, bel.frame _, fun h => by cases h⟩
theorem catalogOps_said : Rows.CatalogOpsUptoSaid :=
 OpenClaim.holds_of_cond 3 Tryd.f3 rfl rfl rfl rfl rfl rfl rfl ⟨rfl, rfl, rfl, rfl, rfl⟩ rfl rfl rfl rfl rfl (by kernel_rfl) Tryd.func3 (by kernel_rfl)
  (of_decide_eq_true (by kernel_rfl)) (by unfold Func.isWrapper; first | (rw [if_pos (by decide +kernel)]; kernel_rfl) | (rw [if_neg (by decide +kernel)]; exact ⟨rfl, rfl⟩))
  (fun os started H enc _ F => by rw [OpenClaim.pre_eq_preRow]; exact catalogOps_lifted os started H enc F)
theorem catalogOps_card : Rows.CatalogOpsUptoCardSaid :=
 Claim7.holds_tied_plain_at .later [] _ _ _ _ catalogOps_said (fun _ h => by cases h) (by kernel_rfl) (fun _ h => by cases h) catalogOpsUpto_row_tie rfl ⟨rfl, rfl⟩ (by kernel_rfl) rfl
  (fun f fn hf hfn => by
   obtain rfl : f = 3 := Option.some.inj ((show Tryd.prog.funcNamed "granary/granarylaw18.CatalogOps" = some 3 by kernel_rfl).symm.trans hf) |>.symm
   obtain rfl : fn = Tryd.f3 := (Option.some.inj (Tryd.func3.symm.trans hfn)).symm
   exact ⟨by kernel_rfl, fun j t ht => by
    rw [Tryd.params3] at ht
    have hm : t ∈ [3, 22, 22] := by simpa using Array.mem_of_getElem? ht
    have hall : ([3, 22, 22].all fun u => !Tryd.prog.wantsStandIn u) = true := by kernel_rfl
    exact (show Tryd.prog.wantsStandIn t = false by simpa using List.all_eq_true.1 hall t hm)⟩)
  (by kernel_rfl)
#print axioms catalogOps_said
#print axioms catalogOps_card
end Go.Proofs.YtmkgfooomdagmaaDoor
