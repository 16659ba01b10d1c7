/- The law CatalogReads of the seat: for every arguments of bulk at most 1048576 together it returns true, and memory reads as it did. Its condition: that bound. -/
import Derived.Test.YtmkgfooomdagmaaGreatDoorKF
import Derived.Test.YtmkgfooomdagmaaGreatDoorKCatalogReadsr
namespace Go.Proofs.YtmkgfooomdagmaaGreatDoor
open Go.ChangeShapes Go.WideShapes Go.ChangeAt Go.RowKit
set_option linter.unusedVariables false
set_option linter.unusedSimpArgs false
set_option maxRecDepth 100000
theorem catalogReads_calls (W : World) (a0 : List Lv.ApiPair) (k0 : (a0.length ≤ 1048576 ∧ ∀ y ∈ a0, (Lv.okApiPair 1048576 y))) (cargs : Array Value)
  (hT : Go.Lib.Utf8Tabs (Tryz.laysValid_ren.g 3) (Tryz.laysValid_ren.g 4) W)
  (hv : Lv.VRs (fun a => W.cell? a) (fun _ => none) [.d ((Lv.eL 2 Lv.eApiPair) a0)] cargs) :
  Calls Tryz.prog 4 cargs W fun e W' => e = .returned (.bool true) ∧ Below W.heap.size W W' :=
 @Lv.calls_of_callAt (mkTab W) Tryz.prog 4 _ _ _ _ (@Lv.law18_CatalogReads_ok (mkTab W) (tabOk hT) a0 true (@Lv.CatalogReads_true (mkTab W) a0 (Lv.small_of (by decide) k0) k0.1)) rfl W (fun _ _ h => h) hv
theorem catalogReads_reads (os : Os) {H : Type} (enc : TypeId × Value → H) : ∃ places, DataW.whole enc Tryz.prog ((World.laidAll Tryz.prog os Rows.catalogReadsUptoRow.laid).forCall (fun _ _ => 0) ⟨#[], #[.slice none 0 0], []⟩).memory Tryz.f4.params.toList Rows.catalogReadsSpec.vars false #[Value.slice none 0 0].toList 8 = some ([.nil], [], places) :=
 ⟨[], by kernel_rfl⟩
theorem catalogReads_lifted (os : Os) (started : os.Started) (H : Type) (enc : TypeId × Value → H) (F : Stop.Interp) :
  ReturnsInHanded {} Tryz.checked os 4 .any ((Rows.OpenSpec.upto Rows.catalogReadsSpec).preRow enc Tryz.prog Tryz.f4 Rows.catalogReadsUptoRow.domain false Rows.catalogReadsUptoRow.laid) (((Rows.OpenSpec.upto Rows.catalogReadsSpec).at F).post enc Tryz.prog Tryz.f4 false true false false) := by
 obtain ⟨places, hx⟩ := catalogReads_reads os enc
 refine returnsInHanded_of_row (C := Tryz.checked) (s := Rows.OpenSpec.upto Rows.catalogReadsSpec) own started (by kernel_rfl) Tryz.func4
  (witness_row_at (enc := enc) (C := Tryz.checked) false (World.laidAll Tryz.prog os Rows.catalogReadsUptoRow.laid) #[.slice none 0 0] (World.laidAll_os _ _ _) (by kernel_rfl) (by kernel_rfl) (by kernel_rfl)
   (OpenSpec.preRow_of_cond 8 hx (by kernel_rfl) (fun k hk => by cases hk; kernel_rfl) (by kernel_rfl) (by rw [MakeChecks.laidMetH_plain _ _ _ (by kernel_rfl)]; exact laidMet_laidAll _ (by kernel_rfl) (by kernel_rfl)))) ?_
 intro W base args ds gs before hval0 hW _ hcond hsz0 hL hsh _
 have hval : ∀ (j : Nat) t v, Tryz.f4.params[j]? = some t → args[j]? = some v → Value.okWide Tryz.prog W .any base t v := hval0
 have hsz : (DataW.weightsEach Tryz.prog (Tryz.f4.params.toList ++ Rows.catalogReadsSpec.plain.varTypes Tryz.prog) (ds ++ gs)).all (· ≤ reachBytes) = true := hsz0
 have hW' := hW
 obtain ⟨p, q, hA0, hV, rfl, hfz, hnd⟩ := hW
 have hA : DataW.TrodAll enc Tryz.prog W 0 (fun _ => true) true Tryz.f4.params.toList args.toList ds p := hA0
 rw [Tryz.params4] at hA hval hsz
 obtain ⟨v0, vs0, d0, ds0, p0, q0, hargs, rfl, rfl, h0, r0⟩ := trodAll_cons hA
 obtain ⟨rfl, rfl, rfl⟩ := trodAll_nil r0
 obtain rfl : args = #[v0] := by cases args; simp_all
 obtain ⟨rfl, rfl⟩ := trodVars_none hV
 have hb : Rows.uptoBulkAll ([d0] ++ []) ≤ 1048576 := of_decide_eq_true (hcond _ rfl)
 have lt0 : ∀ x ∈ p0, x.block < W.heap.size := by obtain ⟨m, hm⟩ := h0; exact DataW.trod_lt m _ _ _ hm
 obtain ⟨a0, V0, k0⟩ := Lv.sdArg laws sd29 h0 (.inr fun a => ⟨rfl, fun cs e => by obtain ⟨x, y, z, e'⟩ := okWide_slice u29 (hval 0 29 v0 rfl rfl); rw [e'] at e; cases e⟩) (good_of hb (j := 0) rfl 29)
 clear hA0 hval0 hsz0
 have hT := tabs_of hL (.tail _ (first_eq ▸ .head _)) (accept_eq ▸ .head _) (by kernel_rfl)
 refine (catalogReads_calls W a0 k0 _ hT (Lv.vrs_cons V0 Lv.vrs_nil)).mono fun e W' ⟨he, bel⟩ => ?_
 subst he
 exact ⟨_, rfl, _, _, _, [], _, [], hW', trodAll_mk1 (shut_bool u4 _), (trodAll_cons_mk (Below.trod laidOut (by kernel_rfl) (of_decide_eq_true (by kernel_rfl)) h0 bel lt0) trodAll_mk0), rfl, bel.frame _, fun h => by cases h⟩
theorem catalogReads_said : Rows.CatalogReadsUptoSaid :=
 OpenClaim.holds_of_cond 4 Tryz.f4 rfl rfl rfl rfl rfl rfl rfl ⟨rfl, rfl, rfl, rfl, rfl⟩ rfl rfl rfl rfl rfl (by kernel_rfl) Tryz.func4 (by kernel_rfl)
  (of_decide_eq_true (by kernel_rfl)) (by unfold Func.isWrapper; first | (rw [if_pos (by decide +kernel)]; kernel_rfl) | (rw [if_neg (by decide +kernel)]; exact ⟨rfl, rfl⟩))
  (fun os started H enc _ F => by rw [OpenClaim.pre_eq_preRow]; exact catalogReads_lifted os started H enc F)
theorem catalogReads_card : Rows.CatalogReadsUptoCardSaid :=
 Claim7.holds_tied_plain_at .later [] _ _ _ _ catalogReads_said (fun _ h => by cases h) (by kernel_rfl) (fun _ h => by cases h) catalogReadsUpto_row_tie rfl ⟨rfl, rfl⟩ (by kernel_rfl) rfl
  (fun f fn hf hfn => by
   obtain rfl : f = 4 := Option.some.inj ((show Tryz.prog.funcNamed "granary/granarylaw18.CatalogReads" = some 4 by kernel_rfl).symm.trans hf) |>.symm
   obtain rfl : fn = Tryz.f4 := (Option.some.inj (Tryz.func4.symm.trans hfn)).symm
   exact ⟨by kernel_rfl, fun j t ht => by
    rw [Tryz.params4] at ht
    have hm : t ∈ [29] := by simpa using Array.mem_of_getElem? ht
    have hall : ([29].all fun u => !Tryz.prog.wantsStandIn u) = true := by kernel_rfl
    exact (show Tryz.prog.wantsStandIn t = false by simpa using List.all_eq_true.1 hall t hm)⟩)
  (by kernel_rfl)
#print axioms catalogReads_said
#print axioms catalogReads_card
end Go.Proofs.YtmkgfooomdagmaaGreatDoor
