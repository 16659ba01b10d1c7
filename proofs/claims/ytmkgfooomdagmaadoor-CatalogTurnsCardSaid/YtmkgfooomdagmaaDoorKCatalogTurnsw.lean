/- The law CatalogTurns of the seat: for every arguments it returns true, and memory reads as it did. No condition of its own. -/
import Derived.Test.YtmkgfooomdagmaaDoorKF
import Derived.Test.YtmkgfooomdagmaaDoorKCatalogTurnsr
namespace Go.Proofs.YtmkgfooomdagmaaDoor
open Go.ChangeShapes Go.WideShapes Go.ChangeAt Go.RowKit
set_option linter.unusedVariables false
set_option linter.unusedSimpArgs false
set_option maxRecDepth 100000
theorem catalogTurns_calls (W : World) (a0 : List Lv.ApiTable) (a1 : List Lv.ApiTable) (k0 : (a0.length * 96 ≤ 140737488351232 ∧ ∀ y ∈ a0, (Lv.okApiTable 140737488351232 y))) (k1 : (a1.length * 96 ≤ 140737488351232 ∧ ∀ y ∈ a1, (Lv.okApiTable 140737488351232 y))) (cargs : Array Value)
  (hT : Go.Lib.Utf8Tabs (Tryd.laysValid_ren.g 3) (Tryd.laysValid_ren.g 4) W)
  (hv : Lv.VRs (fun a => W.cell? a) (fun _ => none) [.d ((Lv.eL 5 Lv.eApiTable) a0), .d ((Lv.eL 5 Lv.eApiTable) a1)] cargs) :
  Calls Tryd.prog 5 cargs W fun e W' => e = .returned (.bool true) ∧ Below W.heap.size W W' :=
 @Lv.calls_of_callAt (mkTab W) Tryd.prog 5 _ _ _ _ (@Lv.law18_CatalogTurns_ok (mkTab W) (tabOk hT) a0 a1 true (@Lv.CatalogTurns_true (mkTab W) a0 a1 (Lv.okTs_of (by decide) k0) (Lv.okTs_of (by decide) k1) (Lv.len_of (by decide) (by decide) k0) (Lv.len_of (by decide) (by decide) k1))) rfl W (fun _ _ h => h) hv
theorem catalogTurns_reads (os : Os) {H : Type} (enc : TypeId × Value → H) : ∃ places, DataW.whole enc Tryd.prog ((World.laidAll Tryd.prog os Rows.catalogTurnsRow.laid).forCall (fun _ _ => 0) ⟨#[], #[.slice none 0 0, .slice none 0 0], []⟩).memory Tryd.f5.params.toList Rows.catalogTurnsSpec.vars false #[Value.slice none 0 0, .slice none 0 0].toList 8 = some ([.nil, .nil], [], places) :=
 ⟨[], by kernel_rfl⟩
theorem catalogTurns_lifted (os : Os) (started : os.Started) (H : Type) (enc : TypeId × Value → H) (F : Stop.Interp) :
  ReturnsInHanded {} Tryd.checked os 5 .any ((OpenSpec.ofChange Rows.catalogTurnsSpec).preRow enc Tryd.prog Tryd.f5 Rows.catalogTurnsRow.domain false Rows.catalogTurnsRow.laid) (((OpenSpec.ofChange Rows.catalogTurnsSpec).at F).post enc Tryd.prog Tryd.f5 false true false false) := by
 obtain ⟨places, hx⟩ := catalogTurns_reads os enc
 refine returnsInHanded_of_row (C := Tryd.checked) (s := OpenSpec.ofChange Rows.catalogTurnsSpec) own started (by kernel_rfl) Tryd.func5
  (witness_row_at (enc := enc) (C := Tryd.checked) false (World.laidAll Tryd.prog os Rows.catalogTurnsRow.laid) #[.slice none 0 0, .slice none 0 0] (World.laidAll_os _ _ _) (by kernel_rfl) (by kernel_rfl) (by kernel_rfl)
   (OpenSpec.preRow_of_cond 8 hx (by kernel_rfl) (fun k hk => by cases hk) (by kernel_rfl) (by rw [MakeChecks.laidMetH_plain _ _ _ (by kernel_rfl)]; exact laidMet_laidAll _ (by kernel_rfl) (by kernel_rfl)))) ?_
 intro W base args ds gs before hval0 hW _ hcond hsz0 hL hsh _
 have hval : ∀ (j : Nat) t v, Tryd.f5.params[j]? = some t → args[j]? = some v → Value.okWide Tryd.prog W .any base t v := hval0
 have hsz : (DataW.weightsEach Tryd.prog (Tryd.f5.params.toList ++ Rows.catalogTurnsSpec.plain.varTypes Tryd.prog) (ds ++ gs)).all (· ≤ reachBytes) = true := hsz0
 have hW' := hW
 obtain ⟨p, q, hA0, hV, rfl, hfz, hnd⟩ := hW
 have hA : DataW.TrodAll enc Tryd.prog W 0 (fun _ => true) true Tryd.f5.params.toList args.toList ds p := hA0
 rw [Tryd.params5] at hA hval hsz
 obtain ⟨v0, vs0, d0, ds0, p0, q0, hargs, rfl, rfl, h0, r0⟩ := trodAll_cons hA
 obtain ⟨v1, vs1, d1, ds1, p1, q1, rfl, rfl, rfl, h1, r1⟩ := trodAll_cons r0
 obtain ⟨rfl, rfl, rfl⟩ := trodAll_nil r1
 obtain rfl : args = #[v0, v1] := by cases args; simp_all
 obtain ⟨rfl, rfl⟩ := trodVars_none hV
 have lt0 : ∀ x ∈ p0, x.block < W.heap.size := by obtain ⟨m, hm⟩ := h0; exact DataW.trod_lt m _ _ _ hm
 have lt1 : ∀ x ∈ p1, x.block < W.heap.size := by obtain ⟨m, hm⟩ := h1; exact DataW.trod_lt m _ _ _ hm
 obtain ⟨a0, V0, k0⟩ := Lv.sdArg laws sd45 h0 (.inr fun a => ⟨rfl, fun cs e => by obtain ⟨x, y, z, e'⟩ := okWide_slice u45 (hval 0 45 v0 rfl rfl); rw [e'] at e; cases e⟩) (good_of hsz (j := 0) (t := 45) rfl rfl)
 obtain ⟨a1, V1, k1⟩ := Lv.sdArg laws sd45 h1 (.inr fun a => ⟨rfl, fun cs e => by obtain ⟨x, y, z, e'⟩ := okWide_slice u45 (hval 1 45 v1 rfl rfl); rw [e'] at e; cases e⟩) (good_of hsz (j := 1) (t := 45) rfl rfl)
 clear hA0 hval0 hsz0
 have hT := tabs_of hL (.tail _ (first_eq ▸ .head _)) (accept_eq ▸ .head _) (by kernel_rfl)
 refine (catalogTurns_calls W a0 a1 k0 k1 _ hT (Lv.vrs_cons V0 (Lv.vrs_cons V1 Lv.vrs_nil))).mono fun e W' ⟨he, bel⟩ => ?_
 subst he
 exact ⟨_, rfl, _, _, _, [], _, [], hW', trodAll_mk1 (shut_bool u4 _), (trodAll_cons_mk (Below.trod laidOut (by kernel_rfl) (of_decide_eq_true (by kernel_rfl)) h0 bel lt0) (trodAll_cons_mk (Below.trod laidOut (by kernel_rfl) (of_decide_eq_true (by kernel_rfl)) h1 bel lt1) trodAll_mk0)), rfl, bel.frame _, fun h => by cases h⟩
theorem catalogTurns_said : Rows.CatalogTurnsSaid :=
 OpenClaim.holds_of_cond 5 Tryd.f5 rfl rfl rfl rfl rfl rfl rfl ⟨rfl, rfl, rfl, rfl, rfl⟩ rfl rfl rfl rfl rfl (by kernel_rfl) Tryd.func5 (by kernel_rfl)
  (of_decide_eq_true (by kernel_rfl)) (by unfold Func.isWrapper; first | (rw [if_pos (by decide +kernel)]; kernel_rfl) | (rw [if_neg (by decide +kernel)]; exact ⟨rfl, rfl⟩))
  (fun os started H enc _ F => by rw [OpenClaim.pre_eq_preRow]; exact catalogTurns_lifted os started H enc F)
theorem catalogTurns_card : Rows.CatalogTurnsCardSaid :=
 Claim7.holds_tied_plain_at .later [] _ _ _ _ catalogTurns_said (fun _ h => by cases h) (by kernel_rfl) (fun _ h => by cases h) catalogTurns_row_tie rfl ⟨rfl, rfl⟩ (by kernel_rfl) rfl
  (fun f fn hf hfn => by
   obtain rfl : f = 5 := Option.some.inj ((show Tryd.prog.funcNamed "granary/granarylaw18.CatalogTurns" = some 5 by kernel_rfl).symm.trans hf) |>.symm
   obtain rfl : fn = Tryd.f5 := (Option.some.inj (Tryd.func5.symm.trans hfn)).symm
   exact ⟨by kernel_rfl, fun j t ht => by
    rw [Tryd.params5] at ht
    have hm : t ∈ [45, 45] := by simpa using Array.mem_of_getElem? ht
    have hall : ([45, 45].all fun u => !Tryd.prog.wantsStandIn u) = true := by kernel_rfl
    exact (show Tryd.prog.wantsStandIn t = false by simpa using List.all_eq_true.1 hall t hm)⟩)
  (by kernel_rfl)
#print axioms catalogTurns_said
#print axioms catalogTurns_card
end Go.Proofs.YtmkgfooomdagmaaDoor
