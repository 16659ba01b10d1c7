/- The law ValueNumbers of the seat: for every arguments it returns true, and memory reads as it did. No condition of its own. -/
import Derived.Test.YtihhhgaaagefgaaDoorKF
import Derived.Test.YtihhhgaaagefgaaDoorKValueNumbersr
namespace Go.Proofs.YtihhhgaaagefgaaDoor
open Go.ChangeShapes Go.WideShapes Go.ChangeAt Go.RowKit
set_option linter.unusedVariables false
set_option linter.unusedSimpArgs false
set_option maxRecDepth 100000
theorem valueNumbers_calls (W : World) (a0 : UInt64) (a1 : UInt64) (k0 : True) (k1 : True) (cargs : Array Value)
  (hT : Go.Lib.Utf8Tabs (Tryd.laysValid_ren.g 3) (Tryd.laysValid_ren.g 4) W) (hp : Go.Proofs.Pow10 W)
  (hv : Lv.VRs (fun a => W.cell? a) (fun _ => none) [.d (Lv.eU64 a0), .d (Lv.eU64 a1)] cargs) :
  Calls Tryd.prog 6 cargs W fun e W' => e = .returned (.bool true) ∧ Below W.heap.size W W' :=
 @Lv.calls_of_callAt (mkTab W) Tryd.prog 6 _ _ _ _ (@Lv.law06_ValueNumbers_ok (mkTab W) (tabOk hT hp) a0 a1 true (@Lv.ValueNumbers_true (mkTab W) a0 a1 )) rfl W (fun _ _ h => h) hv
theorem valueNumbers_reads (os : Os) {H : Type} (enc : TypeId × Value → H) : ∃ places, DataW.whole enc Tryd.prog ((World.laidAll Tryd.prog os Rows.valueNumbersRow.laid).forCall (fun _ _ => 0) ⟨#[], #[.int .u64 0, .int .u64 0], []⟩).memory Tryd.f6.params.toList Rows.valueNumbersSpec.vars false #[Value.int .u64 0, .int .u64 0].toList 8 = some ([.lit (.int .u64 0), .lit (.int .u64 0)], [], places) :=
 ⟨[], by kernel_rfl⟩
theorem valueNumbers_lifted (os : Os) (started : os.Started) (H : Type) (enc : TypeId × Value → H) (F : Stop.Interp) :
  ReturnsInHanded {} Tryd.checked os 6 .any ((OpenSpec.ofChange Rows.valueNumbersSpec).preRow enc Tryd.prog Tryd.f6 Rows.valueNumbersRow.domain false Rows.valueNumbersRow.laid) (((OpenSpec.ofChange Rows.valueNumbersSpec).at F).post enc Tryd.prog Tryd.f6 false true false false) := by
 obtain ⟨places, hx⟩ := valueNumbers_reads os enc
 refine returnsInHanded_of_row (C := Tryd.checked) (s := OpenSpec.ofChange Rows.valueNumbersSpec) own started (by kernel_rfl) Tryd.func6
  (witness_row_at (enc := enc) (C := Tryd.checked) false (World.laidAll Tryd.prog os Rows.valueNumbersRow.laid) #[.int .u64 0, .int .u64 0] (World.laidAll_os _ _ _) (by kernel_rfl) (by kernel_rfl) (by kernel_rfl)
   (OpenSpec.preRow_of_cond 8 hx (by kernel_rfl) (fun k hk => by cases hk) (by kernel_rfl) (by rw [MakeChecks.laidMetH_plain _ _ _ (by kernel_rfl)]; exact laidMet_laidAll _ (by kernel_rfl) (by kernel_rfl)))) ?_
 intro W base args ds gs before hval0 hW _ hcond hsz0 hL hsh _
 have hval : ∀ (j : Nat) t v, Tryd.f6.params[j]? = some t → args[j]? = some v → Value.okWide Tryd.prog W .any base t v := hval0
 have hsz : (DataW.weightsEach Tryd.prog (Tryd.f6.params.toList ++ Rows.valueNumbersSpec.plain.varTypes Tryd.prog) (ds ++ gs)).all (· ≤ reachBytes) = true := hsz0
 have hW' := hW
 obtain ⟨p, q, hA0, hV, rfl, hfz, hnd⟩ := hW
 have hA : DataW.TrodAll enc Tryd.prog W 0 (fun _ => true) true Tryd.f6.params.toList args.toList ds p := hA0
 rw [Tryd.params6] at hA hval hsz
 obtain ⟨v0, vs0, d0, ds0, p0, q0, hargs, rfl, rfl, h0, r0⟩ := trodAll_cons hA
 obtain ⟨v1, vs1, d1, ds1, p1, q1, rfl, rfl, rfl, h1, r1⟩ := trodAll_cons r0
 obtain ⟨rfl, rfl, rfl⟩ := trodAll_nil r1
 obtain rfl : args = #[v0, v1] := by cases args; simp_all
 obtain ⟨rfl, rfl⟩ := trodVars_none hV
 have lt0 : ∀ x ∈ p0, x.block < W.heap.size := by obtain ⟨m, hm⟩ := h0; exact DataW.trod_lt m _ _ _ hm
 have lt1 : ∀ x ∈ p1, x.block < W.heap.size := by obtain ⟨m, hm⟩ := h1; exact DataW.trod_lt m _ _ _ hm
 obtain ⟨a0, V0, k0⟩ := Lv.sdArg laws sd22 h0 (.inr fun a => ⟨rfl, fun cs e => by obtain ⟨x, e'⟩ := okWide_int u22 (hval 0 22 v0 rfl rfl); rw [e'] at e; cases e⟩) (good_of hsz (j := 0) (t := 22) rfl rfl)
 obtain ⟨a1, V1, k1⟩ := Lv.sdArg laws sd22 h1 (.inr fun a => ⟨rfl, fun cs e => by obtain ⟨x, e'⟩ := okWide_int u22 (hval 1 22 v1 rfl rfl); rw [e'] at e; cases e⟩) (good_of hsz (j := 1) (t := 22) rfl rfl)
 clear hA0 hval0 hsz0
 have hT := tabs_of hL (.tail _ (.tail _ (.tail _ (.tail _ (.tail _ (.tail _ (first_eq ▸ .head _))))))) (.tail _ (.tail _ (.tail _ (accept_eq ▸ .head _)))) (by kernel_rfl)
 have hp := pow_of hL (.tail _ (.tail _ (.head _))) (by kernel_rfl)
 refine (valueNumbers_calls W a0 a1 k0 k1 _ hT hp (Lv.vrs_cons V0 (Lv.vrs_cons V1 Lv.vrs_nil))).mono fun e W' ⟨he, bel⟩ => ?_
 subst he
 exact ⟨_, rfl, _, _, _, [], _, [], hW', trodAll_mk1 (shut_bool u4 _), (trodAll_cons_mk (Below.trod laidOut (by kernel_rfl) (of_decide_eq_true (by kernel_rfl)) h0 bel lt0) (trodAll_cons_mk (Below.trod laidOut (by kernel_rfl) (of_decide_eq_true (by kernel_rfl)) h1 bel lt1) trodAll_mk0)), rfl, bel.frame _, fun h => by cases h⟩
theorem valueNumbers_said : Rows.ValueNumbersSaid :=
 OpenClaim.holds_of_cond 6 Tryd.f6 rfl rfl rfl rfl rfl rfl rfl ⟨rfl, rfl, rfl, rfl, rfl⟩ rfl rfl rfl rfl rfl (by kernel_rfl) Tryd.func6 (by kernel_rfl)
  (of_decide_eq_true (by kernel_rfl)) (by unfold Func.isWrapper; first | (rw [if_pos (by decide +kernel)]; kernel_rfl) | (rw [if_neg (by decide +kernel)]; exact ⟨rfl, rfl⟩))
  (fun os started H enc _ F => by rw [OpenClaim.pre_eq_preRow]; exact valueNumbers_lifted os started H enc F)
theorem valueNumbers_card : Rows.ValueNumbersCardSaid :=
 Claim7.holds_tied_plain_at .later [] _ _ _ _ valueNumbers_said (fun _ h => by cases h) (by kernel_rfl) (fun _ h => by cases h) valueNumbers_row_tie rfl ⟨rfl, rfl⟩ (by kernel_rfl) rfl
  (fun f fn hf hfn => by
   obtain rfl : f = 6 := Option.some.inj ((show Tryd.prog.funcNamed "granary/granarylaw06.ValueNumbers" = some 6 by kernel_rfl).symm.trans hf) |>.symm
   obtain rfl : fn = Tryd.f6 := (Option.some.inj (Tryd.func6.symm.trans hfn)).symm
   exact ⟨by kernel_rfl, fun j t ht => by
    rw [Tryd.params6] at ht
    have hm : t ∈ [22, 22] := by simpa using Array.mem_of_getElem? ht
    have hall : ([22, 22].all fun u => !Tryd.prog.wantsStandIn u) = true := by kernel_rfl
    exact (show Tryd.prog.wantsStandIn t = false by simpa using List.all_eq_true.1 hall t hm)⟩)
  (by kernel_rfl)
#print axioms valueNumbers_said
#print axioms valueNumbers_card
end Go.Proofs.YtihhhgaaagefgaaDoor
