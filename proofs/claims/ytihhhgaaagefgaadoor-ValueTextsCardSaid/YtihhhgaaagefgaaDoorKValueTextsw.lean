/- The law ValueTexts of the seat: for every arguments it returns true, and memory reads as it did. No condition of its own. -/
import Derived.Test.YtihhhgaaagefgaaDoorKF
import Derived.Test.YtihhhgaaagefgaaDoorKValueTextsr
namespace Go.Proofs.YtihhhgaaagefgaaDoor
open Go.ChangeShapes Go.WideShapes Go.ChangeAt Go.RowKit
set_option linter.unusedVariables false
set_option linter.unusedSimpArgs false
set_option maxRecDepth 100000
theorem valueTexts_calls (W : World) (a0 : Lv.ApiValue) (a1 : List UInt8) (k0 : (Lv.okApiValue 140737488351232 a0)) (k1 : (a1.length ≤ 140737488351232)) (cargs : Array Value)
  (hT : Go.Lib.Utf8Tabs (Tryd.laysValid_ren.g 3) (Tryd.laysValid_ren.g 4) W) (hp : Go.Proofs.Pow10 W) (hE4 : ∃ tp p, W.cell? ⟨4, 0, none⟩ = some (.iface tp p)) (hE5 : ∃ tp p, W.cell? ⟨5, 0, none⟩ = some (.iface tp p))
  (hv : Lv.VRs (fun a => W.cell? a) (fun _ => none) [.d (Lv.eApiValue a0), .d (Lv.eS a1)] cargs) :
  Calls Tryd.prog 3 cargs W fun e W' => e = .returned (.bool true) ∧ Below W.heap.size W W' :=
 @Lv.calls_of_callAt (mkTab W) Tryd.prog 3 _ _ _ _ (@Lv.law06_ValueTexts_ok (mkTab W) (tabOk hT hp hE4 hE5) a0 a1 true (@Lv.ValueTexts_true (mkTab W) a0 a1 (Nat.lt_of_le_of_lt k0.2.2.1 (by decide)) (Nat.lt_of_le_of_lt k1 (by decide)))) rfl W (fun _ _ h => h) hv
theorem valueTexts_reads (os : Os) {H : Type} (enc : TypeId × Value → H) : ∃ places, DataW.whole enc Tryd.prog ((World.laidAll Tryd.prog os Rows.valueTextsRow.laid).forCall (fun _ _ => 0) ⟨#[], #[.agg #[.int .i64 0, .int .u64 0, .string ⟨#[]⟩], .string ⟨#[]⟩], []⟩).memory Tryd.f3.params.toList Rows.valueTextsSpec.vars false #[Value.agg #[.int .i64 0, .int .u64 0, .string ⟨#[]⟩], .string ⟨#[]⟩].toList 8 = some ([.agg [.lit (.int .i64 0), .lit (.int .u64 0), .lit (.string [])], .lit (.string [])], [], places) :=
 ⟨[], by kernel_rfl⟩
theorem valueTexts_lifted (os : Os) (started : os.Started) (H : Type) (enc : TypeId × Value → H) (F : Stop.Interp) :
  ReturnsInHanded {} Tryd.checked os 3 .any ((OpenSpec.ofChange Rows.valueTextsSpec).preRow enc Tryd.prog Tryd.f3 Rows.valueTextsRow.domain false Rows.valueTextsRow.laid) (((OpenSpec.ofChange Rows.valueTextsSpec).at F).post enc Tryd.prog Tryd.f3 false true false false) := by
 obtain ⟨places, hx⟩ := valueTexts_reads os enc
 refine returnsInHanded_of_row (C := Tryd.checked) (s := OpenSpec.ofChange Rows.valueTextsSpec) own started (by kernel_rfl) Tryd.func3
  (witness_row_at (enc := enc) (C := Tryd.checked) false (World.laidAll Tryd.prog os Rows.valueTextsRow.laid) #[.agg #[.int .i64 0, .int .u64 0, .string ⟨#[]⟩], .string ⟨#[]⟩] (World.laidAll_os _ _ _) (by kernel_rfl) (by kernel_rfl) (by kernel_rfl)
   (OpenSpec.preRow_of_cond 8 hx (by kernel_rfl) (fun k hk => by cases hk) (by kernel_rfl) (by rw [MakeChecks.laidMetH_plain _ _ _ (by kernel_rfl)]; exact laidMet_laidAll _ (by kernel_rfl) (by kernel_rfl)))) ?_
 intro W base args ds gs before hval0 hW _ hcond hsz0 hL hsh _
 have hval : ∀ (j : Nat) t v, Tryd.f3.params[j]? = some t → args[j]? = some v → Value.okWide Tryd.prog W .any base t v := hval0
 have hsz : (DataW.weightsEach Tryd.prog (Tryd.f3.params.toList ++ Rows.valueTextsSpec.plain.varTypes Tryd.prog) (ds ++ gs)).all (· ≤ reachBytes) = true := hsz0
 have hW' := hW
 obtain ⟨p, q, hA0, hV, rfl, hfz, hnd⟩ := hW
 have hA : DataW.TrodAll enc Tryd.prog W 0 (fun _ => true) true Tryd.f3.params.toList args.toList ds p := hA0
 rw [Tryd.params3] at hA hval hsz
 obtain ⟨v0, vs0, d0, ds0, p0, q0, hargs, rfl, rfl, h0, r0⟩ := trodAll_cons hA
 obtain ⟨v1, vs1, d1, ds1, p1, q1, rfl, rfl, rfl, h1, r1⟩ := trodAll_cons r0
 obtain ⟨rfl, rfl, rfl⟩ := trodAll_nil r1
 obtain rfl : args = #[v0, v1] := by cases args; simp_all
 obtain ⟨rfl, rfl⟩ := trodVars_none hV
 have lt0 : ∀ x ∈ p0, x.block < W.heap.size := by obtain ⟨m, hm⟩ := h0; exact DataW.trod_lt m _ _ _ hm
 have lt1 : ∀ x ∈ p1, x.block < W.heap.size := by obtain ⟨m, hm⟩ := h1; exact DataW.trod_lt m _ _ _ hm
 obtain ⟨a0, V0, k0⟩ := Lv.sdArg laws sd24 h0 (.inl fun a => ⟨rfl, by obtain ⟨cs, e, _⟩ := okWide_struct u24 (hval 0 24 v0 rfl rfl); exact ⟨cs, e⟩⟩) (good_of hsz (j := 0) (t := 24) rfl rfl)
 obtain ⟨a1, V1, k1⟩ := Lv.sdArg laws sd9 h1 (.inr fun a => ⟨rfl, fun cs e => by obtain ⟨x, e'⟩ := okWide_string u9 (hval 1 9 v1 rfl rfl); rw [e'] at e; cases e⟩) (good_of hsz (j := 1) (t := 9) rfl rfl)
 clear hA0 hval0 hsz0
 have hT := tabs_of hL (.tail _ (.tail _ (.tail _ (.tail _ (.tail _ (.tail _ (first_eq ▸ .head _))))))) (.tail _ (.tail _ (.tail _ (accept_eq ▸ .head _)))) (by kernel_rfl)
 have hp := pow_of hL (.tail _ (.tail _ (.head _))) (by kernel_rfl)
 have hE4 := iface_at hL (by kernel_rfl) (g := 4) (ti := 61) (.tail _ (.tail _ (.tail _ (.tail _ (.tail _ (.head _)))))) (by kernel_rfl) (by kernel_rfl) (by kernel_rfl)
 have hE5 := iface_at hL (by kernel_rfl) (g := 5) (ti := 61) (.tail _ (.tail _ (.tail _ (.tail _ (.head _))))) (by kernel_rfl) (by kernel_rfl) (by kernel_rfl)
 refine (valueTexts_calls W a0 a1 k0 k1 _ hT hp hE4 hE5 (Lv.vrs_cons V0 (Lv.vrs_cons V1 Lv.vrs_nil))).mono fun e W' ⟨he, bel⟩ => ?_
 subst he
 exact ⟨_, rfl, _, _, _, [], _, [], hW', trodAll_mk1 (shut_bool u4 _), (trodAll_cons_mk (Below.trod laidOut (by kernel_rfl) (of_decide_eq_true (by kernel_rfl)) h0 bel lt0) (trodAll_cons_mk (Below.trod laidOut (by kernel_rfl) (of_decide_eq_true (by kernel_rfl)) h1 bel lt1) trodAll_mk0)), rfl, bel.frame _, fun h => by cases h⟩
theorem valueTexts_said : Rows.ValueTextsSaid :=
 OpenClaim.holds_of_cond 3 Tryd.f3 rfl rfl rfl rfl rfl rfl rfl ⟨rfl, rfl, rfl, rfl, rfl⟩ rfl rfl rfl rfl rfl (by kernel_rfl) Tryd.func3 (by kernel_rfl)
  (of_decide_eq_true (by kernel_rfl)) (by unfold Func.isWrapper; first | (rw [if_pos (by decide +kernel)]; kernel_rfl) | (rw [if_neg (by decide +kernel)]; exact ⟨rfl, rfl⟩))
  (fun os started H enc _ F => by rw [OpenClaim.pre_eq_preRow]; exact valueTexts_lifted os started H enc F)
theorem valueTexts_card : Rows.ValueTextsCardSaid :=
 Claim7.holds_tied_plain_at .later [] _ _ _ _ valueTexts_said (fun _ h => by cases h) (by kernel_rfl) (fun _ h => by cases h) valueTexts_row_tie rfl ⟨rfl, rfl⟩ (by kernel_rfl) rfl
  (fun f fn hf hfn => by
   obtain rfl : f = 3 := Option.some.inj ((show Tryd.prog.funcNamed "granary/granarylaw06.ValueTexts" = some 3 by kernel_rfl).symm.trans hf) |>.symm
   obtain rfl : fn = Tryd.f3 := (Option.some.inj (Tryd.func3.symm.trans hfn)).symm
   exact ⟨by kernel_rfl, fun j t ht => by
    rw [Tryd.params3] at ht
    have hm : t ∈ [24, 9] := by simpa using Array.mem_of_getElem? ht
    have hall : ([24, 9].all fun u => !Tryd.prog.wantsStandIn u) = true := by kernel_rfl
    exact (show Tryd.prog.wantsStandIn t = false by simpa using List.all_eq_true.1 hall t hm)⟩)
  (by kernel_rfl)
#print axioms valueTexts_said
#print axioms valueTexts_card
end Go.Proofs.YtihhhgaaagefgaaDoor
