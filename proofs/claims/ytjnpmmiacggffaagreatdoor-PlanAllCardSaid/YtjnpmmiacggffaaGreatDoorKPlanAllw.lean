/- The law PlanAll of the seat: for every arguments it returns true, and memory reads as it did. No condition of its own. -/
import Derived.Test.YtjnpmmiacggffaaGreatDoorKF
import Derived.Test.YtjnpmmiacggffaaGreatDoorKPlanAllr
namespace Go.Proofs.YtjnpmmiacggffaaGreatDoor
open Go.ChangeShapes Go.WideShapes Go.ChangeAt Go.RowKit
set_option linter.unusedVariables false
set_option linter.unusedSimpArgs false
set_option maxRecDepth 100000
theorem K5 (W : World) (a0 : Lv.aP) (a1 : Lv.bP) (k0 : (Lv.CZ 140737488351232 a0)) (k1 : (Lv.Au 140737488351232 a1)) (gF : Array Value)
  (hT : Go.Lib.Utf8Tabs (Tryz.laysValid_ren.g 3) (Tryz.laysValid_ren.g 4) W) (hm : ∃ m, W.cell? ⟨2, 0, none⟩ = some (.int .i64 m))
  (hv : Lv.oZ (fun a => W.cell? a) (fun _ => none) [.d (Lv.aK a0), .d (Lv.bY a1)] gF) :
  Calls Tryz.prog 3 gF W fun e W' => e = .returned (.bool true) ∧ Below W.heap.size W W' :=
 @Lv.Hw (Pz W) Tryz.prog 3 _ _ _ _ (@Lv.FL (Pz W) (ag5 hT hm) a0 a1 true (@Lv.Oh (Pz W) a0 a1 (Lv.ZA (by decide) k0) (Lv.ahB (by decide) k1) k1.2.2.1.1 k1.1.1)) rfl W (fun _ _ h => h) hv
theorem K4 (os : Os) {H : Type} (enc : TypeId × Value → H) : ∃ places, DataW.whole enc Tryz.prog ((World.laidAll Tryz.prog os Rows.planAllRow.laid).forCall (fun _ _ => 0) ⟨#[], #[.agg #[.string ⟨#[]⟩, .slice none 0 0, .slice none 0 0, .slice none 0 0, .int .i64 0], .agg #[.slice none 0 0, .slice none 0 0, .slice none 0 0, .int .i64 0]], []⟩).memory Tryz.f3.params.toList Rows.planAllSpec.vars false #[Value.agg #[.string ⟨#[]⟩, .slice none 0 0, .slice none 0 0, .slice none 0 0, .int .i64 0], .agg #[.slice none 0 0, .slice none 0 0, .slice none 0 0, .int .i64 0]].toList 8 = some ([.agg [.lit (.string []), .nil, .nil, .nil, .lit (.int .i64 0)], .agg [.nil, .nil, .nil, .lit (.int .i64 0)]], [], places) :=
 ⟨[], by kernel_rfl⟩
theorem Jg (os : Os) (started : os.Started) (H : Type) (enc : TypeId × Value → H) (F : Stop.Interp) :
  ReturnsInHanded {} Tryz.checked os 3 .any ((OpenSpec.ofChange Rows.planAllSpec).preRow enc Tryz.prog Tryz.f3 Rows.planAllRow.domain false Rows.planAllRow.laid) (((OpenSpec.ofChange Rows.planAllSpec).at F).post enc Tryz.prog Tryz.f3 false true false false) := by
 obtain ⟨places, hx⟩ := K4 os enc
 refine returnsInHanded_of_row (C := Tryz.checked) (s := OpenSpec.ofChange Rows.planAllSpec) own started (by kernel_rfl) Tryz.func3
  (witness_row_at (enc := enc) (C := Tryz.checked) false (World.laidAll Tryz.prog os Rows.planAllRow.laid) #[.agg #[.string ⟨#[]⟩, .slice none 0 0, .slice none 0 0, .slice none 0 0, .int .i64 0], .agg #[.slice none 0 0, .slice none 0 0, .slice none 0 0, .int .i64 0]] (World.laidAll_os _ _ _) (by kernel_rfl) (by kernel_rfl) (by kernel_rfl)
   (OpenSpec.preRow_of_cond 8 hx (by kernel_rfl) (fun k hk => by cases hk) (by kernel_rfl) (by rw [MakeChecks.laidMetH_plain _ _ _ (by kernel_rfl)]; exact laidMet_laidAll _ (by kernel_rfl) (by kernel_rfl)))) ?_
 intro W base args ds gs before hval0 hW _ hcond hsz0 hL hsh _
 have hval : ∀ (j : Nat) t v, Tryz.f3.params[j]? = some t → args[j]? = some v → Value.okWide Tryz.prog W .any base t v := hval0
 have hsz : (DataW.weightsEach Tryz.prog (Tryz.f3.params.toList ++ Rows.planAllSpec.plain.varTypes Tryz.prog) (ds ++ gs)).all (· ≤ reachBytes) = true := hsz0
 have hW' := hW
 obtain ⟨p, q, hA0, hV, rfl, hfz, hnd⟩ := hW
 have hA : DataW.TrodAll enc Tryz.prog W 0 (fun _ => true) true Tryz.f3.params.toList args.toList ds p := hA0
 rw [Tryz.params3] at hA hval hsz
 obtain ⟨v0, vs0, d0, ds0, p0, q0, hargs, rfl, rfl, h0, r0⟩ := trodAll_cons hA
 obtain ⟨v1, vs1, d1, ds1, p1, q1, rfl, rfl, rfl, h1, r1⟩ := trodAll_cons r0
 obtain ⟨rfl, rfl, rfl⟩ := trodAll_nil r1
 obtain rfl : args = #[v0, v1] := by cases args; simp_all
 obtain ⟨rfl, rfl⟩ := trodVars_none hV
 have lt0 : ∀ x ∈ p0, x.block < W.heap.size := by obtain ⟨m, hm⟩ := h0; exact DataW.trod_lt m _ _ _ hm
 have lt1 : ∀ x ∈ p1, x.block < W.heap.size := by obtain ⟨m, hm⟩ := h1; exact DataW.trod_lt m _ _ _ hm
 obtain ⟨a0, V0, k0⟩ := Lv.abk laws aoW h0 (.inl fun a => ⟨rfl, by obtain ⟨cs, e, _⟩ := okWide_struct u26 (hval 0 26 v0 rfl rfl); exact ⟨cs, e⟩⟩) (Td hsz (j := 0) (t := 26) rfl rfl)
 obtain ⟨a1, V1, k1⟩ := Lv.abk laws aoU h1 (.inl fun a => ⟨rfl, by obtain ⟨cs, e, _⟩ := okWide_struct u30 (hval 1 30 v1 rfl rfl); exact ⟨cs, e⟩⟩) (Td hsz (j := 1) (t := 30) rfl rfl)
 clear hA0 hval0 hsz0
 have hT := Ze hL (.tail _ (XU ▸ .head _)) (U5 ▸ .head _) (by kernel_rfl)
 refine (K5 W a0 a1 k0 k1 _ hT (Ul hsh) (Lv.OH V0 (Lv.OH V1 Lv.Y6))).mono fun e W' ⟨he, bel⟩ => ?_
 subst he
 exact ⟨_, rfl, _, _, _, [], _, [], hW', trodAll_mk1 (shut_bool u4 _), (trodAll_cons_mk (Below.trod laidOut (by kernel_rfl) (of_decide_eq_true (by kernel_rfl)) h0 bel lt0) (trodAll_cons_mk (Below.trod laidOut (by kernel_rfl) (of_decide_eq_true (by kernel_rfl)) h1 bel lt1) trodAll_mk0)), rfl, bel.frame _, fun h => by cases h⟩
theorem Ej : Rows.PlanAllSaid :=
 OpenClaim.holds_of_cond 3 Tryz.f3 rfl rfl rfl rfl rfl rfl rfl ⟨rfl, rfl, rfl, rfl, rfl⟩ rfl rfl rfl rfl rfl (by kernel_rfl) Tryz.func3 (by kernel_rfl)
  (of_decide_eq_true (by kernel_rfl)) (by unfold Func.isWrapper; first | (rw [if_pos (by decide +kernel)]; kernel_rfl) | (rw [if_neg (by decide +kernel)]; exact ⟨rfl, rfl⟩))
  (fun os started H enc _ F => by rw [OpenClaim.pre_eq_preRow]; exact Jg os started H enc F)
theorem planAll_card : Rows.PlanAllCardSaid :=
 Claim7.holds_tied_plain_at .later [] _ _ _ _ Ej (fun _ h => by cases h) (by kernel_rfl) (fun _ h => by cases h) planAll_row_tie rfl ⟨rfl, rfl⟩ (by kernel_rfl) rfl
  (fun f fn hf hfn => by
   obtain rfl : f = 3 := Option.some.inj ((show Tryz.prog.funcNamed "granary/granarylaw21.PlanAll" = some 3 by kernel_rfl).symm.trans hf) |>.symm
   obtain rfl : fn = Tryz.f3 := (Option.some.inj (Tryz.func3.symm.trans hfn)).symm
   exact ⟨by kernel_rfl, fun j t ht => by
    rw [Tryz.params3] at ht
    have hm : t ∈ [26, 30] := by simpa using Array.mem_of_getElem? ht
    have hall : ([26, 30].all fun u => !Tryz.prog.wantsStandIn u) = true := by kernel_rfl
    exact (show Tryz.prog.wantsStandIn t = false by simpa using List.all_eq_true.1 hall t hm)⟩)
  (by kernel_rfl)
#print axioms Ej
#print axioms planAll_card
end Go.Proofs.YtjnpmmiacggffaaGreatDoor
