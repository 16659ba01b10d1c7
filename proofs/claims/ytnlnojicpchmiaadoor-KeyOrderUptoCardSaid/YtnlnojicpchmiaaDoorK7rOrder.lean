/- The law KeyOrder of the seat: for every two lists of values, directions and a number of bulk at most 1048576 together it returns true, and memory reads as it did. Its condition: that bound. -/
import Derived.Test.YtnlnojicpchmiaaDoorK7x
import Derived.Test.YtnlnojicpchmiaaDoorK7r
namespace Go.Proofs.YtnlnojicpchmiaaDoor
open Go.ChangeShapes Go.WideShapes Go.ChangeAt Go.RowKit
set_option linter.unusedVariables false
set_option linter.unusedSimpArgs false
set_option maxRecDepth 100000

theorem keyOrder_calls (W : World) (a0 : List Lv.ApiValue) (a1 : List Lv.ApiValue) (a2 : List Bool) (a3 : Int) (cargs : Array Value) (h0 : Lv.Sm a0) (h1 : Lv.Sm a1) (h2 : ∀ v ∈ a0, -9223372036854775808 ≤ v.Kind ∧ v.Kind < 9223372036854775808) (h3 : ∀ v ∈ a1, -9223372036854775808 ≤ v.Kind ∧ v.Kind < 9223372036854775808) (h4 : -9223372036854775808 ≤ a3 ∧ a3 < 9223372036854775808)
    (hT : Go.Lib.Utf8Tabs (Tryd.laysValid_ren.g 3) (Tryd.laysValid_ren.g 4) W) (hm : ∃ m, W.cell? ⟨2, 0, none⟩ = some (.int .i64 m))
    (hv : Lv.VRs (fun a => W.cell? a) (fun _ => none) [.d (Lv.eL 3 Lv.eApiValue a0), .d (Lv.eL 3 Lv.eApiValue a1), .d (Lv.eL 1 Lv.eB a2), .d (Lv.eI a3)] cargs) :
    Calls Tryd.prog 8 cargs W fun e W' => e = .returned (.bool true) ∧ Below W.heap.size W W' :=
  @Lv.calls_of_callAt (mkTab W) Tryd.prog 8 _ _ _ _ (@Lv.law07_KeyOrder_ok (mkTab W) (tabOk hT hm) a0 a1 a2 a3 true (@Lv.KeyOrder_true (mkTab W) a0 a1 a2 a3 h0 h1 h2 h3 h4)) rfl W (fun _ _ h => h) hv

theorem keyOrder_reads (os : Os) {H : Type} (enc : TypeId × Value → H) : ∃ places, DataW.whole enc Tryd.prog ((World.laidAll Tryd.prog os Rows.keyOrderUptoRow.laid).forCall (fun _ _ => 0) ⟨#[], #[.slice none 0 0, .slice none 0 0, .slice none 0 0, .int .i64 0], []⟩).memory Tryd.f8.params.toList Rows.keyOrderSpec.vars false #[Value.slice none 0 0, .slice none 0 0, .slice none 0 0, .int .i64 0].toList 8 = some ([.nil, .nil, .nil, .lit (.int .i64 0)], [], places) :=
  ⟨[], by kernel_rfl⟩

theorem keyOrder_lifted (os : Os) (started : os.Started) (H : Type) (enc : TypeId × Value → H) (F : Stop.Interp) :
    ReturnsInHanded {} Tryd.checked os 8 .any ((Rows.OpenSpec.upto Rows.keyOrderSpec).preRow enc Tryd.prog Tryd.f8 Rows.keyOrderUptoRow.domain false Rows.keyOrderUptoRow.laid) (((Rows.OpenSpec.upto Rows.keyOrderSpec).at F).post enc Tryd.prog Tryd.f8 false true false false) := by
  obtain ⟨places, hx⟩ := keyOrder_reads os enc
  refine returnsInHanded_of_row (C := Tryd.checked) (s := Rows.OpenSpec.upto Rows.keyOrderSpec) own started (by kernel_rfl) Tryd.func8
    (witness_row_at (enc := enc) (C := Tryd.checked) false (World.laidAll Tryd.prog os Rows.keyOrderUptoRow.laid) #[.slice none 0 0, .slice none 0 0, .slice none 0 0, .int .i64 0] (World.laidAll_os _ _ _) (by kernel_rfl) (by kernel_rfl) (by kernel_rfl)
      (OpenSpec.preRow_of_cond 8 hx (by kernel_rfl) (fun k hk => by cases hk; kernel_rfl) (by kernel_rfl) (by rw [MakeChecks.laidMetH_plain _ _ _ (by kernel_rfl)]; exact laidMet_laidAll _ (by kernel_rfl) (by kernel_rfl)))) ?_
  intro W base args ds gs before hval0 hW _ hcond _ hL hsh _
  have hval : ∀ (j : Nat) t v, Tryd.f8.params[j]? = some t → args[j]? = some v → Value.okWide Tryd.prog W .any base t v := hval0
  have hW' := hW
  obtain ⟨p, q, hA0, hV, rfl, hfz, hnd⟩ := hW
  have hA : DataW.TrodAll enc Tryd.prog W 0 (fun _ => true) true Tryd.f8.params.toList args.toList ds p := hA0
  rw [Tryd.params8] at hA hval
  obtain ⟨v0, vs0, d0, ds0, p0, q0, hargs, rfl, rfl, h0, r0⟩ := trodAll_cons hA
  obtain ⟨v1, vs1, d1, ds1, p1, q1, rfl, rfl, rfl, h1, r1⟩ := trodAll_cons r0
  obtain ⟨v2, vs2, d2, ds2, p2, q2, rfl, rfl, rfl, h2, r2⟩ := trodAll_cons r1
  obtain ⟨v3, vs3, d3, ds3, p3, q3, rfl, rfl, rfl, h3, r3⟩ := trodAll_cons r2
  obtain ⟨rfl, rfl, rfl⟩ := trodAll_nil r3
  obtain rfl : args = #[v0, v1, v2, v3] := by cases args; simp_all
  obtain ⟨rfl, rfl⟩ := trodVars_none hV
  have hb : Rows.uptoBulkAll ([d0, d1, d2, d3] ++ []) ≤ 1048576 := of_decide_eq_true (hcond _ rfl)
  rw [bulkAll_sum] at hb
  simp only [List.append_nil, List.map_cons, List.map_nil, List.sum_cons, List.sum_nil] at hb
  have lt0 : ∀ x ∈ p0, x.block < W.heap.size := by obtain ⟨m, hm⟩ := h0; exact DataW.trod_lt m _ _ _ hm
  have lt1 : ∀ x ∈ p1, x.block < W.heap.size := by obtain ⟨m, hm⟩ := h1; exact DataW.trod_lt m _ _ _ hm
  have lt2 : ∀ x ∈ p2, x.block < W.heap.size := by obtain ⟨m, hm⟩ := h2; exact DataW.trod_lt m _ _ _ hm
  have lt3 : ∀ x ∈ p3, x.block < W.heap.size := by obtain ⟨m, hm⟩ := h3; exact DataW.trod_lt m _ _ _ hm
  obtain ⟨a0, V0, b0, k0⟩ := Lv.rdArg bulkLaws rd22 h0 (.inr fun a => ⟨rfl, fun cs e => by obtain ⟨x, y, z, e'⟩ := okWide_slice u22 (hval 0 22 v0 rfl rfl); rw [e'] at e; cases e⟩)
  obtain ⟨a1, V1, b1, k1⟩ := Lv.rdArg bulkLaws rd22 h1 (.inr fun a => ⟨rfl, fun cs e => by obtain ⟨x, y, z, e'⟩ := okWide_slice u22 (hval 1 22 v1 rfl rfl); rw [e'] at e; cases e⟩)
  obtain ⟨a2, V2, b2, k2⟩ := Lv.rdArg bulkLaws rd23 h2 (.inr fun a => ⟨rfl, fun cs e => by obtain ⟨x, y, z, e'⟩ := okWide_slice u23 (hval 2 23 v2 rfl rfl); rw [e'] at e; cases e⟩)
  obtain ⟨a3, V3, b3, k3⟩ := Lv.rdArg bulkLaws rd3 h3 (.inr fun a => ⟨rfl, fun cs e => by obtain ⟨x, e'⟩ := okWide_int u3 (hval 3 3 v3 rfl rfl); rw [e'] at e; cases e⟩)
  clear hA0 hval0
  have hT := tabs_of hL (.tail _ (first_eq ▸ .head _)) (accept_eq ▸ .head _) (by kernel_rfl)
  have hsm := sm_of (l := a0) (by omega)
  have hsm1 := sm_of (l := a1) (by omega)
  refine (keyOrder_calls W a0 a1 a2 a3 _ ⟨hsm.1, hsm.2⟩ ⟨hsm1.1, hsm1.2⟩ k0 k1 k3 hT (maxLen_of hsh) (Lv.vrs_cons V0 (Lv.vrs_cons V1 (Lv.vrs_cons V2 (Lv.vrs_cons V3 Lv.vrs_nil))))).mono fun e W' ⟨he, bel⟩ => ?_
  subst he
  exact ⟨_, rfl, _, _, _, [], _, [], hW', trodAll_mk1 (shut_bool u4 _), (trodAll_cons_mk (Below.trod laidOut (by kernel_rfl) (of_decide_eq_true (by kernel_rfl)) h0 bel lt0) (trodAll_cons_mk (Below.trod laidOut (by kernel_rfl) (of_decide_eq_true (by kernel_rfl)) h1 bel lt1) (trodAll_cons_mk (Below.trod laidOut (by kernel_rfl) (of_decide_eq_true (by kernel_rfl)) h2 bel lt2) (trodAll_cons_mk (Below.trod laidOut (by kernel_rfl) (of_decide_eq_true (by kernel_rfl)) h3 bel lt3) trodAll_mk0)))), rfl, bel.frame _, fun h => by cases h⟩

theorem keyOrder_said : Rows.KeyOrderUptoSaid :=
  OpenClaim.holds_of_cond 8 Tryd.f8 rfl rfl rfl rfl rfl rfl rfl ⟨rfl, rfl, rfl, rfl, rfl⟩ rfl rfl rfl rfl rfl (by kernel_rfl) Tryd.func8 (by kernel_rfl)
    (of_decide_eq_true (by kernel_rfl)) (by unfold Func.isWrapper; first | (rw [if_pos (by decide +kernel)]; kernel_rfl) | (rw [if_neg (by decide +kernel)]; exact ⟨rfl, rfl⟩))
    (fun os started H enc _ F => by rw [OpenClaim.pre_eq_preRow]; exact keyOrder_lifted os started H enc F)

theorem keyOrder_card : Rows.KeyOrderUptoCardSaid :=
  Claim7.holds_tied_plain_at .later [] _ _ _ _ keyOrder_said (fun _ h => by cases h) (by kernel_rfl) (fun _ h => by cases h) keyOrderUpto_row_tie rfl ⟨rfl, rfl⟩ (by kernel_rfl) rfl
    (fun f fn hf hfn => by
      obtain rfl : f = 8 := Option.some.inj ((show Tryd.prog.funcNamed "granary/granarylaw07.KeyOrder" = some 8 by kernel_rfl).symm.trans hf) |>.symm
      obtain rfl : fn = Tryd.f8 := (Option.some.inj (Tryd.func8.symm.trans hfn)).symm
      exact ⟨by kernel_rfl, fun j t ht => by
        rw [Tryd.params8] at ht
        have hm : t ∈ [22, 22, 23, 3] := by simpa using Array.mem_of_getElem? ht
        have hall : ([22, 22, 23, 3].all fun u => !Tryd.prog.wantsStandIn u) = true := by kernel_rfl
        exact (show Tryd.prog.wantsStandIn t = false by simpa using List.all_eq_true.1 hall t hm)⟩)
    (by kernel_rfl)
#print axioms keyOrder_said
#print axioms keyOrder_card
end Go.Proofs.YtnlnojicpchmiaaDoor
