/- The law KeySpans of the seat: for every two spans and two texts it returns true, and memory reads as it did. No condition. -/
import Derived.Test.YtnlnojicpchmiaaDoorLvKS4
import Derived.Test.YtnlnojicpchmiaaDoorRows
import Derived.Test.YtnlnojicpchmiaaDoorTie
import Derived.Test.YtnlnojicpchmiaaDoorCards
import Derived.WalkKit
import Derived.ProofKit
import Derived.OpenShut
import Derived.ShutString
import Derived.ChangeOld
import Derived.Below
import Derived.SizedLaws
import Derived.LaidMore
import Derived.Lay
import Derived.SevenTiedAt
import Derived.Stop.Joined
namespace Go.Proofs.YtnlnojicpchmiaaDoor
open Go.ChangeShapes Go.WideShapes Go.ChangeAt Go.RowKit
set_option linter.unusedVariables false
set_option linter.unusedSimpArgs false
open Go.ChangeMaps (open_string shut_string)
theorem own : ownKnob Tryd.prog.godebug = none := by kernel_rfl

theorem laidOut : laidOutB Tryd.prog = true := by kernel_rfl
theorem keySpans_calls (alo ahi blo bhi s k : ByteArray) (aop bop : Bool) (W : World) (hs : s.size ≤ 140737488351232) (hk : k.size ≤ 140737488351232) :
    Calls Tryd.prog 6 #[.agg #[.string alo, .string ahi, .bool aop], .agg #[.string blo, .string bhi, .bool bop], .string s, .string k] W fun e W' => e = .returned (.bool true) ∧ Below W.heap.size W W' := by
  refine Lv.calls_of_ev W (Lv.law_KeySpans alo ahi blo bhi s k aop bop hs hk) rfl ⟨rfl, fun i x v hx hv => ?_⟩
  match i, hx, hv with
  | 0, hx, hv => simp at hx hv; subst hx; subst hv; exact Lv.VR_of rfl
  | 1, hx, hv => simp at hx hv; subst hx; subst hv; exact Lv.VR_of rfl
  | 2, hx, hv => simp at hx hv; subst hx; subst hv; exact Lv.VR_of rfl
  | 3, hx, hv => simp at hx hv; subst hx; subst hv; exact Lv.VR_of rfl
  | n + 4, hx, hv => simp at hx

set_option maxRecDepth 100000 in
theorem read_span {H : Type} {enc : TypeId × Value → H} {W : World} {b0 b1 : Nat} {sp : Nat → Bool} {held : Bool} {v : Value} {d : DataW H} {p : List MemPlace} (hval : Value.okWide Tryd.prog W .any b1 38 v) (h : DataW.Trod enc Tryd.prog W b0 sp held 38 v d p) :
    ∃ lo hi op, v = .agg #[.string lo, .string hi, .bool op] := by
  obtain ⟨cs, rfl, hsz⟩ := okWide_struct Lv.un38 hval
  obtain ⟨fuel, hf⟩ := h
  obtain ⟨xs, n, _, hx, hl, hlen, hfield⟩ := DataW.trod_struct Lv.un38 hf
  have c9 : Tryd.prog.cellsOf 9 = 1 := by kernel_rfl
  have c4 : Tryd.prog.cellsOf 4 = 1 := by kernel_rfl
  have c38 : Tryd.prog.cellsOf 38 = 3 := by kernel_rfl
  rw [c38] at hsz
  obtain ⟨l⟩ := cs
  match l, hsz with
  | [x0, x1, x2], _ =>
    match xs, hlen with
    | [y0, y1, y2], _ =>
      have h0 : DataW.trod enc Tryd.prog W b0 sp held n 9 ((([x0, x1, x2] : List Value).drop 0).take (Tryd.prog.cellsOf 9)) = some y0 := hfield 0 _ rfl
      have h1 : DataW.trod enc Tryd.prog W b0 sp held n 9 ((([x0, x1, x2] : List Value).drop 1).take (Tryd.prog.cellsOf 9)) = some y1 := hfield 1 _ rfl
      have h2 : DataW.trod enc Tryd.prog W b0 sp held n 4 ((([x0, x1, x2] : List Value).drop 2).take (Tryd.prog.cellsOf 4)) = some y2 := hfield 2 _ rfl
      rw [c9] at h0 h1
      rw [c4] at h2
      obtain ⟨s0, e0, _⟩ := DataW.trod_string Lv.un9 (show DataW.trod enc Tryd.prog W b0 sp held n 9 [x0] = some y0 from h0)
      obtain ⟨s1, e1, _⟩ := DataW.trod_string Lv.un9 (show DataW.trod enc Tryd.prog W b0 sp held n 9 [x1] = some y1 from h1)
      obtain ⟨s2, e2, _⟩ := DataW.trod_bool Lv.un4 (show DataW.trod enc Tryd.prog W b0 sp held n 4 [x2] = some y2 from h2)
      simp only [List.cons.injEq, and_true] at e0 e1 e2
      subst e0; subst e1; subst e2
      exact ⟨s0, s1, s2, rfl⟩

set_option maxRecDepth 100000 in
theorem keySpans_lifted (os : Os) (started : os.Started) (H : Type) (enc : TypeId × Value → H) :
    ReturnsInHanded {} Tryd.checked os 6 .any (fun w args => (Rows.keySpansSpec.pre enc Tryd.prog Tryd.f6 Rows.keySpansRow.domain false w args ∧ laidMetH Tryd.prog Rows.keySpansRow.laid w) ∧ sizedMet enc Tryd.prog Tryd.f6 (OpenSpec.ofChange Rows.keySpansSpec) false w args)
      (Rows.keySpansSpec.post enc Tryd.prog Tryd.f6 false true false false) := by
  refine returnsInHanded_of_change_and (C := Tryd.checked) (X := fun w _ => laidMetH Tryd.prog Rows.keySpansRow.laid w) (fun _ _ _ hh h => h.of_heap hh) own started (by kernel_rfl) Tryd.func6
    (ChangeSpec.witness_shaped (enc := enc) (C := Tryd.checked) (os := os) (X := fun w _ => laidMetH Tryd.prog Rows.keySpansRow.laid w) false (World.laidAll Tryd.prog os Rows.keySpansRow.laid) #[.agg #[.string ByteArray.empty, .string ByteArray.empty, .bool false], .agg #[.string ByteArray.empty, .string ByteArray.empty, .bool false], .string ByteArray.empty, .string ByteArray.empty] 8 (World.laidAll_os _ _ _)
      (World.shaped_of_ZipB (by kernel_rfl) (by kernel_rfl)) (by kernel_rfl) (by kernel_rfl) (by kernel_rfl)
      (by rw [MakeChecks.laidMetH_plain _ _ _ (by kernel_rfl)]; exact laidMet_laidAll _ (by kernel_rfl) (by kernel_rfl))) ?_
  intro W base args ds gs before hval0 hW hc hsz0 hL _
  have hsz : (DataW.weightsEach Tryd.prog (Tryd.f6.params.toList ++ Rows.keySpansSpec.plain.varTypes Tryd.prog) (ds ++ gs)).all (· ≤ reachBytes) = true := hsz0
  have hval : ∀ (j : Nat) t v, Tryd.f6.params[j]? = some t → args[j]? = some v → Value.okWide Tryd.prog W .any base t v := hval0
  have hW' := hW
  obtain ⟨p, q, hA0, hV, rfl, hfz, hnd⟩ := hW
  have hA : DataW.TrodAll enc Tryd.prog W 0 (fun _ => true) true Tryd.f6.params.toList args.toList ds p := hA0
  rw [Tryd.params6] at hA hval hsz
  obtain ⟨v0, vs0, d0, ds0, p0, q0, hargs, rfl, rfl, h0, r0⟩ := trodAll_cons hA
  obtain ⟨v1, vs1, d1, ds1, p1, q1, rfl, rfl, rfl, h1, r1⟩ := trodAll_cons r0
  obtain ⟨v2, vs2, d2, ds2, p2, q2, rfl, rfl, rfl, h2, r2⟩ := trodAll_cons r1
  obtain ⟨v3, vs3, d3, ds3, p3, q3, rfl, rfl, rfl, h3, r3⟩ := trodAll_cons r2
  obtain ⟨rfl, rfl, rfl⟩ := trodAll_nil r3
  obtain rfl : args = #[v0, v1, v2, v3] := by cases args; simp_all
  obtain ⟨rfl, rfl⟩ := trodVars_none hV
  have k0 := h0
  have k1 := h1
  have lt0 : ∀ x ∈ p0, x.block < W.heap.size := by obtain ⟨m, hm⟩ := k0; exact DataW.trod_lt m _ _ _ hm
  have lt1 : ∀ x ∈ p1, x.block < W.heap.size := by obtain ⟨m, hm⟩ := k1; exact DataW.trod_lt m _ _ _ hm
  obtain ⟨alo, ahi, aop, rfl⟩ := read_span (hval 0 38 v0 rfl rfl) h0
  obtain ⟨blo, bhi, bop, rfl⟩ := read_span (hval 1 38 v1 rfl rfl) h1
  obtain ⟨a2, rfl, rfl, rfl, y2⟩ := open_string Tryd.underlying9 (hval 2 9 v2 rfl rfl) h2
  obtain ⟨a3, rfl, rfl, rfl, y3⟩ := open_string Tryd.underlying9 (hval 3 9 v3 rfl rfl) h3
  have w2 : a2.size ≤ 140737488351232 := by
    have z := sized_string hsz (j := 2) (t := 9) rfl rfl
    rw [Array.length_toList] at z
    exact z
  have w3 : a3.size ≤ 140737488351232 := by
    have z := sized_string hsz (j := 3) (t := 9) rfl rfl
    rw [Array.length_toList] at z
    exact z
  clear hA0 hval0 hsz0 hsz
  refine (keySpans_calls alo ahi blo bhi a2 a3 aop bop W w2 w3).mono fun e W' ⟨he, bel⟩ => ?_
  subst he
  exact ⟨_, rfl, _, _, _, [], _, [], hW', trodAll_mk1 (shut_bool Tryd.underlying4 _), (trodAll_cons_mk (Below.trod laidOut (by kernel_rfl) (of_decide_eq_true (by kernel_rfl)) k0 bel lt0) (trodAll_cons_mk (Below.trod laidOut (by kernel_rfl) (of_decide_eq_true (by kernel_rfl)) k1 bel lt1) (trodAll_cons_mk (shut_string Tryd.underlying9 y2) (trodAll_cons_mk (shut_string Tryd.underlying9 y3) trodAll_mk0)))), rfl, bel.frame _, fun h => by cases h⟩

theorem keySpans_holds : Rows.KeySpansSaid :=
  OpenClaim.holds_of_wide 6 Tryd.f6 rfl rfl rfl rfl rfl rfl rfl ⟨rfl, rfl, rfl, rfl, rfl⟩ rfl rfl rfl rfl rfl (by kernel_rfl) Tryd.func6 (by kernel_rfl)
    (of_decide_eq_true (by kernel_rfl)) (by unfold Func.isWrapper; first | (rw [if_pos (by decide +kernel)]; kernel_rfl) | (rw [if_neg (by decide +kernel)]; exact ⟨rfl, rfl⟩))
    (fun os started H enc _ => keySpans_lifted os started H enc)

theorem keySpans_card : Rows.KeySpansCardSaid :=
  Claim7.holds_tied_plain_at .later [] [.data, .pinned] true (true, "241fc335b01e2204cfdea6983aa5b77b6e432a9d54409f881f9152093d6dea3a") false keySpans_holds (fun _ h => by cases h) (by kernel_rfl) (fun _ h => by cases h) keySpans_row_tie rfl ⟨rfl, rfl⟩ (by kernel_rfl) rfl
    (fun f fn hf hfn => by
      obtain rfl : f = 6 := Option.some.inj ((show Tryd.prog.funcNamed "granary/granarylaw07.KeySpans" = some 6 by kernel_rfl).symm.trans hf) |>.symm
      obtain rfl : fn = Tryd.f6 := (Option.some.inj (Tryd.func6.symm.trans hfn)).symm
      exact ⟨by kernel_rfl, fun j t ht => by
        rw [Tryd.params6] at ht
        have hm : t ∈ [38, 38, 9, 9] := by simpa using Array.mem_of_getElem? ht
        have hall : ([38, 38, 9, 9].all fun u => !Tryd.prog.wantsStandIn u) = true := by kernel_rfl
        exact (show Tryd.prog.wantsStandIn t = false by simpa using List.all_eq_true.1 hall t hm)⟩)
    (by kernel_rfl)
#print axioms keySpans_holds
#print axioms keySpans_card
end Go.Proofs.YtnlnojicpchmiaaDoor
