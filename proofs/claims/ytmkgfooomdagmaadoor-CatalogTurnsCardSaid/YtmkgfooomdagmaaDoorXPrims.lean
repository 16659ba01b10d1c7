/- Part of the proof of a law: functions of the library, by their contracts. -/
import Derived.Test.YtmkgfooomdagmaaDoorXFacts
import Derived.Test.YtmkgfooomdagmaaDoorGwRead
import Derived.Test.YtmkgfooomdagmaaDoorGwSort
import Derived.Test.YtmkgfooomdagmaaDoorXShelf
namespace Lv
open Go Go.Proofs
set_option linter.unusedVariables false
set_option linter.unusedSimpArgs false
set_option linter.unusedSectionVars false
set_option maxRecDepth 100000
class TabOk [BaseTab] : Prop where
 tabs : ∀ w : World, (∀ a v, BaseTab.tab a = some v → w.cell? a = some v) → Go.Lib.Utf8Tabs (Tryd.laysValid_ren.g 3) (Tryd.laysValid_ren.g 4) w
variable [BaseTab] [TabOk]
omit [TabOk] in
theorem vals_args {ro : Ro} {μ : Mu} : ∀ (args : List AV) (vs : List Value) (cargs : Array Value), valsOf args = some vs → VRs ro μ args cargs → cargs = vs.toArray := by
 intro args
 induction args with
 | nil =>
  intro vs cargs h k
  simp only [valsOf, Option.some.injEq] at h
  subst h
  exact Array.eq_empty_of_size_eq_zero (by simpa using k.size)
 | cons x l ih =>
  intro vs cargs h k
  simp only [valsOf] at h
  split at h
  ·rename_i u us h1 h2
   simp only [Option.some.injEq] at h
   subst h
   obtain ⟨cs⟩ := cargs
   match cs, k.size with
   | c :: cs, hs =>
    have hc := VR_val (k.get 0 x c rfl rfl) h1
    have := ih us ⟨cs⟩ h2 ⟨by simpa using hs, fun i y z hy hz => k.get (i + 1) y z (by simpa using hy) (by simpa using hz)⟩
    have h5 : cs = us := congrArg Array.toList this
    rw [hc, h5]
  ·cases h
omit [TabOk] in
theorem CallAt.of_stays {P : Program} {f : FuncId} {args : List AV} {vs : List Value} {r : AV} {v : Value} (ha : valsOf args = some vs) (hy : ∀ (ro : Ro) (μ : Mu), VR ro μ r v) (h : ∀ w : World, Calls P f vs.toArray w (fun e w' => e = .returned v ∧ w' = w)) : CallAt P f args [] r [] := by
 intro ro μ w cargs g hdom hV
 obtain rfl := vals_args args vs cargs ha hV
 refine (h w).mono ?_
 rintro e w' ⟨rfl, rfl⟩
 exact ⟨v, ro, μ, rfl, hy _ _, g, (Ext.refl _ _ _ _).to0, hdom, fun _ _ => rfl⟩
def validF (s : List UInt8) : Option Bool := if s.length ≤ 9223372036854775807 then some (Go.Lib.validD s) else none
theorem valid_ok (s : List UInt8) (r : Bool) (h0 : validF s = some r) : CallAt Tryd.prog 103 [.d (eS s)] [] (.d (eB r)) [] := by
 unfold validF at h0
 split at h0
 ·rename_i hs
  have := Option.some.inj h0
  subst this
  refine CallAt.of_below (v := .bool (Go.Lib.validD s)) (vs := [.string ⟨s.toArray⟩]) rfl rfl fun w hw => ?_
  exact Any.utf8_ValidString Tryd.laysValid ⟨s.toArray⟩ w (by rw [ba_size]; exact hs) (TabOk.tabs w hw)
 ·cases h0
def cutF (s p : List UInt8) : Option (List UInt8 × Bool) := some (Go.Lib.trimPrefix s p, Go.Lib.hasPrefix s p)
omit [TabOk] in
theorem cut_ok (s p : List UInt8) (r : List UInt8 × Bool) (h0 : cutF s p = some r) : CallAt Tryd.prog 41 [.d (eS s), .d (eS p)] [] (.tuple [.d (eS r.1), .d (eB r.2)]) [] := by
 have := Option.some.inj h0
 subst this
 refine CallAt.of_stays (v := .tuple #[.string ⟨(Go.Lib.trimPrefix s p).toArray⟩, .bool (Go.Lib.hasPrefix s p)]) (vs := [.string ⟨s.toArray⟩, .string ⟨p.toArray⟩]) rfl (fun ro μ => ?_) fun w => Tryd.strings_CutPrefix ⟨s.toArray⟩ ⟨p.toArray⟩ w
 refine .tuple _ _ rfl fun i x v hx hv => ?_
 match i with
 | 0 => simp at hx hv; subst hx; subst hv; exact .d _ _ (.str _)
 | 1 => simp at hx hv; subst hx; subst hv; exact .d _ _ (.bool _)
 | (i + 2) => simp at hx
def sortF (l : List (List UInt8)) : Option (List (List UInt8)) := if l.length < 4611686018427387904 then some (l.mergeSort fun x y => decide (x ≤ y)) else none
omit [TabOk] in
theorem sort_ok (l : List (List UInt8)) (r : List (List UInt8)) (h0 : sortF l = some r) : CallAt Tryd.prog 16 [.slc 0 1 0 l.length none] [.row 1 (l.map fun s => eS s) true] (.tuple []) [.row 1 (r.map fun s => eS s) true] := by
 unfold sortF at h0
 split at h0
 ·rename_i hs
  have := Option.some.inj h0
  subst this
  refine CallAt.inRow (R := fun _ _ => .tuple #[]) (List.length_mergeSort _) (fun ro μ a c _ => .tuple [] #[] rfl (fun i x v hx => by simp at hx)) (fun blk off cap w _ hH hb _ => Tryd.slices_Sort_string blk off cap l w hH hb hs) (fun a cap w _ => Tryd.slices_Sort_string_none a cap w)
 ·cases h0
def compactF (l : List (List UInt8)) (o n : Nat) : Option (List (List UInt8)) := if o = 0 ∧ n = l.length ∧ l.length ≤ 9223372036854775807 then some (Go.Lib.compact l) else none
omit [TabOk] in
theorem compact_short (l : List (List UInt8)) : (Go.Lib.compact l).length ≤ l.length := by
 unfold Go.Lib.compact Go.Lib.compactUpTo
 rw [List.length_map]
 exact Nat.le_trans (List.length_filter_le _ _) (by simp)
omit [TabOk] in
theorem compact_ok (l : List (List UInt8)) (o n : Nat) (r : List (List UInt8)) (h0 : compactF l o n = some r) : CallAt Tryd.prog 17 [.slc 0 1 o n none] [.row 1 (l.map fun s => eS s) true] (.d (eL 1 (fun s => eS s) r)) [.row 1 ((r ++ List.replicate (l.length - r.length) []).map fun s => eS s) false] := by
 unfold compactF at h0
 split at h0
 ·rename_i hs
  obtain ⟨rfl, rfl, hs⟩ := hs
  have := Option.some.inj h0
  subst this
  have hc := compact_short l
  refine CallAt.frzR ?_ frz_front
  refine CallAt.inRow (R := fun a c => .slice a (Go.Lib.compact l).length c) (by simp; omega) (fun ro μ a c h => ?_) (fun blk off cap w _ hH hb hcap => (Tryd.slices_Compact_string blk off cap l w hH hs hcap).mono fun e w' ⟨h1, q, h2⟩ => ⟨h1, q, #[], by rw [h2]; exact (Go.Sort.grow_empty _).symm⟩) (fun a cap w e => by
   subst e
   exact Tryd.slices_Compact_string_empty a cap w)
  rcases VR_slc h with ⟨L, c', a', e, hL, hsz, hlc, hk, ha⟩ | ⟨hn, _, e⟩
  ·cases e
   exact .slc 0 1 0 _ none L _ _ hL hsz (by omega) hk ha
  ·simp only [Value.slice.injEq] at e
   obtain ⟨rfl, _, rfl⟩ := e
   have : (Go.Lib.compact l).length = 0 := by omega
   rw [this]
   exact .slcn 0 1 0
 ·cases h0
end Lv
