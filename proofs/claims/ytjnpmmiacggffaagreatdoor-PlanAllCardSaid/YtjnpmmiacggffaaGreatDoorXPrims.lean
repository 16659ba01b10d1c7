/- Part of the proof of a law: functions of the library, by their contracts; the fixed answers, reckoned. -/
import Derived.Test.YtjnpmmiacggffaaGreatDoorXFacts
import Derived.Test.YtjnpmmiacggffaaGreatDoorGwRead
import Derived.Test.YtjnpmmiacggffaaGreatDoorGwArr
import Derived.Test.YtjnpmmiacggffaaGreatDoorXShelf
namespace Lv
open Go Go.Proofs
set_option linter.unusedVariables false
set_option linter.unusedSimpArgs false
set_option linter.unusedSectionVars false
set_option maxRecDepth 100000
class uO [bJ] : Prop where
 tabs : ∀ w : World, (∀ a v, bJ.tab a = some v → w.cell? a = some v) → Go.Lib.Utf8Tabs (Tryz.laysValid_ren.g 3) (Tryz.laysValid_ren.g 4) w
 maxLen : ∃ m, bJ.tab ⟨2, 0, none⟩ = some (.int .i64 m)
variable [bJ] [uO]
def Ip (s : List UInt8) : Option Bool := if s.length ≤ 9223372036854775807 then some (Go.Lib.validD s) else none
theorem Vt (s : List UInt8) (r : Bool) (h0 : Ip s = some r) : aO Tryz.prog 104 [.d (eS s)] [] (.d (eB r)) [] := by
 unfold Ip at h0
 split at h0
 ·rename_i hs
  have := Option.some.inj h0
  subst this
  refine aO.of_below (v := .bool (Go.Lib.validD s)) (vs := [.string ⟨s.toArray⟩]) rfl rfl fun w hw => ?_
  exact Any.utf8_ValidString Tryz.laysValid ⟨s.toArray⟩ w (by rw [qQ]; exact hs) (uO.tabs w hw)
 ·cases h0
def IJ (s a b : List UInt8) : Option (List UInt8) := if s.length < 4294967281 ∧ 1 ≤ a.length ∧ s.length + Go.Lib.countB ⟨s.toArray⟩ ⟨a.toArray⟩ * b.length ≤ 140737488355328 then some (Go.Lib.replaceAll s a b) else none
theorem Zl (s a b : List UInt8) (r : List UInt8) (h0 : IJ s a b = some r) : aO Tryz.prog 142 [.d (eS s), .d (eS a), .d (eS b)] [] (.d (eS r)) [] := by
 unfold IJ at h0
 split at h0
 ·rename_i hs
  have := Option.some.inj h0
  subst this
  obtain ⟨m, hm⟩ := uO.maxLen
  refine aO.of_below (v := .string ⟨(Go.Lib.replaceAll s a b).toArray⟩) (vs := [.string ⟨s.toArray⟩, .string ⟨a.toArray⟩, .string ⟨b.toArray⟩]) rfl rfl fun w hw => ?_
  exact Tryz.strings_ReplaceAll ⟨s.toArray⟩ ⟨a.toArray⟩ ⟨b.toArray⟩ m w (by rw [qQ]; exact hs.1) (hw _ _ hm) (by rw [qQ]; exact hs.2.1) (by rw [qQ, qQ]; exact hs.2.2)
 ·cases h0
omit [bJ] [uO] in
theorem stays {P : Program} {f : FuncId} {a : Array Value} {v : Value} {w : World} (h : Calls P f a w fun e w' => e = .returned v ∧ w' = w) : Calls P f a w fun e w' => e = .returned v ∧ RowKit.Below w.heap.size w w' :=
 h.mono fun e w' ⟨h1, h2⟩ => ⟨h1, by rw [h2]; exact RowKit.Below.refl _ _⟩
def ap3 (a b : List UInt8) : Option Int := some (Go.Lib.compareBytes a b)
omit [uO] in
theorem ap2 (a b : List UInt8) (r : Int) (h0 : ap3 a b = some r) : aO Tryz.prog 152 [.d (eS a), .d (eS b)] [] (.d (eI r)) [] := by
 have := Option.some.inj h0
 subst this
 exact aO.of_below (v := .int .i64 (Go.Lib.compareBytes a b)) (vs := [.string ⟨a.toArray⟩, .string ⟨b.toArray⟩]) rfl rfl fun w hw => stays (Tryz.strings_Compare ⟨a.toArray⟩ ⟨b.toArray⟩ w)
def wB (l : List Int) : Option (List Int) := if l.length < 4611686018427387904 then some (l.mergeSort fun x y => decide (x ≤ y)) else none
omit [uO] in
theorem Jy (l : List Int) (r : List Int) (h0 : wB l = some r) : aO Tryz.prog 37 [.slc 0 1 0 l.length none] [.row 1 (l.map eI) true] (.tuple []) [.row 1 (r.map eI) true] := by
 unfold wB at h0
 split at h0
 ·rename_i hs
  have := Option.some.inj h0
  subst this
  refine aO.WA ahA (R := fun _ _ => .tuple #[]) (List.length_mergeSort _) (fun ro μ a c _ => .tuple [] #[] rfl (fun i x v hx => by simp at hx)) (fun blk off cap w _ hH hb _ => Tryz.slices_Sort_int blk off cap l w hH hb hs) (fun a cap w _ => Tryz.slices_Sort_int_none a cap w)
 ·cases h0
def jW (l : List Int) (o n : Nat) : Option (List Int) := if o = 0 ∧ n = l.length ∧ l.length ≤ 9223372036854775807 then some (Go.Lib.compact l) else none
omit [uO] in
theorem JB (l : List Int) : (Go.Lib.compact l).length ≤ l.length := by
 unfold Go.Lib.compact Go.Lib.compactUpTo
 rw [List.length_map]
 exact Nat.le_trans (List.length_filter_le _ _) (by simp)
omit [uO] in
theorem AO (l : List Int) (o n : Nat) (r : List Int) (h0 : jW l o n = some r) : aO Tryz.prog 38 [.slc 0 1 o n none] [.row 1 (l.map eI) true] (.d (eL 1 eI r)) [.row 1 ((r ++ List.replicate (l.length - r.length) (0 : Int)).map eI) false] := by
 unfold jW at h0
 split at h0
 ·rename_i hs
  obtain ⟨rfl, rfl, hs⟩ := hs
  have := Option.some.inj h0
  subst this
  have hc := JB l
  refine aO.apQ ?_ Ri
  refine aO.WA ahA (R := fun a c => .slice a (Go.Lib.compact l).length c) (by simp; omega) (fun ro μ a c h => ?_) (fun blk off cap w _ hH hb hcap => (Tryz.slices_Compact_int blk off cap l w hH hs hcap).mono fun e w' ⟨h1, q, h2⟩ => ⟨h1, q, #[], by rw [h2]; exact (Go.Sort.grow_empty _).symm⟩) (fun a cap w e => by
   subst e
   exact Tryz.slices_Compact_int_empty a cap w)
  rcases mW h with ⟨L, c', a', e, hL, hsz, hlc, hk, ha⟩ | ⟨hn, _, e⟩
  ·cases e
   exact .slc 0 1 0 _ none L _ _ hL hsz (by omega) hk ha
  ·simp only [Value.slice.injEq] at e
   obtain ⟨rfl, _, rfl⟩ := e
   have : (Go.Lib.compact l).length = 0 := by omega
   rw [this]
   exact .mg 0 1 0
 ·cases h0
end Lv
