/- Arguments of plain data, read off memory. -/
import Derived.Test.YtddopjhkmkoicaaGreatDoorGwMore
import Derived.ChangeArms
import Derived.WideShapes
import Derived.Below
/- Arguments of plain data, read off memory. -/
namespace Lv
open Go
set_option linter.unusedVariables false
set_option linter.unusedSimpArgs false
set_option linter.unusedSectionVars false
section
variable [BaseTab]
theorem XV (w : World) (hb : ∀ a v, BaseTab.tab a = some v → w.cell? a = some v) : Good (fun a => w.cell? a) (fun _ => none) w (hp []) where
 vH a v h := h
 ob id := by simp [hp, OR]
 apart id id' L L' h := by simp [hp, Ob.wr] at h
 iN b h := by
  obtain ⟨id, L, h1, _⟩ := h
  simp [hp, Ob.wr] at h1
 base a v h := hb a v h
theorem calls_of_callAt {P : Program} {f : FuncId} {args : List AV} {y : D} {v : Value} {cargs : Array Value} (h : aL P f args [] (.d y) []) (hy : y.val = some v) (w : World) (hb : ∀ a v, BaseTab.tab a = some v → w.cell? a = some v) (ha : VRs (fun a => w.cell? a) (fun _ => none) args cargs) :
  Calls P f cargs w (fun e w' => e = .returned v ∧ RowKit.Below w.heap.size w w') := by
 refine (h _ _ w cargs (XV w hb) (fun id L h => by cases h) ha).mono ?_
 rintro e w' ⟨u, ro', μ', rfl, k1, k2, k3, k4, k5⟩
 refine ⟨by rw [fA k1 hy], ⟨k3.os, k3.tape, k3.output, k3.size, fun b hb => k3.frame b hb ?_⟩⟩
 rintro ⟨id, L, h1, _⟩
 simp [hp, Ob.wr] at h1
theorem aL.of_below {P : Program} {f : FuncId} {args : List AV} {vs : List Value} {y : D} {v : Value} (ha : qB args = some vs) (hy : lW v = some y) (h : ∀ w : World, (∀ a u, BaseTab.tab a = some u → w.cell? a = some u) → Calls P f vs.toArray w (fun e w' => e = .returned v ∧ RowKit.Below w.heap.size w w')) : aL P f args [] (.d y) [] := by
 intro ro μ w cargs g hdom hV
 have hargs : ∀ (args : List AV) (vs : List Value) (cargs : Array Value), qB args = some vs → VRs ro μ args cargs → cargs = vs.toArray := by
  intro args
  induction args with
  | nil =>
   intro vs cargs h k
   simp only [qB, Option.some.injEq] at h
   subst h
   exact Array.eq_empty_of_size_eq_zero (by simpa using k.size)
  | cons x l ih =>
   intro vs cargs h k
   simp only [qB] at h
   split at h
   ·rename_i u us h1 h2
    simp only [Option.some.injEq] at h
    subst h
    obtain ⟨cs⟩ := cargs
    match cs, k.size with
    | c :: cs, hs =>
     have hc := fA (k.get 0 x c rfl rfl) h1
     have := ih us ⟨cs⟩ h2 ⟨by simpa using hs, fun i y z hy hz => k.get (i + 1) y z (by simpa using hy) (by simpa using hz)⟩
     have h5 : cs = us := congrArg Array.toList this
     rw [hc, h5]
   ·cases h
 obtain rfl := hargs args vs cargs ha hV
 have Xl : ∀ a v, ro a = some v → a.block < w.heap.size := by
  intro a v h
  have := g.vH a v h
  rcases Nat.lt_or_ge a.block w.heap.size with k | k
  ·exact k
  ·simp [World.cell?, Array.getElem?_eq_none k] at this
 refine (h w (fun a u hu => g.vH a u (g.base a u hu))).mono ?_
 rintro e w' ⟨rfl, hb⟩
 refine ⟨v, ro, μ, rfl, NH hy, ⟨fun a v h => ?_, fun id => by simp [hp, OR], fun id id' L L' h => by simp [hp, Ob.wr] at h, fun b hb' => ?_, g.base⟩, ⟨fun _ _ h => h, fun _ _ h => .inl h, fun _ h => .inr h, fun _ h => .inr h, fun b hb' _ => hb.block b hb', hb.size, hb.os, hb.tape, hb.output⟩, hdom, fun _ _ => rfl⟩
 ·rw [mI (hb.block _ (Xl a v h))]; exact g.vH a v h
 ·obtain ⟨id, L, h1, _⟩ := hb'
  simp [hp, Ob.wr] at h1
end
structure BulkLaws {H : Type} (β : DataW H → Nat) : Prop where
 one : ∀ d, 1 ≤ β d
 str : ∀ bs : List UInt8, β (.lit (.string bs)) = bs.length + 1
 agg : ∀ ps : List (DataW H), (ps.map β).sum + 1 ≤ β (.agg ps)
 slice : ∀ es r : List (DataW H), (es.map β).sum + 1 ≤ β (.slice es r)
def kC (w : World) (cs : List Value) (off : Nat) (ds : List D) : Prop := ∀ (j : Nat) (c : D), ds[j]? = some c → ∃ v, cs[off + j]? = some v ∧ DR (fun q => w.cell? q) c v
theorem kC.append {w : World} {cs : List Value} {off : Nat} {ds es : List D} (h : kC w cs off ds) (k : kC w cs (off + ds.length) es) : kC w cs off (ds ++ es) := by
 intro j c hc
 rw [List.getElem?_append] at hc
 split at hc
 ·exact h j c hc
 ·obtain ⟨v, h1, h2⟩ := k _ c hc
  exact ⟨v, by rw [← h1]; congr 1; omega, h2⟩
theorem kC.part {w : World} {cs : List Value} {off sz : Nat} {ds : List D} (h : kC w ((cs.drop off).take sz) 0 ds) : kC w cs off ds := by
 intro j c hc
 obtain ⟨v, h1, h2⟩ := h j c hc
 rw [Nat.zero_add, List.getElem?_take] at h1
 split at h1
 ·rw [List.getElem?_drop] at h1; exact ⟨v, h1, h2⟩
 ·cases h1
section
variable {H : Type} {β : DataW H → Nat} {enc : TypeId × Value → H} {P : Program} {w : World} {t : TypeId} (B : BulkLaws β)
include B
omit B in
theorem vrs_cons {ro : Ro} {μ : Mu} {x : AV} {xs : List AV} {v : Value} {vs : List Value} (h : VR ro μ x v) (k : VRs ro μ xs vs.toArray) : VRs ro μ (x :: xs) (v :: vs).toArray := by
 refine ⟨by have := k.size; simp at this ⊢; omega, fun i y u hy hu => ?_⟩
 cases i with
 | zero => simp at hy hu; subst hy; subst hu; exact h
 | succ i => exact k.get i y u (by simpa using hy) (by simpa using hu)
end
theorem vrs_nil {ro : Ro} {μ : Mu} : VRs ro μ [] #[] := ⟨rfl, fun i x v h => by simp at h⟩
end Lv
