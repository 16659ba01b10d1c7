/- slices.Sort and slices.Compact of strings: in their own memory. -/
import Derived.Test.YtjnpmmiacggffaaGreatDoorGwDel
import Derived.Sort.Grow
import Derived.Sort.EncStr
/- slices.Sort and slices.Compact of strings: in their own memory. -/
namespace Lv
open Go Go.Sort
set_option linter.unusedVariables false
set_option linter.unusedSimpArgs false
set_option linter.unusedSectionVars false
variable [bJ]
theorem Good.adp {ro : Ro} {μ : Mu} {w w' : World} {H : Hp} (g : Good ro μ w H) {n : Nat} {o : Ob} {L : Loc} (hH : (H n).wr = true) (hL : μ n = some L)
  (hb : ∀ b, b ≠ L.blk → b < w.heap.size → w'.heap[b]? = w.heap[b]?) (hs : w.heap.size ≤ w'.heap.size) (h1 : w'.os = w.os) (h2 : w'.tape = w.tape) (h3 : w'.output = w.output) (ho : OR ro μ w' n o) :
  Good ro μ w' (upd H n o) ∧ Ext ro μ w H ro μ w' (upd H n o) := by
 have hwb : WB H μ L.blk := ⟨n, L, hH, hL, rfl⟩
 have sub : ∀ i, (upd H n o i).wr = true → (H i).wr = true := by
  intro i hi
  unfold upd at hi
  split at hi
  ·rename_i e; subst e; exact hH
  ·exact hi
 have KL : ∀ i, (upd H n o i).live = true → (H i).live = true := by
  intro i hi
  unfold upd at hi
  split at hi
  ·rename_i e; subst e; exact Ob.fV hH
  ·exact hi
 refine ⟨⟨fun a v h => ?_, fun i => ?_, fun i i' L1 L2 k1 k2 k3 k4 k5 => g.apart i i' L1 L2 (sub i k1) (KL i' k2) k3 k4 k5, fun b' hb' a ha => ?_, g.base⟩, ⟨fun _ _ h => h, fun _ _ h => h, fun _ _ h => .inl h, fun b' hb' => ?_, fun b' hb' => ?_, fun b' hb' hn => ?_, hs, h1, h2, h3⟩⟩
 ·have : a.block ≠ L.blk := by
   intro e
   have := g.iJ _ hwb a e
   rw [this] at h; cases h
  have k := g.vU a v h
  have hlt : a.block < w.heap.size := by
   rcases Nat.lt_or_ge a.block w.heap.size with q | q
   ·exact q
   ·simp [World.cell?, Array.getElem?_eq_none q] at k
  rw [lG (hb _ this hlt)]; exact k
 ·by_cases e : i = n
  ·subst e; simp only [upd, if_true]; exact ho
  ·simp only [upd, e, if_false]
   by_cases hl : (H i).live = true
   ·refine (g.ob i).keep (fun _ _ h => h) (fun _ _ h => h) rfl (fun L' hL' => hb _ (fun e' => e (g.apart n i L L' hH hl hL hL' e'.symm).symm) ?_)
    exact (g.ob i).lt hl hL'
   ·have : H i = .dead := by cases e : H i <;> simp [e, Ob.live] at hl ⊢
    rw [this]; trivial
 ·obtain ⟨i, L1, k1, k2, rfl⟩ := hb'
  exact g.iJ _ ⟨i, L1, sub i k1, k2, rfl⟩ a ha
 ·obtain ⟨i, L1, k1, k2, rfl⟩ := hb'
  exact .inr ⟨i, L1, sub i k1, k2, rfl⟩
 ·obtain ⟨i, L1, k1, k2, rfl⟩ := hb'
  exact .inr ⟨i, L1, KL i k1, k2, rfl⟩
 ·exact hb b' (fun e => hn (e ▸ hwb)) hb'
theorem aO.apQ {P : Program} {f : FuncId} {args : List AV} {σ σ1 σ2 : List Ob} {x : AV} {y : D} (h : aO P f args σ x σ1) (k : Lv.mM σ1 x = some (y, σ2)) : aO P f args σ (.d y) σ2 := by
 intro ro μ w gF g hdom hV
 refine (h ro μ w gF g hdom hV).mono ?_
 rintro e w' ⟨v, ro', μ', he, hv, g', e', d', q'⟩
 obtain ⟨VZ, g2, e2, hd, _, hl⟩ := tC g' hv k
 exact ⟨v, VZ, μ', he, .d _ _ hd, g2, e'.trans e2.SA, fun id L hL => by rw [hl]; exact d' id L hL, q'⟩
theorem aO.ajy {P : Program} {f : FuncId} {args : List AV} {σ σ1 σ2 : List Ob} {cs : List AV} {ys : List D} (h : aO P f args σ (.agg cs) σ1) (k : Lv.kM σ1 cs = some (ys, σ2)) : aO P f args σ (.d (.agg ys)) σ2 := by
 intro ro μ w gF g hdom hV
 refine (h ro μ w gF g hdom hV).mono ?_
 rintro e w' ⟨v, ro', μ', he, hv, g', e', d', q'⟩
 obtain ⟨C, rfl, hvs⟩ := BF hv rfl
 obtain ⟨tX, g1, e1, hlen, hd, _, s1⟩ := mK _ (vs := C.toList) g' (by simpa using hvs.size) (fun j z u hz hu => hvs.get j z u hz (by simpa using hu)) k
 exact ⟨_, tX, μ', he, .d _ _ (.agg _ C (by rw [hvs.size, hlen]) (fun j z u hz hu => hd j z u hz (by simpa using hu))), g1, e'.trans e1.SA, fun id L hL => by rw [s1]; exact d' id L hL, q'⟩
end Lv
