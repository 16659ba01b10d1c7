/- slices.Sort and slices.Compact of strings: in their own memory. -/
import Derived.Test.YtmkgfooomdagmaaDoorGwDel
import Derived.Sort.Grow
import Derived.Sort.EncStr
/- slices.Sort and slices.Compact of strings: in their own memory. -/
namespace Lv
open Go Go.Sort
set_option linter.unusedVariables false
set_option linter.unusedSimpArgs false
set_option linter.unusedSectionVars false
variable [BaseTab]
theorem Good.writeG {ro : Ro} {μ : Mu} {w w' : World} {H : Hp} (g : Good ro μ w H) {n : Nat} {o : Ob} {L : Loc} (hH : (H n).wr = true) (hL : μ n = some L)
  (hb : ∀ b, b ≠ L.blk → b < w.heap.size → w'.heap[b]? = w.heap[b]?) (hs : w.heap.size ≤ w'.heap.size) (h1 : w'.os = w.os) (h2 : w'.tape = w.tape) (h3 : w'.output = w.output) (ho : OR ro μ w' n o) :
  Good ro μ w' (upd H n o) ∧ Ext ro μ w H ro μ w' (upd H n o) := by
 have hwb : WB H μ L.blk := ⟨n, L, hH, hL, rfl⟩
 have sub : ∀ i, (upd H n o i).wr = true → (H i).wr = true := by
  intro i hi
  unfold upd at hi
  split at hi
  ·rename_i e; subst e; exact hH
  ·exact hi
 have subl : ∀ i, (upd H n o i).live = true → (H i).live = true := by
  intro i hi
  unfold upd at hi
  split at hi
  ·rename_i e; subst e; exact Ob.live_of_wr hH
  ·exact hi
 refine ⟨⟨fun a v h => ?_, fun i => ?_, fun i i' L1 L2 k1 k2 k3 k4 k5 => g.apart i i' L1 L2 (sub i k1) (subl i' k2) k3 k4 k5, fun b' hb' a ha => ?_, g.base⟩, ⟨fun _ _ h => h, fun _ _ h => h, fun _ _ h => .inl h, fun b' hb' => ?_, fun b' hb' => ?_, fun b' hb' hn => ?_, hs, h1, h2, h3⟩⟩
 ·have : a.block ≠ L.blk := by
   intro e
   have := g.roApart _ hwb a e
   rw [this] at h; cases h
  have k := g.roOk a v h
  have hlt : a.block < w.heap.size := by
   rcases Nat.lt_or_ge a.block w.heap.size with q | q
   ·exact q
   ·simp [World.cell?, Array.getElem?_eq_none q] at k
  rw [cell?_of_heap (hb _ this hlt)]; exact k
 ·by_cases e : i = n
  ·subst e; simp only [upd, if_true]; exact ho
  ·simp only [upd, e, if_false]
   by_cases hl : (H i).live = true
   ·refine (g.ob i).keep (fun _ _ h => h) (fun _ _ h => h) rfl (fun L' hL' => hb _ (fun e' => e (g.apart n i L L' hH hl hL hL' e'.symm).symm) ?_)
    exact (g.ob i).lt hl hL'
   ·have : H i = .dead := by cases e : H i <;> simp [e, Ob.live] at hl ⊢
    rw [this]; trivial
 ·obtain ⟨i, L1, k1, k2, rfl⟩ := hb'
  exact g.roApart _ ⟨i, L1, sub i k1, k2, rfl⟩ a ha
 ·obtain ⟨i, L1, k1, k2, rfl⟩ := hb'
  exact .inr ⟨i, L1, sub i k1, k2, rfl⟩
 ·obtain ⟨i, L1, k1, k2, rfl⟩ := hb'
  exact .inr ⟨i, L1, subl i k1, k2, rfl⟩
 ·exact hb b' (fun e => hn (e ▸ hwb)) hb'
theorem over_row (w : World) (n blk off : Nat) (m : List (List UInt8)) (os : Array Obj) (C : Array Value) (T : TypeId) (fz : Nat × Nat) (h : w.heap[blk]? = some (.cells C T fz)) :
  (grow (putRow Go.Proofs.encStr (Go.Sort.ahead w n) blk off m.toArray) os).heap[blk]? = some (.cells (putCells Go.Proofs.encStr off m.toArray C) T fz) ∧ ∀ b, b ≠ blk → b < w.heap.size → (grow (putRow Go.Proofs.encStr (Go.Sort.ahead w n) blk off m.toArray) os).heap[b]? = w.heap[b]? := by
 have hlt : blk < w.heap.size := by
  rcases Nat.lt_or_ge blk w.heap.size with k | k
  ·exact k
  ·simp [Array.getElem?_eq_none k] at h
 refine ⟨?_, fun b hb hl => ?_⟩
 ·simp only [grow, putRow, mapBlock, Go.Sort.ahead]
  rw [Array.getElem?_append_left (by simpa using hlt), Array.getElem?_modify]
  simp [h, onCells]
 ·simp only [grow, putRow, mapBlock, Go.Sort.ahead]
  rw [Array.getElem?_append_left (by simpa using hl), Array.getElem?_modify]
  simp [Ne.symm hb]
theorem CallAt.inRow {P : Program} {f : FuncId} {l m : List (List UInt8)} {R : Option Addr → Nat → Value} {r : AV} (hlen : m.length = l.length)
  (hR : ∀ (ro : Ro) (μ : Mu) (a : Option Addr) (c : Nat), VR ro μ (.slc 0 1 0 l.length none) (.slice a l.length c) → VR ro μ r (R a c))
  (h : ∀ (blk off cap : Nat) (w : World), l ≠ [] → Holds Go.Proofs.encStr w blk off l.toArray → blk < w.heap.size → l.length ≤ cap →
   Calls P f #[.slice (some ⟨blk, off, none⟩) l.length cap] w fun e w' => e = .returned (R (some ⟨blk, off, none⟩) cap) ∧ ∃ n os, w' = grow (putRow Go.Proofs.encStr (Go.Sort.ahead w n) blk off m.toArray) os)
  (h0 : ∀ (a : Option Addr) (cap : Nat) (w : World), l = [] → Calls P f #[.slice a 0 cap] w fun e w' => e = .returned (R a cap) ∧ w' = w) :
  CallAt P f [.slc 0 1 0 l.length none] [.row 1 (l.map fun s => eS s) true] r [.row 1 (m.map fun s => eS s) true] := by
 intro ro μ w cargs g hdom hV
 obtain ⟨v, rfl, hv⟩ : ∃ v, cargs = #[v] ∧ VR ro μ (.slc 0 1 0 l.length none) v := by
  have hs := hV.size
  obtain ⟨cs⟩ := cargs
  match cs, hs with
  | [v], _ => exact ⟨v, rfl, hV.get 0 _ v rfl rfl⟩
 by_cases e : l = []
 ·have em : m = [] := by subst e; simpa using hlen
  subst e em
  obtain ⟨a, c, rfl⟩ : ∃ a c, v = .slice a 0 c := by
   rcases VR_slc hv with ⟨L, c, a, rfl, _⟩ | ⟨_, _, rfl⟩
   ·exact ⟨_, _, rfl⟩
   ·exact ⟨_, _, rfl⟩
  refine (h0 a c w rfl).mono ?_
  rintro e w' ⟨rfl, rfl⟩
  exact ⟨_, ro, μ, rfl, hR _ _ _ _ hv, g, (Ext.refl _ _ _ _).to0, hdom, fun _ _ => rfl⟩
 ·have hpos : 0 < l.length := List.length_pos_iff.2 e
  rcases VR_slc hv with ⟨L, c, a, rfl, hL, hsz, hlc, _, ha⟩ | ⟨h0, _, _⟩
  rotate_left
  ·omega
  obtain ⟨rfl, hlim0⟩ := ha (by omega)
  have hob := g.ob 0
  have hp0 : hp [Ob.row 1 (l.map fun s => eS s) true] 0 = Ob.row 1 (l.map fun s => eS s) true := rfl
  rw [hp0] at hob
  obtain ⟨C, T, fz, hLs, hh, hf, hCs, hlim, hw, hz, hcell⟩ := hob L hL
  simp only [List.length_map, Nat.mul_one] at hlim
  have hblk : L.blk < w.heap.size := by
   rcases Nat.lt_or_ge L.blk w.heap.size with k | k
   ·exact k
   ·simp [Array.getElem?_eq_none k] at hh
  have hholds : Holds Go.Proofs.encStr w L.blk (L.base + 0 * 1) l.toArray := by
   intro j hj
   have hj' : j < l.length := by simpa using hj
   obtain ⟨u, hu, hd⟩ := hcell j (eS l[j]) 0 (eS l[j]) (by simp [hj']) rfl
   simp only [Nat.mul_one, Nat.add_zero] at hu
   have hu' : u = .string ⟨l[j].toArray⟩ := by cases hd; rfl
   subst hu'
   refine ⟨?_, ?_⟩
   ·simp only [World.cell?, hh, Nat.zero_mul, Nat.add_zero, hu]
    simp [hj']
   ·simp only [World.frozen?, hh]
    have := hf.2 (L.base + j) (by omega)
    simp only [Nat.zero_mul, Nat.add_zero, Bool.and_eq_false_iff, decide_eq_false_iff_not]
    by_cases q : fz.1 ≤ L.base + j
    ·exact .inr fun q2 => this ⟨q, q2⟩
    ·exact .inl q
  refine (h L.blk (L.base + 0 * 1) c w e hholds hblk hlc).mono ?_
  rintro e' w' ⟨rfl, n, os, rfl⟩
  obtain ⟨k1, k2⟩ := over_row w n L.blk (L.base + 0 * 1) m os C T fz hh
  have hsize : (putCells Go.Proofs.encStr (L.base + 0 * 1) m.toArray C).size = C.size := by simp [putCells]
  obtain ⟨G, E⟩ := g.writeG (n := 0) (o := .row 1 (m.map fun s => eS s) true) (L := L) rfl hL k2 (by simp [grow, putRow, mapBlock, Go.Sort.ahead]) rfl rfl rfl (by
   intro L' hL'
   rw [hL] at hL'; cases hL'
   refine ⟨_, T, fz, hLs, k1, by rw [hsize]; exact hf, by rw [hsize]; exact hCs, by simpa [hlen] using hlim, (fun e => Bool.noConfusion e), fun i x hx => ?_, fun i x j d hx hj => ?_⟩
   ·simp only [List.getElem?_map, Option.map_eq_some_iff] at hx
    obtain ⟨s, _, rfl⟩ := hx
    exact ⟨rfl, fun c hc => by simp [eS, D.cells] at hc; subst hc; rfl⟩
   ·simp only [List.getElem?_map, Option.map_eq_some_iff] at hx
    obtain ⟨s, hs, rfl⟩ := hx
    have hj0 : j = 0 ∧ d = eS s := by
     simp only [eS, D.cells] at hj
     cases j with
     | zero => simp at hj; exact ⟨rfl, hj.symm⟩
     | succ j => simp at hj
    obtain ⟨rfl, rfl⟩ := hj0
    have hi : i < m.length := lt_of_get hs
    refine ⟨.string ⟨s.toArray⟩, ?_, .str _⟩
    have hi2 : L.base + i < C.size := by omega
    simp only [putCells, Array.getElem?_mapIdx, Nat.mul_one, Nat.add_zero, Nat.zero_mul, Array.getElem?_eq_getElem hi2, Option.map_some]
    rw [if_pos ⟨by omega, by simp; omega⟩]
    have e2 : m[i] = s := by rw [List.getElem?_eq_getElem hi] at hs; exact Option.some.inj hs
    simp [hi, e2])
  rw [← hp_set (by simp)] at G E
  exact ⟨_, ro, μ, rfl, hR _ _ _ _ hv, G, E.to0, hdom, fun _ _ => rfl⟩
theorem CallAt.frzR {P : Program} {f : FuncId} {args : List AV} {σ σ1 σ2 : List Ob} {x : AV} {y : D} (h : CallAt P f args σ x σ1) (k : Lv.frz σ1 x = some (y, σ2)) : CallAt P f args σ (.d y) σ2 := by
 intro ro μ w cargs g hdom hV
 refine (h ro μ w cargs g hdom hV).mono ?_
 rintro e w' ⟨v, ro', μ', he, hv, g', e', d', q'⟩
 obtain ⟨ro2, g2, e2, hd, _, hl⟩ := frz_sound g' hv k
 exact ⟨v, ro2, μ', he, .d _ _ hd, g2, e'.trans e2.to0, fun id L hL => by rw [hl]; exact d' id L hL, q'⟩
theorem frz_front {l : List (List UInt8)} {z : List (List UInt8)} : Lv.frz [.row 1 ((l ++ z).map fun s => eS s) true] (.slc 0 1 0 l.length none) = some (eL 1 eS l, [.row 1 ((l ++ z).map fun s => eS s) false]) := by
 have h1 : 0 + l.length ≤ ((l ++ z).map fun s => eS s).length := by simp
 simp only [Lv.frz, List.getElem?_cons_zero, h1, and_self, if_true, List.drop_zero, List.set_cons_zero]
 rw [List.map_append, List.take_append_of_le_length (by simp), List.take_of_length_le (by simp)]
end Lv
