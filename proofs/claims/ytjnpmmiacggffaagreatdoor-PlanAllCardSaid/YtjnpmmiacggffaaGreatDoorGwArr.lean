/- Arrays at a number that is told by cases; slices of nil. -/
import Derived.Test.YtjnpmmiacggffaaGreatDoorGwDel
import Derived.Test.YtjnpmmiacggffaaGreatDoorGwSort
/- Arrays at a number that is told by cases; slices of nil. -/
namespace Lv
open Go Go.Sort
set_option linter.unusedVariables false
set_option linter.unusedSimpArgs false
set_option linter.unusedSectionVars false
variable [bJ]
section
variable {P : Program} {m n : Nat} {e : En} {σ σ' : List Ob} {t : TypeId} {x y z : Operand} {ops : Array Oper} {l : List Oper} {acc : List (List Nat × Bool)} {R : St → List (List Nat × Bool) → Prop} {s : St}
theorem TP {el : TypeId} {sz : Nat} {hi : Int} (un : P.underlying t = some (.slice el)) (ts : dM P el = some sz) (h : hi = 0) : aslice P t (.d .dn) none (some (.d (eI hi))) none = some (.d .dn) := by
 subst h
 simp only [aslice, un, ts]
 rfl
end
theorem JU {P : Program} {t : TypeId} (un : P.underlying t = some .string) (a b : List UInt8) : pq P (Builtin.min_ #[t, t] 0 #[.string ⟨a.toArray⟩, .string ⟨b.toArray⟩]) = some (.d (eS (minS a b))) := by
 have : pr P (Builtin.min_ #[t, t] 0 #[.string ⟨a.toArray⟩, .string ⟨b.toArray⟩]) = some (.string (if (Op.bytesLess (ByteArray.mk a.toArray).toList (ByteArray.mk b.toArray).toList || (ByteArray.mk a.toArray).toList == (ByteArray.mk b.toArray).toList) = true then ⟨a.toArray⟩ else ⟨b.toArray⟩)) := rfl
 simp only [pq, this, jB]
 unfold minS AA
 cases Op.bytesLess a b || a == b <;> rfl
theorem Ui {α : Type} [Inhabited α] (enc : α → Value) (w : World) (n blk off : Nat) (m : List α) (os : Array Obj) (C : Array Value) (T : TypeId) (fz : Nat × Nat) (h : w.heap[blk]? = some (.cells C T fz)) :
  (grow (putRow enc (Go.Sort.ahead w n) blk off m.toArray) os).heap[blk]? = some (.cells (putCells enc off m.toArray C) T fz) ∧ ∀ b, b ≠ blk → b < w.heap.size → (grow (putRow enc (Go.Sort.ahead w n) blk off m.toArray) os).heap[b]? = w.heap[b]? := by
 have hlt : blk < w.heap.size := by
  rcases Nat.lt_or_ge blk w.heap.size with k | k
  ·exact k
  ·simp [Array.getElem?_eq_none k] at h
 refine ⟨?_, fun b hb hl => ?_⟩
 ·simp only [grow, putRow, mapBlock, Go.Sort.ahead]
  rw [Array.getElem?_append_left (by simpa using hlt), Array.getElem?_modify]
  simp [h, onCells]
 ·simp only [grow, putRow, mapBlock, Go.Sort.ahead]
  rw [Array.getElem?_append_left (by simpa using hl), Array.getElem?_modify]
  simp [Ne.symm hb]
structure akq {α : Type} (enc : α → Value) (Dq : α → D) : Prop where
 dr : ∀ (ro : Ro) (x : α), DR ro (Dq x) (enc x)
 inv : ∀ (ro : Ro) (x : α) (v : Value), DR ro (Dq x) v → v = enc x
 cells : ∀ x, (Dq x).cells = [Dq x]
 one : ∀ x, (Dq x).isAgg = false
omit [bJ] in
theorem ahA : akq (Value.int .i64) eI := ⟨fun ro x => .int _ _, fun ro x v h => by cases h; rfl, fun _ => rfl, fun _ => rfl⟩
theorem aO.WA {α : Type} [Inhabited α] {enc : α → Value} {Dq : α → D} (E : akq enc Dq) {P : Program} {f : FuncId} {l m : List α} {R : Option Addr → Nat → Value} {r : AV} (hlen : m.length = l.length)
  (hR : ∀ (ro : Ro) (μ : Mu) (a : Option Addr) (c : Nat), VR ro μ (.slc 0 1 0 l.length none) (.slice a l.length c) → VR ro μ r (R a c))
  (h : ∀ (blk off cap : Nat) (w : World), l ≠ [] → Holds enc w blk off l.toArray → blk < w.heap.size → l.length ≤ cap →
   Calls P f #[.slice (some ⟨blk, off, none⟩) l.length cap] w fun e w' => e = .returned (R (some ⟨blk, off, none⟩) cap) ∧ ∃ n os, w' = grow (putRow enc (Go.Sort.ahead w n) blk off m.toArray) os)
  (h0 : ∀ (a : Option Addr) (cap : Nat) (w : World), l = [] → Calls P f #[.slice a 0 cap] w fun e w' => e = .returned (R a cap) ∧ w' = w) :
  aO P f [.slc 0 1 0 l.length none] [.row 1 (l.map Dq) true] r [.row 1 (m.map Dq) true] := by
 intro ro μ w gF g hdom hV
 obtain ⟨v, rfl, hv⟩ : ∃ v, gF = #[v] ∧ VR ro μ (.slc 0 1 0 l.length none) v := by
  have hs := hV.size
  obtain ⟨cs⟩ := gF
  match cs, hs with
  | [v], _ => exact ⟨v, rfl, hV.get 0 _ v rfl rfl⟩
 by_cases e : l = []
 ·have em : m = [] := by subst e; simpa using hlen
  subst e em
  obtain ⟨a, c, rfl⟩ : ∃ a c, v = .slice a 0 c := by
   rcases mW hv with ⟨L, c, a, rfl, _⟩ | ⟨_, _, rfl⟩
   ·exact ⟨_, _, rfl⟩
   ·exact ⟨_, _, rfl⟩
  refine (h0 a c w rfl).mono ?_
  rintro e w' ⟨rfl, rfl⟩
  exact ⟨_, ro, μ, rfl, hR _ _ _ _ hv, g, (Ext.refl _ _ _ _).SA, hdom, fun _ _ => rfl⟩
 ·have hpos : 0 < l.length := List.length_pos_iff.2 e
  rcases mW hv with ⟨L, c, a, rfl, hL, hsz, hlc, _, ha⟩ | ⟨h0, _, _⟩
  rotate_left
  ·omega
  obtain ⟨rfl, ars⟩ := ha (by omega)
  have zB := g.ob 0
  have hp0 : hp [Ob.row 1 (l.map Dq) true] 0 = Ob.row 1 (l.map Dq) true := rfl
  rw [hp0] at zB
  obtain ⟨C, T, fz, hLs, hh, hf, hCs, hlim, hw, hz, hcell⟩ := zB L hL
  simp only [List.length_map, Nat.mul_one] at hlim
  have hblk : L.blk < w.heap.size := by
   rcases Nat.lt_or_ge L.blk w.heap.size with k | k
   ·exact k
   ·simp [Array.getElem?_eq_none k] at hh
  have hholds : Holds enc w L.blk (L.base + 0 * 1) l.toArray := by
   intro j hj
   have hj' : j < l.length := by simpa using hj
   obtain ⟨u, hu, hd⟩ := hcell j (Dq l[j]) 0 (Dq l[j]) (by simp [hj']) (by rw [E.cells]; rfl)
   simp only [Nat.mul_one, Nat.add_zero] at hu
   have hu' := E.inv _ _ _ hd
   subst hu'
   refine ⟨?_, ?_⟩
   ·simp only [World.cell?, hh, Nat.zero_mul, Nat.add_zero, hu]
    simp [hj']
   ·simp only [World.frozen?, hh]
    have := hf.2 (L.base + j) (by omega)
    simp only [Nat.zero_mul, Nat.add_zero, Bool.and_eq_false_iff, decide_eq_false_iff_not]
    by_cases q : fz.1 ≤ L.base + j
    ·exact .inr fun q2 => this ⟨q, q2⟩
    ·exact .inl q
  refine (h L.blk (L.base + 0 * 1) c w e hholds hblk hlc).mono ?_
  rintro e' w' ⟨rfl, n, os, rfl⟩
  obtain ⟨k1, k2⟩ := Ui enc w n L.blk (L.base + 0 * 1) m os C T fz hh
  have hsize : (putCells enc (L.base + 0 * 1) m.toArray C).size = C.size := by simp [putCells]
  obtain ⟨G, E'⟩ := g.adp (n := 0) (o := .row 1 (m.map Dq) true) (L := L) rfl hL k2 (by simp [grow, putRow, mapBlock, Go.Sort.ahead]) rfl rfl rfl (by
   intro L' hL'
   rw [hL] at hL'; cases hL'
   refine ⟨_, T, fz, hLs, k1, by rw [hsize]; exact hf, by rw [hsize]; exact hCs, by simpa [hlen] using hlim, (fun e => Bool.noConfusion e), fun i x hx => ?_, fun i x j d hx hj => ?_⟩
   ·simp only [List.getElem?_map, Option.map_eq_some_iff] at hx
    obtain ⟨s, _, rfl⟩ := hx
    exact ⟨by rw [E.cells]; rfl, fun c hc => by rw [E.cells] at hc; simp at hc; subst hc; exact E.one s⟩
   ·simp only [List.getElem?_map, Option.map_eq_some_iff] at hx
    obtain ⟨s, hs, rfl⟩ := hx
    have hj0 : j = 0 ∧ d = Dq s := by
     rw [E.cells] at hj
     cases j with
     | zero => simp at hj; exact ⟨rfl, hj.symm⟩
     | succ j => simp at hj
    obtain ⟨rfl, rfl⟩ := hj0
    have hi : i < m.length := bU hs
    refine ⟨enc s, ?_, E.dr _ _⟩
    have hi2 : L.base + i < C.size := by omega
    simp only [putCells, Array.getElem?_mapIdx, Nat.mul_one, Nat.add_zero, Nat.zero_mul, Array.getElem?_eq_getElem hi2, Option.map_some]
    rw [if_pos ⟨by omega, by simp; omega⟩]
    have e2 : m[i] = s := by rw [List.getElem?_eq_getElem hi] at hs; exact Option.some.inj hs
    simp [hi, e2])
  rw [← nG (by simp)] at G E'
  exact ⟨_, ro, μ, rfl, hR _ _ _ _ hv, G, E'.SA, hdom, fun _ _ => rfl⟩
theorem Ri {l z : List Int} : Lv.mM [.row 1 ((l ++ z).map eI) true] (.slc 0 1 0 l.length none) = some (eL 1 eI l, [.row 1 ((l ++ z).map eI) false]) := by
 have h1 : 0 + l.length ≤ ((l ++ z).map eI).length := by simp
 simp only [Lv.mM, List.getElem?_cons_zero, h1, and_self, if_true, List.drop_zero, List.set_cons_zero]
 rw [List.map_append, List.take_append_of_le_length (by simp), List.take_of_length_le (by simp)]
end Lv
