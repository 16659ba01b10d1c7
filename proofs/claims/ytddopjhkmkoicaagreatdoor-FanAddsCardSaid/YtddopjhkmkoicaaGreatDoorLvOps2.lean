/- Operations that make or write memory. -/
import Derived.Test.YtddopjhkmkoicaaGreatDoorLvOps
/- Operations that make or write memory. -/
namespace Lv
open Go
set_option linter.unusedVariables false
set_option linter.unusedSimpArgs false
set_option linter.unusedSectionVars false
variable [BaseTab]
def Step (P : Program) (s : Sem Value) (ro : Ro) (μ : Mu) (w : World) (σ : List Ob) (x : AV) (σ' : List Ob) : Prop :=
 ∃ v ro' μ' w', s.run P w = .ok v w' ∧ VR ro' μ' x v ∧ Good ro' μ' w' (hp σ') ∧ Ext ro μ w (hp σ) ro' μ' w' (hp σ') ∧
  (∀ id, μ' id ≠ μ id → σ.length ≤ id ∧ id < σ'.length) ∧ σ.length ≤ σ'.length
theorem Step.still {P : Program} {s : Sem Value} {ro : Ro} {μ : Mu} {w : World} {σ : List Ob} {x : AV} (g : Good ro μ w (hp σ)) (h : ∃ v, s.run P w = .ok v w ∧ VR ro μ x v) : Step P s ro μ w σ x σ := by
 obtain ⟨v, h1, h2⟩ := h
 exact ⟨v, ro, μ, w, h1, h2, g, Ext.refl _ _ _ _, fun id h => absurd rfl h, Nat.le_refl _⟩
theorem GH {μ : Mu} {n : Nat} {L : Loc} {id : Nat} (h : fQ μ n L id ≠ μ id) : id = n := by
 unfold fQ at h
 split at h
 ·assumption
 ·exact absurd rfl h
theorem Step.push {P : Program} {s : Sem Value} {ro : Ro} {μ : Mu} {w w' : World} {σ : List Ob} {x : AV} {v : Value} {o : Ob} {b : Obj} (L : Loc) (g : Good ro μ w (hp σ)) (hn : μ σ.length = none)
  (hr : s.run P w = .ok v w') (hL : L.blk = w.heap.size) (hw : w'.heap = w.heap.push b) (h1 : w'.os = w.os) (h2 : w'.tape = w.tape) (h3 : w'.output = w.output)
  (ho : OR ro (fQ μ σ.length L) w' σ.length o) (hv : VR ro (fQ μ σ.length L) x v) : Step P s ro μ w σ x (σ ++ [o]) := by
 obtain ⟨g', e'⟩ := g.new hn (sD (Nat.le_refl _)) hL hw h1 h2 h3 ho
 rw [← zl] at g' e'
 refine ⟨v, ro, _, w', hr, hv, g', e', fun id h => ?_, by simp⟩
 have := GH h
 subst this
 simp
theorem jc (n : Nat) : u7 (0, 0) n := ⟨Nat.le_refl _, by intro o ho h; simp at h⟩
theorem JE {P : Program} {ro : Ro} {μ : Mu} {w : World} {σ : List Ob} {t : TypeId} {x : AV} {v : Value} (g : Good ro μ w (hp σ)) (hn : μ σ.length = none) (hv : VR ro μ x v) (hx : x ≠ .undef) :
  Step P (Instr.box t v) ro μ w σ (.ref σ.length 0 0) (σ ++ [.box x]) := by
 have up : ∀ i L', μ i = some L' → fQ μ σ.length ⟨w.heap.size, 0, 0, 0⟩ i = some L' := by
  intro i L' h
  unfold fQ
  split
  ·rename_i e; subst e; rw [hn] at h; cases h
  ·exact h
 refine Step.push (w' := { w with heap := w.heap.push (.cells v.cells t) }) (v := .pointer (some ⟨w.heap.size, 0, none⟩)) ⟨w.heap.size, 0, 0, 0⟩ g hn rfl rfl rfl rfl rfl rfl ?_ ?_
 ·intro L hL
  simp only [fQ, if_true, Option.some.injEq] at hL
  subst hL
  exact ⟨v.cells, t, (0, 0), rfl, by simp, jc _, (qA hv hx).mono (fun _ _ h => h) up⟩
 ·have := VR.ref (ro := ro) (μ := fQ μ σ.length ⟨w.heap.size, 0, 0, 0⟩) σ.length 0 0 ⟨w.heap.size, 0, 0, 0⟩ (by simp [fQ])
  simpa [cellAt] using this
theorem rG {P : Program} {t : TypeId} {z : D} (h : zeroOf P t = some z) (ro : Ro) (w : World) : ∃ v, (zeroValue t).run P w = .ok v w ∧ DR ro z v := by
 unfold zeroOf at h
 split at h
 ·rename_i i hi
  split at h
  ·rename_i v hv
   exact ⟨v, by simp [zeroValue, typeInfo, hi, hv], Mt h⟩
  ·cases h
 ·cases h
theorem Ny {P : Program} {ro : Ro} {μ : Mu} {w : World} {σ : List Ob} {t : TypeId} {z : D} (g : Good ro μ w (hp σ)) (hn : μ σ.length = none) (hz : zeroOf P t = some z) :
  Step P (Instr.alloc t true (.tuple #[])) ro μ w σ (.ref σ.length 0 0) (σ ++ [.box (.d z)]) := by
 obtain ⟨v, h1, h2⟩ := rG hz ro w
 obtain ⟨u, ro', μ', w', k1, k2⟩ := JE (P := P) (t := t) g hn (.d z v h2) (by simp)
 refine ⟨u, ro', μ', w', ?_, k2⟩
 rw [← k1]
 simp [Instr.alloc, h1, Instr.box]
theorem bE {α : Type} {xs : List α} {i : Nat} {x : α} (h : xs[i]? = some x) : i < xs.length := by
 rcases Nat.lt_or_ge i xs.length with k | k
 ·exact k
 ·simp [List.getElem?_eq_none k] at h
theorem vR {ro : Ro} {μ : Mu} {w : World} {σ σ' : List Ob} {x : AV} {v : Value} {y : D} (g : Good ro μ w (hp σ)) (hv : VR ro μ x v) (h : lX σ x = some (y, σ')) :
  ∃ ro', Good ro' μ w (hp σ') ∧ Ext ro μ w (hp σ) ro' μ w (hp σ') ∧ DR ro' y v ∧ y.isAgg = false ∧ σ'.length = σ.length := by
 unfold lX at h
 split at h
 ·rename_i z
  split at h
  ·cases h
  ·rename_i hz
   simp only [Option.some.injEq, Prod.mk.injEq] at h
   obtain ⟨rfl, rfl⟩ := h
   exact ⟨ro, g, Ext.refl _ _ _ _, NM hv, by simpa using hz, rfl⟩
 ·rename_i id sz off len cap
  split at h
  ·rename_i sz' xs wr e
   split at h
   ·rename_i hc
    obtain ⟨hc1, hc2⟩ := hc
    subst hc1
    simp only [Option.some.injEq, Prod.mk.injEq] at h
    obtain ⟨rfl, rfl⟩ := h
    rcases pz hv with ⟨L, c, a, rfl, hL, hsz, hl, hcap, ha⟩ | ⟨rfl, rfl, rfl⟩
    rotate_left
    ·have hnil : ∃ ro', Good ro' μ w (upd (hp σ) id (.row sz' xs false)) ∧ Ext ro μ w (hp σ) ro' μ w (upd (hp σ) id (.row sz' xs false)) := by
      cases hm : μ id with
      | none => obtain ⟨g1, g2⟩ := g.phantom hm (o := .row sz' xs false) (by simp); exact ⟨ro, g1, g2⟩
      | some L => obtain ⟨ro', g1, g2, _⟩ := g.freeze (dI e) hm; exact ⟨ro', g1, g2⟩
     obtain ⟨ro', g', x'⟩ := hnil
     rw [← ng (bE e)] at g' x'
     refine ⟨ro', g', x', ?_, rfl, by simp⟩
     rw [List.take_zero]
     exact DR.nl sz'
    obtain ⟨ro', g', x', hro⟩ := g.freeze (dI e) hL
    rw [← ng (bE e)] at g' x'
    refine ⟨ro', g', x', ?_, rfl, by simp⟩
    have zm := g.ob id
    rw [dI e] at zm
    obtain ⟨C, T, fz, h0, hh, hf, hs, hlim, hw, hz, hcell⟩ := zm L hL
    have hro := hro C T fz hh
    -- the elements
    have hget : ∀ i x, ((xs.drop off).take len)[i]? = some x → i < len ∧ xs[off + i]? = some x := by
     intro i x hx
     rw [List.getElem?_take, List.getElem?_drop] at hx
     split at hx
     ·exact ⟨by assumption, hx⟩
     ·cases hx
    have hlen : ((xs.drop off).take len).length = len := by simp; omega
    have hcc : ∀ i x, i < len → xs[off + i]? = some x → c ≠ 0 := by intro i x hi _; omega
    have hd : VR ro' μ (.d (.xI sz' ((xs.drop off).take len))) (.slice (some a) ((xs.drop off).take len).length c) := by
     refine .d _ _ (.xI sz' _ a c (fun k => C.getD (L.base + (off * sz' + k)) undef) (by omega) (fun hne => ?_) (fun i x hx => ?_) (fun i x j cc hx hj => ?_) (fun i x j cc hx hj => ?_))
     ·have : len ≠ 0 := by
       intro e0; apply hne; rw [List.eq_nil_iff_length_eq_zero]; omega
      rw [(ha (by omega)).1]; rfl
     ·exact hz _ x (hget i x hx).2
     ·obtain ⟨h1, h2⟩ := hget i x hx
      obtain ⟨v, k1, k2⟩ := hcell _ x j cc h2 hj
      have ea := (ha (hcc i x h1 h2)).1
      rw [ea]
      have : L.base + ((off + i) * sz' + j) = L.base + off * sz' + (i * sz' + j) := by rw [Nat.add_mul]; omega
      rw [this] at k1
      have := hro _ _ k1
      simp only [cellAt] at this ⊢
      rw [this]
      simp only [Array.getD_eq_getD_getElem?]
      rw [show L.base + (off * sz' + (i * sz' + j)) = L.base + off * sz' + (i * sz' + j) by omega, k1]
      rfl
     ·obtain ⟨h1, h2⟩ := hget i x hx
      obtain ⟨v, k1, k2⟩ := hcell _ x j cc h2 hj
      simp only [Array.getD_eq_getD_getElem?]
      rw [show L.base + (off * sz' + (i * sz' + j)) = L.base + ((off + i) * sz' + j) by rw [Nat.add_mul]; omega, k1]
      exact k2.mono x'.mR
    rw [hlen] at hd
    exact NM hd
   ·cases h
  ·cases h
 ·cases h
theorem ni : ∀ (xs : List AV) {ro : Ro} {μ : Mu} {w : World} {σ σ' : List Ob} {vs : List Value} {ys : List D}, Good ro μ w (hp σ) → vs.length = xs.length →
  (∀ (i : Nat) (x : AV) (v : Value), xs[i]? = some x → vs[i]? = some v → VR ro μ x v) → jN σ xs = some (ys, σ') →
  ∃ ro', Good ro' μ w (hp σ') ∧ Ext ro μ w (hp σ) ro' μ w (hp σ') ∧ ys.length = xs.length ∧ (∀ (i : Nat) (y : D) (v : Value), ys[i]? = some y → vs[i]? = some v → DR ro' y v) ∧
   (∀ y ∈ ys, y.isAgg = false) ∧ σ'.length = σ.length
 | [], ro, μ, w, σ, σ', vs, ys, g, _, _, h => by
  simp only [jN, Option.some.injEq, Prod.mk.injEq] at h
  obtain ⟨rfl, rfl⟩ := h
  exact ⟨ro, g, Ext.refl _ _ _ _, rfl, fun i y v hy => by simp at hy, fun y hy => by simp at hy, rfl⟩
 | x :: xs, ro, μ, w, σ, σ', [], ys, g, hl, _, h => by simp at hl
 | x :: xs, ro, μ, w, σ, σ', v :: vs, ys, g, hl, hv, h => by
  simp only [jN] at h
  split at h
  ·rename_i y σ1 e1
   split at h
   ·rename_i ys' σ2 e2
    simp only [Option.some.injEq, Prod.mk.injEq] at h
    obtain ⟨rfl, rfl⟩ := h
    obtain ⟨tu, g1, x1, d1, a1, l1⟩ := vR g (hv 0 x v rfl rfl) e1
    obtain ⟨Xm, g2, x2, l2, d2, a2, l3⟩ := ni xs g1 (by simpa using hl) (fun i x v hx hu => (hv (i + 1) x v (by simpa using hx) (by simpa using hu)).mono x1.mR (fun _ _ h => h)) e2
    refine ⟨Xm, g2, x1.trans x2, by simp [l2], fun i y' v' hy hv' => ?_, fun y' hy => ?_, by omega⟩
    ·cases i with
     | zero =>
      simp only [List.getElem?_cons_zero, Option.some.injEq] at hy hv'
      subst hy; subst hv'
      exact d1.mono x2.mR
     | succ i => exact d2 i y' v' (by simpa using hy) (by simpa using hv')
    ·rcases List.mem_cons.1 hy with rfl | hy
     ·exact a1
     ·exact a2 y' hy
   ·cases h
  ·cases h
theorem iI {α : Type} {xs ys : List α} {o : Nat} (h : o + ys.length ≤ xs.length) (k : Nat) : (over xs o ys)[k]? = if o ≤ k ∧ k < o + ys.length then ys[k - o]? else xs[k]? := by
 unfold over
 have hl : (xs.take o).length = o := by simp; omega
 by_cases h1 : k < o
 ·rw [List.getElem?_append_left (by omega), List.getElem?_take]
  simp [h1, show ¬ (o ≤ k ∧ k < o + ys.length) by omega]
 ·rw [List.getElem?_append_right (by omega), hl]
  by_cases h2 : k < o + ys.length
  ·rw [List.getElem?_append_left (by omega)]
   simp [show o ≤ k ∧ k < o + ys.length by omega]
  ·rw [List.getElem?_append_right (by omega), List.getElem?_drop]
   simp only [show ¬ (o ≤ k ∧ k < o + ys.length) by omega, if_false]
   congr 1
   omega
theorem gy {α : Type} {xs ys : List α} {o : Nat} (h : o + ys.length ≤ xs.length) : (over xs o ys).length = xs.length := by
 simp [over]; omega
theorem mq (b : Nat) (T : TypeId) (fz : Nat × Nat) : ∀ (vs : List Value) (o : Nat) (w : World) (C : Array Value), w.heap[b]? = some (.cells C T fz) → o + vs.length ≤ C.size →
  (w.setCells b o vs).heap[b]? = some (.cells (over C.toList o vs).toArray T fz) ∧ (∀ k, k ≠ b → (w.setCells b o vs).heap[k]? = w.heap[k]?) ∧ (w.setCells b o vs).heap.size = w.heap.size ∧
   (w.setCells b o vs).os = w.os ∧ (w.setCells b o vs).tape = w.tape ∧ (w.setCells b o vs).output = w.output
 | [], o, w, C, h, hl => by
  refine ⟨?_, fun _ _ => rfl, rfl, rfl, rfl, rfl⟩
  simp [World.setCells, h, over]
 | v :: vs, o, w, C, h, hl => by
  simp only [List.length_cons] at hl
  have hb : b < w.heap.size := by
   rcases Nat.lt_or_ge b w.heap.size with k | k
   ·exact k
   ·simp [Array.getElem?_eq_none k] at h
  have h1 : (w.setCell ⟨b, o, none⟩ v).heap[b]? = some (.cells (C.setIfInBounds o v) T fz) := by
   simp [World.setCell, Array.getElem?_modify, h]
  obtain ⟨k1, k2, k3, k4, k5, k6⟩ := mq b T fz vs (o + 1) (w.setCell ⟨b, o, none⟩ v) (C.setIfInBounds o v) h1 (by simp; omega)
  refine ⟨?_, fun k hk => ?_, ?_, k4, k5, k6⟩
  ·simp only [World.setCells]
   rw [k1]
   congr 2
   apply Array.ext'
   simp only [Array.toList_setIfInBounds]
   apply List.ext_getElem?
   intro k
   rw [iI (by simp; omega), iI (by simp; omega), List.getElem?_set]
   simp only [List.length_cons, Array.length_toList]
   by_cases e : k = o
   ·subst e
    rw [if_neg (by omega), if_pos (by omega : k < C.size), if_pos (by omega)]
    simp
   ·by_cases e2 : o + 1 ≤ k ∧ k < o + 1 + vs.length
    ·simp only [e2, if_true, show o ≤ k ∧ k < o + (vs.length + 1) by omega, and_self, true_and]
     rw [show k - o = (k - (o + 1)) + 1 by omega]
     simp
    ·simp only [e2, if_false, show ¬ (o ≤ k ∧ k < o + (vs.length + 1)) by omega, show ¬ o = k from fun h => e h.symm]
  ·simp only [World.setCells]
   rw [k2 k hk, RowKit.Below.heap_setCell _ _ _ _ hk]
  ·simp only [World.setCells]
   rw [k3]
   simp [World.setCell]
theorem Bv {P : Program} {w : World} {t : TypeId} {s b o : Nat} {v : Value} {C : Array Value} {T : TypeId} {fz : Nat × Nat} (hs : bU P t = some s) (hv : v.cells.size = s)
  (h1 : ∀ x ∈ v.cells.toList, x.oneCell' = true) (hC : w.heap[b]? = some (.cells C T fz)) (hf : u7 fz C.size) (hl : o + s ≤ C.size) :
  (storeVar t (cellAt b o) v).run P w = .ok () (w.setCells b o v.cells.toList) := by
 unfold storeVar
 have := run_storeCells_cells (P := P) b o v.cells.toList 0 w (fun j hj => ?_) (fun j hj => ?_) h1
 ·simp only [Nat.add_zero] at this
  simp only [Sem.run_bind, gq hs, Result.andThen_ok, hv, ne_eq, not_true_eq_false, if_false, cellAt, this]
 ·simp only [Array.length_toList] at hj
  simp only [World.cell?, hC, Option.isSome_none, Bool.false_eq_true, if_false, Nat.add_zero]
  simp; omega
 ·simp only [Array.length_toList] at hj
  simp only [World.frozen?, hC, Nat.add_zero]
  have := hf.2 (o + j) (by omega)
  simpa using this
theorem ND {ro : Ro} {μ : Mu} {cs ys : List AV} {C V : Array Value} {o : Nat} (h : VRs ro μ cs C) (k : VRs ro μ ys V) (hl : o + ys.length ≤ cs.length) : VRs ro μ (over cs o ys) (over C.toList o V.toList).toArray := by
 have hC := h.size
 have hV := k.size
 refine ⟨by rw [List.size_toArray, gy (by simp; omega), gy hl]; simpa using hC, fun i x v hx hv => ?_⟩
 rw [iI hl] at hx
 rw [List.getElem?_toArray, iI (by simp; omega)] at hv
 simp only [Array.length_toList, hV] at hv
 split at hx
 ·rename_i hi
  rw [if_pos hi] at hv
  exact k.get _ x v hx (by simpa using hv)
 ·rename_i hi
  rw [if_neg hi] at hv
  exact h.get _ x v hx (by simpa using hv)
theorem Nk (cs : List AV) : (yM cs).cells = cs := by
 unfold yM
 split
 ·rename_i ds e
  obtain ⟨hl, hr⟩ := AU (ro := fun _ => none) (μ := fun _ => none) cs ds e
  apply List.ext_getElem?
  intro i
  simp only [AV.cells, List.getElem?_map]
  rcases Nat.lt_or_ge i ds.length with k | k
  ·rw [List.getElem?_eq_getElem k]
   exact (hr i _ (List.getElem?_eq_getElem k)).symm
  ·rw [List.getElem?_eq_none k, List.getElem?_eq_none (by omega)]
   rfl
 ·rfl
theorem Ie {y : AV} (h : y.cells.all AV.one = true) : y ≠ .undef := by rintro rfl; simp [AV.cells, AV.one] at h
theorem oq {z : AV} (h : z.one = true) : z.cells = [z] := by
 cases z
 case d x => cases x <;> first | rfl | simp [AV.one, D.isAgg] at h
 all_goals first | rfl | simp [AV.one] at h
theorem D.oq {z : D} (h : z.isAgg = false) : z.cells = [z] := by
 cases z <;> first | rfl | simp [D.isAgg] at h
theorem xH {x : AV} (h : x.isAgg = false) : x.cells = [x] := by
 cases x
 case d x => cases x <;> first | rfl | simp [AV.isAgg] at h
 all_goals first | rfl | simp [AV.isAgg] at h
theorem D.Kr {n sz : Nat} {xs : List D} {idx : Nat} {x : D} (hz : ∀ (i : Nat) (x : D), xs[i]? = some x → x.BO sz) (h : xs[idx]? = some x) (hl : xs.length * sz ≤ n) : idx * sz + x.cells.length ≤ n := by
 have h2 := bE h
 have := (hz idx x h).1
 have : (idx + 1) * sz ≤ xs.length * sz := Nat.mul_le_mul_right _ h2
 rw [Nat.add_mul] at this
 omega
theorem Xk {ro ro' : Ro} {xs : List D} {sz base idx off : Nat} {y z : D} {C : Array Value} {ds : List D} {V : List Value} (up : ∀ a v, ro a = some v → ro' a = some v)
  (hz : ∀ (i : Nat) (x : D), xs[i]? = some x → x.BO sz)
  (hc : ∀ (i : Nat) (x : D) (j : Nat) (c : D), xs[i]? = some x → x.cells[j]? = some c → ∃ v, C[base + (i * sz + j)]? = some v ∧ DR ro c v)
  (hy : xs[idx]? = some y) (hlim : base + xs.length * sz ≤ C.size) (hzc : z.cells = over y.cells off ds) (hoff : off + ds.length ≤ y.cells.length) (hV : V.length = ds.length)
  (hd : ∀ (i : Nat) (y : D) (v : Value), ds[i]? = some y → V[i]? = some v → DR ro' y v) (ha : ∀ y ∈ ds, y.isAgg = false) :
  (∀ (i : Nat) (x : D), (xs.set idx z)[i]? = some x → x.BO sz) ∧
  (∀ (i : Nat) (x : D) (j : Nat) (c : D), (xs.set idx z)[i]? = some x → x.cells[j]? = some c → ∃ v, (over C.toList (base + idx * sz + off) V).toArray[base + (i * sz + j)]? = some v ∧ DR ro' c v) := by
 have hyl := (hz idx y hy).1
 have hfit := D.Kr hz hy (Nat.le_refl (xs.length * sz))
 have hov : (base + idx * sz + off) + V.length ≤ C.toList.length := by simp; omega
 constructor
 ·intro i x hx
  rw [List.getElem?_set] at hx
  split at hx
  ·split at hx
   ·rename_i e _
    subst e
    simp only [Option.some.injEq] at hx
    subst hx
    refine ⟨by rw [hzc, gy hoff, hyl], fun c hcm => ?_⟩
    rw [hzc] at hcm
    simp only [over, List.mem_append] at hcm
    rcases hcm with h | h | h
    ·exact (hz _ y hy).2 c (List.mem_of_mem_take h)
    ·exact ha c h
    ·exact (hz _ y hy).2 c (List.mem_of_mem_drop h)
   ·cases hx
  ·exact hz i x hx
 ·intro i x j c hx hj
  rw [List.getElem?_toArray, iI hov]
  rw [List.getElem?_set] at hx
  split at hx
  ·split at hx
   ·rename_i e _
    subst e
    simp only [Option.some.injEq] at hx
    subst hx
    rw [hzc, iI hoff] at hj
    split at hj
    ·rename_i hi
     rw [if_pos (by omega)]
     have hjl := bE hj
     refine ⟨V[base + (idx * sz + j) - (base + idx * sz + off)]'(by omega), by rw [List.getElem?_eq_getElem], hd (j - off) c _ hj ?_⟩
     rw [List.getElem?_eq_getElem (by omega)]
     congr 1
     congr 1
     omega
    ·rename_i hi
     rw [if_neg (by omega)]
     obtain ⟨v, h1, h2⟩ := hc idx y j c hy hj
     exact ⟨v, by simpa using h1, h2.mono up⟩
   ·cases hx
  ·rename_i hne
   obtain ⟨v, h1, h2⟩ := hc i x j c hx hj
   have G8 := D.Kr hz hx (Nat.le_refl (xs.length * sz))
   have hjl := bE hj
   have hxl := (hz i x hx).1
   rw [if_neg ?_]
   ·exact ⟨v, by simpa using h1, h2.mono up⟩
   ·intro ⟨k1, k2⟩
    rcases Nat.lt_or_ge i idx with q | q
    ·have : (i + 1) * sz ≤ idx * sz := Nat.mul_le_mul_right _ q
     rw [Nat.add_mul] at this
     omega
    ·have : (idx + 1) * sz ≤ i * sz := Nat.mul_le_mul_right _ (by omega)
     rw [Nat.add_mul] at this
     omega
theorem K3 {P : Program} {σ σ' : List Ob} {t : TypeId} {a y : AV} {ro : Ro} {μ : Mu} {w : World} {v u : Value} (g : Good ro μ w (hp σ)) (ha : VR ro μ a v) (hu : VR ro μ y u) (h : jQ P σ t a y = some σ') :
  ∃ p w' ro', v = .pointer (some p) ∧ (storeVar t p u).run P w = .ok () w' ∧ Good ro' μ w' (hp σ') ∧ Ext ro μ w (hp σ) ro' μ w' (hp σ') ∧ σ'.length = σ.length := by
 unfold jQ at h
 split at h
 ·rename_i s hs
  split at h
  ·rename_i hy
   obtain ⟨hy1, hy2⟩ := hy
   have hcells := qA hu (Ie hy2)
   have hus : u.cells.size = s := by rw [hcells.size, hy1]
   have hone : ∀ x ∈ u.cells.toList, x.oneCell' = true := by
    intro x hx
    obtain ⟨i, hi⟩ := List.getElem?_of_mem hx
    have hil := bE hi
    simp only [Array.length_toList] at hil
    have hyi : i < y.cells.length := by omega
    refine ac3 (hcells.get i _ x (List.getElem?_eq_getElem hyi) (by simpa using hi)) ?_
    exact List.all_eq_true.1 hy2 _ (List.getElem_mem hyi)
   split at h
   ·rename_i id idx off
    obtain ⟨L, hL, rfl⟩ := Ea ha
    refine ⟨cellAt L.blk (L.base + idx * L.sz + off), ?_⟩
    split at h
    ·rename_i x e
     split at h
     ·rename_i hc
      obtain ⟨e0, hoff⟩ := hc
      subst e0
      have zm := g.ob id
      rw [dI e] at zm
      obtain ⟨C, T, fz, hb, hh, hf, hv⟩ := zm L hL
      have hCs := hv.size
      have hrun := Bv (P := P) (t := t) (o := L.base + 0 * L.sz + off) hs hus hone hh hf (by omega)
      obtain ⟨k1, k2, k3, k4, k5, k6⟩ := mq L.blk T fz u.cells.toList (L.base + 0 * L.sz + off) w C hh (by simp; omega)
      have hover := ND (o := off) hv hcells (by omega)
      have hsz : (over C.toList off u.cells.toList).length = C.size := by rw [gy (by simp; omega)]; simp
      have fin : ∀ (z : AV), VRs ro μ z.cells (over C.toList off u.cells.toList).toArray →
        ∃ w' ro', (Value.pointer (some (cellAt L.blk (L.base + 0 * L.sz + off)))) = Value.pointer (some (cellAt L.blk (L.base + 0 * L.sz + off))) ∧ (storeVar t (cellAt L.blk (L.base + 0 * L.sz + off)) u).run P w = .ok () w' ∧ Good ro' μ w' (hp (σ.set id (.box z))) ∧ Ext ro μ w (hp σ) ro' μ w' (hp (σ.set id (.box z))) ∧ (σ.set id (.box z)).length = σ.length := by
       intro z hz
       have := g.write (n := id) (o := .box z) (L := L) (by rw [dI e]; rfl) hL k2 k3 k4 k5 k6 (by
        intro L' hL'
        rw [hL] at hL'; cases hL'
        refine ⟨_, T, fz, hb, k1, ?_, ?_⟩
        ·rw [List.size_toArray, hb, show 0 + 0 * L.sz + off = off by omega, hsz]; exact hf
        ·rw [hb, show 0 + 0 * L.sz + off = off by omega]; exact hz)
       rw [← ng (bE e)] at this
       exact ⟨_, ro, rfl, hrun, this.1, this.2, by simp⟩
      split at h
      ·simp only [Option.some.injEq] at h
       subst h
       exact fin _ (by rw [Nk]; exact hover)
      ·rename_i hxa
       split at h
       ·rename_i z hzc
        simp only [Option.some.injEq] at h
        subst h
        refine fin z ?_
        have hx1 := xH (x := x) (by simpa using hxa)
        have hz1 : z.one = true := by
         have := List.all_eq_true.1 hy2 z (by rw [hzc]; simp)
         exact this
        rw [hx1, hzc] at hover
        have h0 : off = 0 := by rw [hx1] at hoff; rw [hzc] at hy1; simp at hoff hy1; omega
        rw [h0] at hover ⊢
        rw [oq hz1]
        simpa [over] using hover
       ·cases h
     ·cases h
    ·rename_i sz0 xs0 wr0 e
     split at h
     ·rename_i ds σ1 hfr
      split at h
      ·rename_i sz xs e1
       split at h
       ·rename_i x hx
        split at h
        ·rename_i hoff
         obtain ⟨tu, g1, x1, l1, d1, a1, n1⟩ := ni y.cells (vs := u.cells.toList) g (by simpa using hcells.size) (fun i x v hx hv => hcells.get i x v hx (by simpa using hv)) hfr
         have zm := g1.ob id
         rw [dI e1] at zm
         obtain ⟨C, T, fz, h0, hh, hf, hCs, hlim, hw, hz, hcell⟩ := zm L hL
         have hfit := D.Kr hz hx hlim
         have hrun := Bv (P := P) (t := t) (o := L.base + idx * L.sz + off) hs hus hone hh hf (by rw [h0]; omega)
         obtain ⟨k1, k2, k3, k4, k5, k6⟩ := mq L.blk T fz u.cells.toList (L.base + idx * L.sz + off) w C hh (by rw [h0]; simp; omega)
         have hsz : (over C.toList (L.base + idx * L.sz + off) u.cells.toList).length = C.size := by rw [gy (by rw [h0]; simp; omega)]; simp
         have fin : ∀ (z : D), z.cells = over x.cells off ds →
           ∃ w' ro', (Value.pointer (some (cellAt L.blk (L.base + idx * L.sz + off)))) = Value.pointer (some (cellAt L.blk (L.base + idx * L.sz + off))) ∧ (storeVar t (cellAt L.blk (L.base + idx * L.sz + off)) u).run P w = .ok () w' ∧ Good ro' μ w' (hp (σ1.set id (.row sz (xs.set idx z) true))) ∧ Ext ro μ w (hp σ) ro' μ w' (hp (σ1.set id (.row sz (xs.set idx z) true))) ∧ (σ1.set id (.row sz (xs.set idx z) true)).length = σ.length := by
          intro z hzc
          obtain ⟨r1, r2⟩ := Xk (ro' := tu) (base := L.base) (V := u.cells.toList) (fun _ _ h => h) hz hcell hx (by omega) hzc (by omega) (by simp; omega) d1 a1
          have := g1.write (n := id) (o := .row sz (xs.set idx z) true) (L := L) (by rw [dI e1]; rfl) hL k2 k3 k4 k5 k6 (by
           intro L' hL'
           rw [hL] at hL'; cases hL'
           refine ⟨_, T, fz, h0, k1, ?_, ?_, ?_, fun e => (by cases e), r1, ?_⟩
           ·rw [List.size_toArray, hsz]; exact hf
           ·rw [List.size_toArray, hsz]; exact hCs
           ·simpa using hlim
           ·rw [h0]; exact r2)
          rw [← ng (bE e1)] at this
          exact ⟨_, tu, rfl, hrun, this.1, x1.trans this.2, by simp [n1]⟩
         split at h
         ·simp only [Option.some.injEq] at h
          subst h
          exact fin _ rfl
         ·rename_i hxa
          split at h
          ·rename_i z
           simp only [Option.some.injEq] at h
           subst h
           refine fin z ?_
           have hx1 := D.oq (z := x) (by simpa using hxa)
           have hz1 := D.oq (z := z) (a1 z (by simp))
           have : off = 0 := by
            rw [hx1] at hoff; simp at hoff l1; omega
           subst this
           rw [hx1, hz1]
           simp [over]
          ·cases h
        ·cases h
       ·cases h
      ·cases h
     ·cases h
    ·cases h
   ·cases h
  ·cases h
 ·cases h
end Lv
