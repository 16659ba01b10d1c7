/- What a slice holds; appending, copying, making. -/
import Derived.Test.YtddopjhkmkoicaaGreatDoorLvOps3
/- What a slice holds; appending, copying, making. -/
namespace Lv
open Go
set_option linter.unusedVariables false
set_option linter.unusedSimpArgs false
set_option linter.unusedSectionVars false
variable [BaseTab]
structure FC (ro : Ro) (sz : Nat) (ys : List D) (C : Array Value) : Prop where
 size : C.size = ys.length * sz
 ok : ∀ (i : Nat) (x : D), ys[i]? = some x → x.BO sz
 get : ∀ (i : Nat) (x : D) (j : Nat) (c : D), ys[i]? = some x → x.cells[j]? = some c → ∃ v, C[i * sz + j]? = some v ∧ DR ro c v
theorem z8 {k sz n : Nat} (h : k < n * sz) : k / sz < n ∧ k % sz < sz ∧ k = k / sz * sz + k % sz := by
 have hs : 0 < sz := by
  rcases Nat.eq_zero_or_pos sz with e | e
  ·subst e; simp at h
  ·exact e
 refine ⟨(Nat.div_lt_iff_lt_mul hs).2 h, Nat.mod_lt _ hs, ?_⟩
 have := Nat.div_add_mod k sz
 rw [Nat.mul_comm] at this
 exact this.symm
theorem FC.one {ro : Ro} {sz : Nat} {ys : List D} {C : Array Value} (h : FC ro sz ys C) : ∀ v ∈ C.toList, v.oneCell' = true := by
 intro v hv
 obtain ⟨k, hk⟩ := List.getElem?_of_mem hv
 have hlt := bE hk
 simp only [Array.length_toList, h.size] at hlt
 obtain ⟨h1, h2, h3⟩ := z8 hlt
 have hy : ys[k / sz]? = some ys[k / sz] := List.getElem?_eq_getElem h1
 have ho := h.ok _ _ hy
 have hj : k % sz < ys[k / sz].cells.length := by rw [ho.1]; exact h2
 obtain ⟨u, k1, k2⟩ := h.get _ _ _ _ hy (List.getElem?_eq_getElem hj)
 rw [← h3] at k1
 have : C.toList[k]? = some u := by simpa using k1
 rw [hk] at this
 cases this
 exact Eb k2 (ho.2 _ (List.getElem_mem hj))
theorem FC.mono {ro ro' : Ro} {sz : Nat} {ys : List D} {C : Array Value} (h : FC ro sz ys C) (hr : ∀ a v, ro a = some v → ro' a = some v) : FC ro' sz ys C :=
 ⟨h.size, h.ok, fun i x j c hx hj => let ⟨v, h1, h2⟩ := h.get i x j c hx hj; ⟨v, h1, h2.mono hr⟩⟩
theorem FC.append {ro : Ro} {sz : Nat} {xs ys : List D} {C V : Array Value} (h : FC ro sz xs C) (k : FC ro sz ys V) : FC ro sz (xs ++ ys) (C ++ V) := by
 refine ⟨by simp [h.size, k.size, Nat.add_mul], fun i x hx => ?_, fun i x j c hx hj => ?_⟩
 ·rw [List.getElem?_append] at hx
  split at hx
  ·exact h.ok i x hx
  ·exact k.ok _ x hx
 ·rw [List.getElem?_append] at hx
  split at hx
  ·rename_i hi
   obtain ⟨v, h1, h2⟩ := h.get i x j c hx hj
   refine ⟨v, ?_, h2⟩
   rw [Array.getElem?_append]
   have hlt : i * sz + j < C.size := by
    rcases Nat.lt_or_ge (i * sz + j) C.size with q | q
    ·exact q
    ·simp [Array.getElem?_eq_none q] at h1
   rw [if_pos hlt, h1]
  ·rename_i hi
   obtain ⟨v, h1, h2⟩ := k.get _ x j c hx hj
   refine ⟨v, ?_, h2⟩
   rw [Array.getElem?_append, h.size]
   have e : i * sz + j - xs.length * sz = (i - xs.length) * sz + j := by
    have : i * sz = (i - xs.length) * sz + xs.length * sz := by rw [← Nat.add_mul]; congr 1; omega
    omega
   have : ¬ (i * sz + j < xs.length * sz) := by
    have : xs.length * sz ≤ i * sz := Nat.mul_le_mul_right _ (by omega)
    omega
   rw [if_neg this, e, h1]
theorem wB {P : Program} {w : World} {ro : Ro} {sz : Nat} {ys : List D} {a : Addr} (hok : ∀ (i : Nat) (x : D), ys[i]? = some x → x.BO sz)
  (hc : ∀ (i : Nat) (x : D) (j : Nat) (c : D), ys[i]? = some x → x.cells[j]? = some c → ∃ v, w.cell? (a.add (i * sz + j)) = some v ∧ DR ro c v) :
  ∃ C, (loadCells a (ys.length * sz)).run P w = .ok C w ∧ FC ro sz ys C := by
 have key : ∀ k, k < ys.length * sz → w.cell? (a.add k) = some ((w.cell? (a.add k)).getD undef) := by
  intro k hk
  obtain ⟨h1, h2, h3⟩ := z8 hk
  have hy : ys[k / sz]? = some ys[k / sz] := List.getElem?_eq_getElem h1
  have hj : k % sz < ys[k / sz].cells.length := by rw [(hok _ _ hy).1]; exact h2
  obtain ⟨u, k1, k2⟩ := hc _ _ _ _ hy (List.getElem?_eq_getElem hj)
  rw [← h3] at k1
  rw [k1]; rfl
 refine ⟨_, run_loadCells (P := P) w a (ys.length * sz) (fun k => (w.cell? (a.add k)).getD undef) key, ?_⟩
 refine ⟨by simp, hok, fun i x j c hx hj => ?_⟩
 obtain ⟨v, k1, k2⟩ := hc i x j c hx hj
 refine ⟨v, ?_, k2⟩
 have hxl := bE hx
 have hjl := bE hj
 have := (hok i x hx).1
 have hlt : i * sz + j < ys.length * sz := by
  have : (i + 1) * sz ≤ ys.length * sz := Nat.mul_le_mul_right _ hxl
  rw [Nat.add_mul] at this
  omega
 rw [List.getElem?_toArray, List.getElem?_map, List.getElem?_range hlt]
 simp [k1]
theorem kr (s : ByteArray) : s.extract 0 s.size = s := by
 apply ByteArray.ext
 rw [ByteArray.data_extract]
 exact Array.extract_eq_self_of_le (Nat.le_refl _)
theorem nG {P : Program} {σ : List Ob} {sz : Nat} {x : AV} {ys : List D} {ro : Ro} {μ : Mu} {w : World} {v : Value} (g : Good ro μ w (hp σ)) (hv : VR ro μ x v) (h : elems σ sz x = some ys) :
  (Builtin.lenOf v).run P w = .ok ys.length w ∧ ∃ C, (Builtin.firstCells sz ys.length v).run P w = .ok C w ∧ FC ro sz ys C := by
 unfold elems at h
 split at h
 ·rename_i id sz' off len cap
  split at h
  ·rename_i Ma xs wr e
   split at h
   ·rename_i hc
    obtain ⟨rfl, rfl, hc3⟩ := hc
    simp only [Option.some.injEq] at h
    subst h
    rcases pz hv with ⟨L, c, a, rfl, hL, hsz, hlc, hcap, ha⟩ | ⟨rfl, rfl, rfl⟩
    rotate_left
    ·rw [List.take_zero]
     exact ⟨rfl, #[], rfl, ⟨by simp, fun i x hx => by simp at hx, fun i x j c hx => by simp at hx⟩⟩
    have hlen : ((xs.drop off).take len).length = len := by simp; omega
    have zm := g.ob id
    rw [dI e] at zm
    obtain ⟨C, T, fz, h0, hh, hf, hCs, hlim, hw, hz, hcell⟩ := zm L hL
    have hget : ∀ i x, ((xs.drop off).take len)[i]? = some x → xs[off + i]? = some x ∧ i < len := by
     intro i x hx
     rw [List.getElem?_take, List.getElem?_drop] at hx
     split at hx
     ·exact ⟨hx, by assumption⟩
     ·cases hx
    rw [hlen]
    refine ⟨rfl, ?_⟩
    have := wB (P := P) (w := w) (ro := ro) (sz := Ma) (a := a) (ys := (xs.drop off).take len) (fun i x hx => hz _ x (hget i x hx).1) (fun i x j c' hx hj => ?_)
    ·rw [hlen] at this
     exact this
    ·obtain ⟨q1, q2⟩ := hget i x hx
     obtain ⟨rfl, _⟩ := ha (by omega)
     obtain ⟨v, k1, k2⟩ := hcell _ x j c' q1 hj
     refine ⟨v, ?_, k2⟩
     rw [iL, sQ hh, ← k1]
     congr 1
     rw [Nat.add_mul]; omega
   ·cases h
  ·cases h
 ·rename_i sz' xs
  split at h
  ·rename_i hc
   subst hc
   simp only [Option.some.injEq] at h
   subst h
   rcases wW hv with ⟨a, cap, gg, rfl, hl, hsp, hz, k1, k2⟩ | ⟨rfl, rfl⟩
   rotate_left
   ·exact ⟨rfl, #[], rfl, ⟨by simp, fun i x hx => by simp at hx, fun i x j c hx => by simp at hx⟩⟩
   refine ⟨rfl, wB hz (fun i x j c hx hj => ?_)⟩
   have ea : a = cellAt a.block a.off := zo (hsp (by rintro rfl; simp at hx))
   refine ⟨_, ?_, k2 i x j c hx hj⟩
   rw [ea, iL]
   exact g.vH _ _ (k1 i x j c hx hj)
  ·cases h
 ·simp only [Option.some.injEq] at h
  subst h
  obtain rfl := fA hv rfl
  exact ⟨rfl, #[], rfl, ⟨by simp, fun i x hx => by simp at hx, fun i x j c hx => by simp at hx⟩⟩
 ·rename_i s
  split at h
  ·rename_i hc
   subst hc
   simp only [Option.some.injEq] at h
   subst h
   obtain rfl := fA hv rfl
   have hlen : (bytesD s).length = s.size := by simp [bytesD]
   rw [hlen]
   refine ⟨rfl, _, rfl, ?_⟩
   rw [kr]
   refine ⟨by simp [hlen], fun i x hx => ?_, fun i x j c hx hj => ?_⟩
   ·simp only [bytesD, List.getElem?_map, Option.map_eq_some_iff] at hx
    obtain ⟨b, hb, rfl⟩ := hx
    exact ⟨rfl, fun c hc => by simp only [D.cells, List.mem_singleton] at hc; subst hc; rfl⟩
   ·simp only [bytesD, List.getElem?_map, Option.map_eq_some_iff] at hx
    obtain ⟨b, hb, rfl⟩ := hx
    cases j with
    | zero =>
     simp only [D.cells, List.getElem?_cons_zero, Option.some.injEq] at hj
     subst hj
     refine ⟨.int .u8 b.toNat, ?_, .int _ _⟩
     simp only [Nat.mul_one, Nat.add_zero, Array.getElem?_map]
     have : s.data[i]? = some b := by simpa using hb
     rw [this]; rfl
    | succ j => simp [D.cells] at hj
  ·cases h
 ·cases h
theorem nextslicecap_le {n c : Nat} (h : c < n) : Builtin.nextslicecap n c ≤ 2 * n := by
 have hg : ∀ (r c : Nat), 256 ≤ c → c ≤ 2 * n → Builtin.growBy n r c ≤ 2 * n := by
  intro r
  induction r with
  | zero => intro c _ h2; simp [Builtin.growBy]; omega
  | succ r ih =>
   intro c h1 h2
   unfold Builtin.growBy
   split
   ·omega
   ·exact ih _ (by omega) (by omega)
 unfold Builtin.nextslicecap
 split
 ·omega
 ·split
  ·omega
  ·exact hg _ _ (by omega) (by omega)
theorem zP {P : Program} {w : World} {b o : Nat} {C : Array Value} {T : TypeId} {fz : Nat × Nat} {vs : List Value} (hC : w.heap[b]? = some (.cells C T fz)) (hf : u7 fz C.size) (hl : o + vs.length ≤ C.size)
  (h1 : ∀ x ∈ vs, x.oneCell' = true) : (storeCells (cellAt b o) vs).run P w = .ok () (w.setCells b o vs) := by
 have := run_storeCells_cells (P := P) b o vs 0 w (fun j hj => ?_) (fun j hj => ?_) h1
 ·simp only [Nat.add_zero] at this
  exact this
 ·simp only [World.cell?, hC, Option.isSome_none, Bool.false_eq_true, if_false, Nat.add_zero]
  simp; omega
 ·simp only [World.frozen?, hC, Nat.add_zero]
  have := hf.2 (o + j) (by omega)
  simpa using this
theorem QH {ro : Ro} {sz base off : Nat} {xs ys : List D} {C V : Array Value} (hz : ∀ (i : Nat) (x : D), xs[i]? = some x → x.BO sz)
  (hc : ∀ (i : Nat) (x : D) (j : Nat) (c : D), xs[i]? = some x → x.cells[j]? = some c → ∃ v, C[base + (i * sz + j)]? = some v ∧ DR ro c v) (hlim : base + xs.length * sz ≤ C.size)
  (k : FC ro sz ys V) (hl : off + ys.length ≤ xs.length) :
  (∀ (i : Nat) (x : D), (over xs off ys)[i]? = some x → x.BO sz) ∧
  (∀ (i : Nat) (x : D) (j : Nat) (c : D), (over xs off ys)[i]? = some x → x.cells[j]? = some c → ∃ v, (over C.toList (base + off * sz) V.toList).toArray[base + (i * sz + j)]? = some v ∧ DR ro c v) := by
 have hfit : off * sz + ys.length * sz ≤ xs.length * sz := by rw [← Nat.add_mul]; exact Nat.mul_le_mul_right _ hl
 have hov : base + off * sz + V.toList.length ≤ C.toList.length := by simp [k.size]; omega
 constructor
 ·intro i x hx
  rw [iI hl] at hx
  split at hx
  ·exact k.ok _ x hx
  ·exact hz _ x hx
 ·intro i x j c hx hj
  rw [List.getElem?_toArray, iI hov]
  simp only [Array.length_toList, k.size]
  rw [iI hl] at hx
  split at hx
  ·rename_i hi
   obtain ⟨v, k1, k2⟩ := k.get _ x j c hx hj
   have hjl := bE hj
   have hxs := (k.ok _ x hx).1
   have e : i * sz = off * sz + (i - off) * sz := by rw [← Nat.add_mul]; congr 1; omega
   have e2 : (i - off + 1) * sz ≤ ys.length * sz := Nat.mul_le_mul_right _ (by omega)
   rw [Nat.add_mul] at e2
   rw [if_pos (by omega)]
   refine ⟨v, ?_, k2⟩
   rw [show base + (i * sz + j) - (base + off * sz) = (i - off) * sz + j by omega]
   simpa using k1
  ·rename_i hi
   obtain ⟨v, k1, k2⟩ := hc i x j c hx hj
   have hjl := bE hj
   have hxs := (hz i x hx).1
   rw [if_neg ?_]
   ·exact ⟨v, by simpa using k1, k2⟩
   ·intro ⟨q1, q2⟩
    rcases Nat.lt_or_ge i off with q | q
    ·have : (i + 1) * sz ≤ off * sz := Nat.mul_le_mul_right _ q
     rw [Nat.add_mul] at this
     omega
    ·have : (off + ys.length) * sz ≤ i * sz := Nat.mul_le_mul_right _ (by omega)
     rw [Nat.add_mul] at this
     omega
end Lv
