/- copy, make, literals, conversions, comparisons with nil. -/
import Derived.Test.YtddopjhkmkoicaaGreatDoorLvOps5
/- copy, make, literals, conversions, comparisons with nil. -/
namespace Lv
open Go
set_option linter.unusedVariables false
set_option linter.unusedSimpArgs false
set_option linter.unusedSectionVars false
variable [BaseTab]
theorem FC.take {ro : Ro} {sz n : Nat} {ys : List D} {C : Array Value} (h : FC ro sz ys C) (hn : n ≤ ys.length) : FC ro sz (ys.take n) (C.extract 0 (n * sz)) := by
 have hs : n * sz ≤ ys.length * sz := Nat.mul_le_mul_right _ hn
 refine ⟨by simp only [Array.size_extract, h.size, List.length_take]; rw [Nat.min_eq_left hs, Nat.min_eq_left hn]; omega, fun i x hx => ?_, fun i x j c hx hj => ?_⟩
 ·rw [List.getElem?_take] at hx
  split at hx
  ·exact h.ok i x hx
  ·cases hx
 ·rw [List.getElem?_take] at hx
  split at hx
  ·rename_i hi
   obtain ⟨v, k1, k2⟩ := h.get i x j c hx hj
   refine ⟨v, ?_, k2⟩
   have hjl := bE hj
   have := (h.ok i x hx).1
   have e : (i + 1) * sz ≤ n * sz := Nat.mul_le_mul_right _ hi
   rw [Nat.add_mul] at e
   rw [Array.getElem?_extract, if_pos (by rw [h.size]; omega)]
   simpa using k1
  ·cases hx
theorem qP {P : Program} {σ : List Ob} {sz n : Nat} {x : AV} {ys : List D} {ro : Ro} {μ : Mu} {w : World} {v : Value} (g : Good ro μ w (hp σ)) (hv : VR ro μ x v) (h : elems σ sz x = some ys) (hn : n ≤ ys.length) :
  ∃ C, (Builtin.firstCells sz n v).run P w = .ok C w ∧ FC ro sz (ys.take n) C := by
 unfold elems at h
 split at h
 ·rename_i id sz' off len cap
  split at h
  ·rename_i Ma xs wr e
   split at h
   ·rename_i hc
    obtain ⟨rfl, rfl, hc3⟩ := hc
    simp only [Option.some.injEq] at h
    subst h
    have hl : ((xs.drop off).take len).length = len := by simp; omega
    have : elems σ Ma (.slc id Ma off n none) = some (((xs.drop off).take len).take n) := by
     simp only [elems, e, true_and]
     rw [if_pos (by omega), List.take_take, Nat.min_eq_left (by omega)]
    rcases pz hv with ⟨L, c, a, rfl, hL, hsz, hlc, hcap, ha⟩ | ⟨rfl, rfl, rfl⟩
    rotate_left
    ·have hn0 : n = 0 := by simp at hn; omega
     subst hn0
     refine ⟨#[], rfl, ?_⟩
     rw [List.take_zero]
     exact FC.nil ro _
    have hv2 : VR ro μ (.slc id Ma off n none) (.slice (some a) n c) := .slc id Ma off n none L c a hL hsz (by omega) (by simp) ha
    obtain ⟨_, C, h1, h2⟩ := nG (P := P) g hv2 this
    refine ⟨C, ?_, h2⟩
    rw [List.length_take, Nat.min_eq_left hn] at h1
    exact h1
   ·cases h
  ·cases h
 ·rename_i sz' xs
  split at h
  ·rename_i hc
   subst hc
   simp only [Option.some.injEq] at h
   subst h
   rcases wW hv with ⟨a, cap, gg, rfl, hl, hsp, hz, k1, k2⟩ | ⟨rfl, rfl⟩
   rotate_left
   ·have hn0 : n = 0 := by simpa using hn
    subst hn0
    exact ⟨#[], rfl, FC.nil ro _⟩
   have := wB (P := P) (w := w) (ro := ro) (sz := sz') (a := a) (ys := xs.take n) (fun i x hx => ?_) (fun i x j c hx hj => ?_)
   ·rw [List.length_take, Nat.min_eq_left hn] at this
    exact this
   ·rw [List.getElem?_take] at hx
    split at hx
    ·exact hz i x hx
    ·cases hx
   ·rw [List.getElem?_take] at hx
    split at hx
    ·have ea : a = cellAt a.block a.off := zo (hsp (by rintro rfl; simp at hx))
     refine ⟨_, ?_, k2 i x j c hx hj⟩
     rw [ea, iL]
     exact g.vH _ _ (k1 i x j c hx hj)
    ·cases hx
  ·cases h
 ·simp only [Option.some.injEq] at h
  subst h
  obtain rfl := fA hv rfl
  refine ⟨#[], rfl, ?_⟩
  simpa using FC.nil ro sz
 ·rename_i s
  split at h
  ·rename_i hc
   subst hc
   simp only [Option.some.injEq] at h
   subst h
   have hv' := hv
   obtain rfl := fA hv rfl
   obtain ⟨_, C, h1, h2⟩ := nG (P := P) g hv' (by simp [elems] : elems σ 1 (.d (.str s)) = some (bytesD s))
   have h3 := h2.take hn
   refine ⟨_, ?_, h3⟩
   have hlen : (bytesD s).length = s.size := by simp [bytesD]
   rw [hlen] at h1
   simp only [Builtin.firstCells, Sem.run_pure, Result.ok.injEq, and_true] at h1 ⊢
   rw [kr] at h1
   subst h1
   apply Array.ext'
   simp [ByteArray.data_extract]
  ·cases h
 ·cases h
theorem Nz {P : Program} {σ σ' : List Ob} {t ty : TypeId} {at_ : Array TypeId} {s x r : AV} {ro : Ro} {μ : Mu} {w : World} {v u : Value} (g : Good ro μ w (hp σ))
  (h0 : at_[0]? = some t) (hs : VR ro μ s v) (hx : VR ro μ x u) (h : NA P σ t s x = some (r, σ')) : Step P (Builtin.copy_ at_ ty #[v, u]) ro μ w σ r σ' := by
 unfold NA at h
 split at h
 ·rename_i e hu
  split at h
  ·rename_i z hz
   split at h
   ·rename_i ys hel
    obtain ⟨hlen, _, _, _⟩ := nG (P := P) g hx hel
    split at h
    ·simp only [Option.some.injEq, Prod.mk.injEq] at h
     obtain ⟨rfl, rfl⟩ := h
     obtain rfl := fA hs rfl
     obtain ⟨C, hC, hfc⟩ := qP (P := P) (n := 0) g hx hel (by omega)
     refine Step.still g ⟨.int .i64 0, ?_, .d _ _ (.int _ _)⟩
     simp [Builtin.copy_, h0, run_underlying hu, hlen, gq hz, hC, goInt]
    ·rename_i id sz off len cap
     split at h
     ·rename_i sz' xs hid
      split at h
      ·rename_i hc
       obtain ⟨c1, c2, c3⟩ := hc
       subst c1
       subst c2
       simp only [Option.some.injEq, Prod.mk.injEq] at h
       obtain ⟨rfl, rfl⟩ := h
       rcases pz hs with ⟨L, c, a, rfl, hL, hsz, hlc, hcap, ha⟩ | ⟨rfl, rfl, rfl⟩
       rotate_left
       ·obtain ⟨C, hC, hfc⟩ := qP (P := P) (n := 0) g hx hel (by omega)
        have he : over xs off (ys.take 0) = xs := by simp [over]
        have hs1 : σ.set id (.row sz' xs true) = σ := by
         apply List.ext_getElem?
         intro i
         rw [List.getElem?_set]
         split
         ·rename_i e; subst e
          split
          ·exact hid.symm
          ·rename_i q; exact absurd (bE hid) q
         ·rfl
        rw [he, hs1]
        refine Step.still g ⟨.int .i64 0, ?_, ?_⟩
        ·simp [Builtin.copy_, h0, run_underlying hu, hlen, gq hz, hC, goInt]
        ·have e0 : Nat.min ys.length 0 = 0 := by simp
         rw [e0]
         exact .d _ _ (.int _ _)
       obtain ⟨C, hC, hfc⟩ := qP (P := P) (n := Nat.min ys.length len) g hx hel (Nat.min_le_left _ _)
       have htk : ys.take (Nat.min ys.length len) = ys.take len := by
        rcases Nat.le_total ys.length len with q | q
        ·rw [show Nat.min ys.length len = ys.length from Nat.min_eq_left q, List.take_length, List.take_of_length_le q]
        ·rw [show Nat.min ys.length len = len from Nat.min_eq_right q]
       rw [htk] at hfc
       have zm := g.ob id
       rw [dI hid] at zm
       obtain ⟨A, T, fz, o0, hh, hf, hCs, hlim, hw, hz', hcell⟩ := zm L hL
       have htl : (ys.take len).length ≤ len := List.length_take_le _ _
       have hfit : off + (ys.take len).length ≤ xs.length := by omega
       have G8 : L.base + off * sz' + C.size ≤ A.size := by
        rw [hfc.size]
        have : (off + (ys.take len).length) * sz' ≤ xs.length * sz' := Nat.mul_le_mul_right _ hfit
        rw [Nat.add_mul] at this
        omega
       obtain ⟨k1, k2, k3, k4, k5, k6⟩ := mq L.blk T fz C.toList (L.base + off * sz') w A hh (by simpa using G8)
       have hst : (storeCells a C.toList).run P w = .ok () (w.setCells L.blk (L.base + off * sz') C.toList) := by
        rcases Nat.eq_zero_or_pos c with q | q
        ·have hy0 : (ys.take len).length = 0 := by omega
         have hC0 : C = #[] := Array.eq_empty_of_size_eq_zero (by rw [hfc.size, hy0, Nat.zero_mul])
         subst hC0
         rfl
        ·obtain ⟨rfl, _⟩ := ha (by omega)
         exact zP (P := P) hh hf (by simpa using G8) hfc.one
       obtain ⟨r1, r2⟩ := QH (off := off) hz' hcell (by omega) hfc hfit
       have hsz2 : (over A.toList (L.base + off * sz') C.toList).length = A.size := by rw [gy (by simpa using G8)]; simp
       have := g.write (n := id) (o := .row sz' (over xs off (ys.take len)) true) (L := L) (by rw [dI hid]; rfl) hL k2 k3 k4 k5 k6 (by
        intro L' hL'
        rw [hL] at hL'; cases hL'
        refine ⟨_, T, fz, o0, k1, ?_, ?_, ?_, (fun e => Bool.noConfusion e), r1, r2⟩
        ·rw [List.size_toArray, hsz2]; exact hf
        ·rw [List.size_toArray, hsz2]; exact hCs
        ·rw [gy hfit]; exact hlim)
       rw [← ng (bE hid)] at this
       refine ⟨.int .i64 (Nat.min ys.length len), ro, μ, _, ?_, .d _ _ (.int _ _), this.1, this.2, fun _ h => absurd rfl h, by simp⟩
       simp only [Builtin.copy_, h0, List.getElem?_toArray, List.getElem?_cons_zero, List.getElem?_cons_succ, Sem.run_bind, run_underlying hu, Result.andThen_ok, hlen, gq hz, hC, hst, Sem.run_pure, goInt]
      ·cases h
     ·cases h
    ·cases h
   ·cases h
  ·cases h
 ·cases h
end Lv
