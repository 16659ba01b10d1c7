/- Addresses, parts, slices of slices. -/
import Derived.Test.YtddopjhkmkoicaaGreatDoorLvOps2
/- Addresses, parts, slices of slices. -/
namespace Lv
open Go
set_option linter.unusedVariables false
set_option linter.unusedSimpArgs false
set_option linter.unusedSectionVars false
variable [BaseTab]
theorem zo {a : Addr} (h : a.spot = none) : a = cellAt a.block a.off := by cases a; simp_all [cellAt]
theorem Ez {P : Program} {t : TypeId} {f : Nat} {fd : Field} (h : q8 P t f = some fd) : ∃ fs, P.underlying t = some (.struct fs) ∧ fs[f]? = some fd := by
 unfold q8 at h
 split at h
 ·rename_i fs e; exact ⟨fs, e, h⟩
 ·cases h
theorem El {P : Program} {t : TypeId} {f : Nat} {fd : Field} {s b o : Nat} (h : q8 P t f = some fd) (hs : bU P fd.type = some s) (h0 : s ≠ 0) (w : World) :
  (Instr.fieldAt t (.pointer (some (cellAt b o))) f).run P w = .ok (.pointer (some (cellAt b (o + fd.offset)))) w := by
 obtain ⟨fs, e1, e2⟩ := Ez h
 simp [Instr.fieldAt, run_underlying e1, e2, Instr.sureAddr, fieldPlace, gq hs, h0, iL]
theorem D8 {P : Program} {t : TypeId} {f : Nat} {a x : AV} {ro : Ro} {μ : Mu} {v : Value} (hv : VR ro μ a v) (h : kT P t f a = some x) (w : World) :
  ∃ u, (Instr.fieldAt t v f).run P w = .ok u w ∧ VR ro μ x u := by
 unfold kT at h
 split at h
 ·rename_i id idx off
  split at h
  ·rename_i fd hf
   split at h
   ·rename_i s hs
    split at h
    ·cases h
    ·rename_i h0
     simp only [Option.some.injEq] at h
     subst h
     obtain ⟨L, hL, rfl⟩ := Ea hv
     refine ⟨_, El hf hs h0 w, ?_⟩
     have := VR.ref (ro := ro) id idx (off + fd.offset) L hL
     rwa [← Nat.add_assoc] at this
   ·cases h
  ·cases h
 ·rename_i cs
  split at h
  ·rename_i fd hf
   split at h
   ·rename_i s hs
    split at h
    ·cases h
    ·rename_i h0
     simp only [Option.some.injEq] at h
     subst h
     obtain ⟨b, o, g, rfl, h1, h2⟩ := Lc hv
     refine ⟨_, El hf hs h0 w, .rop _ b (o + fd.offset) (fun j => g (fd.offset + j)) (fun j c hj => ?_) (fun j c hj => ?_)⟩
     ·rw [List.getElem?_drop] at hj
      rw [Nat.add_assoc]
      exact h1 _ c hj
     ·rw [List.getElem?_drop] at hj
      exact h2 _ c hj
   ·cases h
  ·cases h
 ·cases h
theorem Yj {ro : Ro} {μ : Mu} {x : AV} {v : Value} (h : VR ro μ x v) (hx : x.isAgg = true) : ∃ C, v = .agg C ∧ VRs ro μ x.cells C := by
 have hne : x ≠ .undef := by rintro rfl; simp [AV.isAgg] at hx
 have hc := qA h hne
 cases h
 case agg cs C _ _ => exact ⟨C, rfl, hc⟩
 case d x h =>
  cases h
  case agg cs C _ _ => exact ⟨C, rfl, hc⟩
  all_goals simp [AV.isAgg] at hx
 all_goals simp [AV.isAgg] at hx
theorem K7 {P : Program} {t : TypeId} {f : Nat} {a x : AV} {ro : Ro} {μ : Mu} {v : Value} (hv : VR ro μ a v) (h : D9 P t f a = some x) (w : World) :
  ∃ u, (Instr.field t v f).run P w = .ok u w ∧ VR ro μ x u := by
 unfold D9 at h
 split at h
 ·rename_i fd hf
  split at h
  ·rename_i s g hs hg
   split at h
   ·rename_i ha
    obtain ⟨C, rfl, hc⟩ := Yj hv ha
    obtain ⟨fs, e1, e2⟩ := Ez hf
    have hvs := pX hc fd.offset s
    obtain ⟨hC, h1⟩ := zY hvs h
    have hin : s ≠ 0 → fd.offset + s ≤ C.size := by
     intro h0
     simp at hC
     omega
    rcases h1 with ⟨rfl, k⟩ | ⟨rfl, rfl, u, hu, k⟩
    ·refine ⟨.agg (C.extract fd.offset (fd.offset + s)), ?_, k⟩
     simp [Instr.field, run_underlying e1, e2, asAgg, part, F7 hg, gq hs]
    ·refine ⟨u, ?_, k⟩
     have hlt : fd.offset < C.size := by have := hin (by omega); omega
     have hu0 : C[fd.offset]? = some u := by
      have : (C.extract fd.offset (fd.offset + 1))[0]? = some u := by rw [hu]; rfl
      rw [Array.getElem?_extract] at this
      split at this
      ·simpa using this
      ·cases this
     simp [Instr.field, run_underlying e1, e2, asAgg, part, F7 hg, hu0]
   ·cases h
  ·cases h
 ·cases h
theorem toNat_lt {n : Int} {k : Nat} (h0 : 0 ≤ n) (h : n < (k : Int)) : n.toNat < k := by omega
theorem Ii {ro : Ro} {μ : Mu} {k : IntKind} {n : Int} {v : Value} (h : VR ro μ (.d (.int k n)) v) : v = .int k n := fA h rfl
theorem D7 {P : Program} {t : TypeId} {a i x : AV} {ro : Ro} {μ : Mu} {v u : Value} (hv : VR ro μ a v) (hi : VR ro μ i u) (h : kS P t a i = some x) (w : World) :
  ∃ r, (Instr.indexAt t v u).run P w = .ok r w ∧ VR ro μ x r := by
 unfold kS at h
 split at h
 ·rename_i k n
  obtain rfl := Ii hi
  split at h
  ·rename_i e hu
   split at h
   ·rename_i s hs
    split at h
    ·rename_i id sz off len cap
     split at h
     ·rename_i hc
      obtain ⟨h0, h1, rfl⟩ := hc
      simp only [Option.some.injEq] at h
      subst h
      rcases pz hv with ⟨L, c, a, rfl, hL, hsz, hl, hcap, ha⟩ | ⟨rfl, rfl, rfl⟩
      rotate_left
      ·exfalso; simp at h1; omega
      obtain ⟨rfl, _⟩ := ha (by omega)
      refine ⟨.pointer (some (cellAt L.blk (L.base + off * sz + n.toNat * sz))), ?_, ?_⟩
      ·simp [Instr.indexAt, asIntOf, run_underlying hu, h0, h1, gq hs, iL]
      ·have := VR.ref (ro := ro) id (off + n.toNat) 0 L hL
       rwa [hsz, Nat.add_mul, Nat.add_zero, ← Nat.add_assoc] at this
     ·cases h
    ·rename_i sz xs
     split at h
     ·rename_i hc
      obtain ⟨h0, rfl⟩ := hc
      split at h
      ·rename_i y hy
       simp only [Option.some.injEq] at h
       subst h
       rcases wW hv with ⟨a, cap, g, rfl, hl, hsp, hz, k1, k2⟩ | ⟨rfl, rfl⟩
       rotate_left
       ·simp at hy
       have hlt := bE hy
       have ea : a = cellAt a.block a.off := zo (hsp (by rintro rfl; simp at hlt))
       refine ⟨.pointer (some (cellAt a.block (a.off + n.toNat * sz))), ?_, ?_⟩
       ·have : n < (xs.length : Int) := by omega
        rw [ea]
        simp only [Instr.indexAt, Sem.run_bind, asIntOf, Sem.run_pure, Result.andThen_ok, run_underlying hu, h0, this, and_self, if_true, gq hs, iL]
        rfl
       ·refine .rop _ a.block _ (fun j => g (n.toNat * sz + j)) (fun j c hj => ?_) (fun j c hj => k2 _ y j c hy hj)
        have := k1 _ y j c hy hj
        rwa [← Nat.add_assoc] at this
      ·cases h
     ·cases h
    ·cases h
   ·cases h
  ·rename_i len e hu
   split at h
   ·rename_i s hs
    split at h
    ·rename_i id idx off
     split at h
     ·rename_i hc
      obtain ⟨h0, h1⟩ := hc
      simp only [Option.some.injEq] at h
      subst h
      obtain ⟨L, hL, rfl⟩ := Ea hv
      refine ⟨.pointer (some (cellAt L.blk (L.base + idx * L.sz + off + n.toNat * s))), ?_, ?_⟩
      ·simp [Instr.indexAt, asIntOf, run_underlying hu, Instr.sureAddr, h0, h1, gq hs, iL]
      ·have := VR.ref (ro := ro) id idx (off + n.toNat * s) L hL
       rwa [← Nat.add_assoc] at this
     ·cases h
    ·cases h
   ·cases h
  ·cases h
 ·cases h
theorem yU {P : Program} {ro : Ro} {μ : Mu} {x : Option AV} {v : Option Value} {l : Option Nat} (hx : ∀ y, x = some y → ∃ u, v = some u ∧ VR ro μ y u) (hn : x = none → v = none) (h : pU x = some l) :
  (l = none ∧ v = none) ∨ ∃ k n, v = some (.int k n) ∧ 0 ≤ n ∧ l = some n.toNat := by
 unfold pU at h
 split at h
 ·simp only [Option.some.injEq] at h
  exact .inl ⟨h.symm, hn rfl⟩
 ·rename_i k n
  split at h
  ·rename_i h0
   simp only [Option.some.injEq] at h
   obtain ⟨u, rfl, hu⟩ := hx _ rfl
   obtain rfl := Ii hu
   exact .inr ⟨k, n, rfl, h0, h.symm⟩
  ·cases h
 ·cases h
theorem run_sliceBound {P : Program} {k : IntKind} {n : Int} {y : Nat} {code : BoundsCode} (h0 : 0 ≤ n) (h : n.toNat ≤ y) (w : World) : (Instr.sliceBound (.int k n) y code).run P w = .ok n.toNat w := by
 have : n ≤ (y : Int) := by omega
 simp [Instr.sliceBound, asIntOf, h0, this]
theorem jU {P : Program} {lo hi mx : Option Value} {l h m : Option Nat} {len cap : Nat} (hl : (l = none ∧ lo = none) ∨ ∃ k n, lo = some (.int k n) ∧ 0 ≤ n ∧ l = some n.toNat)
  (hh : (h = none ∧ hi = none) ∨ ∃ k n, hi = some (.int k n) ∧ 0 ≤ n ∧ h = some n.toNat) (hm : (m = none ∧ mx = none) ∨ ∃ k n, mx = some (.int k n) ∧ 0 ≤ n ∧ m = some n.toNat)
  (h1 : l.getD 0 ≤ h.getD len) (h2 : h.getD len ≤ m.getD cap) (h3 : m.getD cap ≤ cap) (h4 : m.isSome → h.isSome) (w : World) :
  (Instr.sliceBounds true len cap lo hi mx).run P w = .ok (l.getD 0, h.getD len, m.getD cap) w := by
 rcases hm with ⟨rfl, rfl⟩ | ⟨km, nm, rfl, hm0, rfl⟩
 ·rcases hh with ⟨rfl, rfl⟩ | ⟨kh, nh, rfl, hh0, rfl⟩
  ·rcases hl with ⟨rfl, rfl⟩ | ⟨kl, nl, rfl, hl0, rfl⟩
   ·simp [Instr.sliceBounds]
   ·simp only [Option.getD_some, Option.getD_none] at h1 h2 h3
    simp [Instr.sliceBounds, run_sliceBound hl0 h1]
  ·rcases hl with ⟨rfl, rfl⟩ | ⟨kl, nl, rfl, hl0, rfl⟩
   ·simp only [Option.getD_some, Option.getD_none] at h1 h2 h3
    simp [Instr.sliceBounds, run_sliceBound hh0 h2]
   ·simp only [Option.getD_some, Option.getD_none] at h1 h2 h3
    simp [Instr.sliceBounds, run_sliceBound hh0 h2, run_sliceBound hl0 h1]
 ·rcases hh with ⟨rfl, rfl⟩ | ⟨kh, nh, rfl, hh0, rfl⟩
  ·simp at h4
  ·rcases hl with ⟨rfl, rfl⟩ | ⟨kl, nl, rfl, hl0, rfl⟩
   ·simp only [Option.getD_some, Option.getD_none] at h1 h2 h3
    simp [Instr.sliceBounds, run_sliceBound hm0 h3, run_sliceBound hh0 h2]
   ·simp only [Option.getD_some, Option.getD_none] at h1 h2 h3
    simp [Instr.sliceBounds, run_sliceBound hm0 h3, run_sliceBound hh0 h2, run_sliceBound hl0 h1]
theorem K4 {P : Program} {t : TypeId} {a x : AV} {lo hi mx : Option AV} {ro : Ro} {μ : Mu} {v : Value} {lv hv mv : Option Value} (hva : VR ro μ a v)
  (hlo : ∀ y, lo = some y → ∃ u, lv = some u ∧ VR ro μ y u) (ace : lo = none → lv = none) (hhi : ∀ y, hi = some y → ∃ u, hv = some u ∧ VR ro μ y u) (acf : hi = none → hv = none)
  (hmx : ∀ y, mx = some y → ∃ u, mv = some u ∧ VR ro μ y u) (ag3 : mx = none → mv = none) (h : aslice P t a lo hi mx = some x) (w : World) :
  ∃ r, (Instr.sliceAt t v lv hv mv).run P w = .ok r w ∧ VR ro μ x r := by
 unfold aslice at h
 split at h
 ·rename_i e hu
  split at h
  ·rename_i s l' h' m' hs hl hh hm
   have bl := yU (P := P) hlo ace hl
   have bh := yU (P := P) hhi acf hh
   have bm := yU (P := P) hmx ag3 hm
   split at h
   ·rename_i id sz off len cap
    split at h
    ·rename_i hc
     obtain ⟨hc1, hc2⟩ := hc
     subst hc1
     rcases pz hva with ⟨L, c, a, rfl, hL, hsz, hlc, hcap, ha⟩ | ⟨rfl, rfl, rfl⟩
     rotate_left
     ·unfold reslice at h
      split at h
      ·simp only at h
       split at h
       ·rename_i hk
        simp only [Option.some.injEq] at h
        subst h
        have hb := jU (P := P) (len := 0) (cap := 0) bl bh bm hc2 (by simpa using hk) (by simp) (by simp) w
        have e1 : h'.getD 0 - l'.getD 0 = 0 := by omega
        have e2 : l'.getD 0 = 0 := by omega
        rw [e1]
        refine ⟨.slice none 0 0, ?_, .dX _ _ _⟩
        simp only [Instr.sliceAt, Sem.run_bind, run_underlying hu, Result.andThen_ok, Instr.slice, hb, gq hs, e1, e2]
        simp
        omega
       ·cases h
      ·simp at h
     -- with the machine's capacity
     have fin : ∀ (cap' : Option Nat), h'.getD len ≤ m'.getD c → m'.getD c ≤ c → (m'.isSome → h'.isSome) → (∀ k, cap' = some k → m'.getD c - l'.getD 0 = k) →
       ∃ r, (Instr.sliceAt t (.slice (some a) len c) lv hv mv).run P w = .ok r w ∧ VR ro μ (.slc id sz (off + l'.getD 0) (h'.getD len - l'.getD 0) cap') r := by
      intro cap' h2 h3 h4 h5
      have hb := jU (P := P) bl bh bm hc2 h2 h3 h4 w
      refine ⟨.slice (some (if m'.getD c = l'.getD 0 then a else a.add (l'.getD 0 * sz))) (h'.getD len - l'.getD 0) (m'.getD c - l'.getD 0), ?_, ?_⟩
      ·simp only [Instr.sliceAt, Sem.run_bind, run_underlying hu, Result.andThen_ok, Instr.slice, hb, gq hs]
       simp only [Sem.run_pure]
       split <;> rfl
      ·refine .slc id sz _ _ cap' L _ _ hL hsz (by omega) h5 (fun hne => ?_)
       obtain ⟨rfl, hlim⟩ := ha (by omega)
       rw [if_neg (by omega), iL]
       refine ⟨by rw [Nat.add_mul, Nat.add_assoc], ?_⟩
       have : (off + l'.getD 0) * sz + (m'.getD c - l'.getD 0) * sz = (off + m'.getD c) * sz := by rw [← Nat.add_mul]; congr 1; omega
       rw [this]
       have : (off + m'.getD c) * sz ≤ (off + c) * sz := Nat.mul_le_mul_right _ (by omega)
       rw [Nat.add_mul off c] at this
       omega
     unfold reslice at h
     split at h
     ·split at h
      ·rename_i k
       split at h
       ·rename_i hk
        simp only [Option.some.injEq] at h
        subst h
        have := hcap k rfl
        subst this
        exact fin _ (by simpa using hk) (by simp) (by simp) (by simp)
       ·cases h
      ·split at h
       ·rename_i hk
        simp only [Option.some.injEq] at h
        subst h
        exact fin none (by simp; omega) (by simp) (by simp) (by simp)
       ·cases h
     ·rename_i m''
      split at h
      ·rename_i hk
       obtain ⟨k1, k2, k3⟩ := hk
       simp only [Option.some.injEq] at h
       subst h
       refine fin _ (by simpa using k2) ?_ (fun _ => k1) (by simp)
       simp only [Option.getD_some]
       cases cap with
       | none => simp at k3; omega
       | some k => have := hcap k rfl; simp at k3; omega
      ·cases h
    ·cases h
   ·rename_i sz xs
    split at h
    ·rename_i hc
     obtain ⟨rfl, hc1, hc2, rfl⟩ := hc
     simp only [Option.some.injEq] at h
     subst h
     rcases wW hva with ⟨a, cap, g, rfl, hlc, hsp, hz, k1, k2⟩ | ⟨rfl, rfl⟩
     rotate_left
     ·simp only [List.length_nil] at hc1 hc2
      have hb := jU (P := P) (len := 0) (cap := 0) bl bh bm hc1 (by simpa using hc2) (by simp) (by simp) w
      have e1 : h'.getD 0 - l'.getD 0 = 0 := by omega
      have e2 : l'.getD 0 = 0 := by omega
      refine ⟨.slice none 0 0, ?_, ?_⟩
      ·simp only [Option.getD_none] at hb
       simp only [Instr.sliceAt, Sem.run_bind, run_underlying hu, Result.andThen_ok, Instr.slice, hb, gq hs, e1, e2]
       simp
       omega
      ·simp only [List.drop_nil, List.take_nil]
       exact .d _ _ (.nl sz)
     have hb := jU (P := P) (len := xs.length) (cap := cap) bl bh bm hc1 (by simp; omega) (by simp) (by simp) w
     simp only [Option.getD_none] at hb
     refine ⟨.slice (some (if cap = l'.getD 0 then a else a.add (l'.getD 0 * sz))) (h'.getD xs.length - l'.getD 0) (cap - l'.getD 0), ?_, ?_⟩
     ·simp only [Instr.sliceAt, Sem.run_bind, run_underlying hu, Result.andThen_ok, Instr.slice, hb, gq hs]
      simp only [Sem.run_pure]
      split <;> simp_all
     ·have hlen : ((xs.drop (l'.getD 0)).take (h'.getD xs.length - l'.getD 0)).length = h'.getD xs.length - l'.getD 0 := by simp; omega
      have hget : ∀ i x, ((xs.drop (l'.getD 0)).take (h'.getD xs.length - l'.getD 0))[i]? = some x → xs[l'.getD 0 + i]? = some x ∧ i < h'.getD xs.length - l'.getD 0 := by
       intro i x hx
       rw [List.getElem?_take, List.getElem?_drop] at hx
       split at hx
       ·exact ⟨hx, by assumption⟩
       ·cases hx
      have hadd : ∀ i x, xs[l'.getD 0 + i]? = some x → i < h'.getD xs.length - l'.getD 0 → (if cap = l'.getD 0 then a else a.add (l'.getD 0 * sz)) = cellAt a.block (a.off + l'.getD 0 * sz) := by
       intro i x hx hi
       have ea : a = cellAt a.block a.off := zo (hsp (by rintro rfl; simp at hx))
       rw [if_neg (by omega)]
       conv => lhs; rw [ea]
       rw [iL]
      have hd := VR.d (ro := ro) (μ := μ) (.xI sz ((xs.drop (l'.getD 0)).take (h'.getD xs.length - l'.getD 0))) (.slice (some (if cap = l'.getD 0 then a else a.add (l'.getD 0 * sz))) ((xs.drop (l'.getD 0)).take (h'.getD xs.length - l'.getD 0)).length (cap - l'.getD 0))
       (.xI sz _ _ _ (fun k => g (l'.getD 0 * sz + k)) (by omega) (fun hne => ?_) (fun i x hx => hz _ x (hget i x hx).1) (fun i x j c hx hj => ?_) (fun i x j c hx hj => ?_))
      ·rw [hlen] at hd; exact hd
      ·obtain ⟨i, hi⟩ := List.exists_mem_of_ne_nil _ hne
       obtain ⟨j, hj⟩ := List.getElem?_of_mem hi
       obtain ⟨q1, q2⟩ := hget j i hj
       rw [hadd j i q1 q2]; rfl
      ·obtain ⟨q1, q2⟩ := hget i x hx
       rw [hadd i x q1 q2]
       have := k1 _ x j c q1 hj
       rw [Nat.add_mul] at this
       simp only [cellAt] at this ⊢
       rw [show a.off + l'.getD 0 * sz + (i * sz + j) = a.off + (l'.getD 0 * sz + i * sz + j) by omega, this]
       congr 2
       omega
      ·obtain ⟨q1, q2⟩ := hget i x hx
       have := k2 _ x j c q1 hj
       rwa [Nat.add_mul, Nat.add_assoc] at this
    ·cases h
   ·split at h
    ·rename_i hc
     obtain ⟨c1, c2, c3, c4⟩ := hc
     simp only [Option.some.injEq] at h
     subst h
     obtain rfl := fA hva rfl
     have hb := jU (P := P) (len := 0) (cap := 0) bl bh bm (by omega) (by omega) (by omega) c4 w
     rw [c1, c2, c3] at hb
     refine ⟨.slice none 0 0, ?_, .d _ _ .aA⟩
     simp only [Instr.sliceAt, Sem.run_bind, run_underlying hu, Result.andThen_ok, Instr.slice, hb, gq hs]
     simp
    ·cases h
   ·cases h
  ·cases h
 ·rename_i hu
  have hat : ∀ lv hv mv, (Instr.sliceAt t v lv hv mv).run P w = (Instr.slice t v lv hv mv).run P w := by
   intro lv hv mv
   simp only [Instr.sliceAt, Sem.run_bind, run_underlying hu, Result.andThen_ok]
  rw [hat]
  have fin : ∀ (s : Sem Value) (y : AV), (match pr P s with
    | some u => (match lW u with | some y => some (AV.d y) | none => none)
    | none => none) = some y → ∃ r, s.run P w = .ok r w ∧ VR ro μ y r := by
   intro s y hy
   split at hy
   ·rename_i u hu
    split at hy
    ·rename_i z hz
     simp only [Option.some.injEq] at hy
     subst hy
     exact ⟨u, Gx hu w, NH hz⟩
    ·cases hy
   ·cases hy
  split at h
  ·rename_i v' hv'
   obtain rfl := fA hva hv'
   obtain rfl := ag3 rfl
   split at h
   ·rw [ace rfl, acf rfl]; exact fin _ _ h
   ·rename_i l
    obtain ⟨u, rfl, hu2⟩ := hlo _ rfl
    split at h
    ·rename_i lv' e
     obtain rfl := fA hu2 e
     rw [acf rfl]; exact fin _ _ h
    ·cases h
   ·rename_i l
    obtain ⟨u, rfl, hu2⟩ := hhi _ rfl
    split at h
    ·rename_i lv' e
     obtain rfl := fA hu2 e
     rw [ace rfl]; exact fin _ _ h
    ·cases h
   ·obtain ⟨u, rfl, hu2⟩ := hlo _ rfl
    obtain ⟨u', rfl, hu3⟩ := hhi _ rfl
    split at h
    ·rename_i lv' hv' e e'
     obtain rfl := fA hu2 e
     obtain rfl := fA hu3 e'
     exact fin _ _ h
    ·cases h
  ·cases h
 ·cases h
end Lv
