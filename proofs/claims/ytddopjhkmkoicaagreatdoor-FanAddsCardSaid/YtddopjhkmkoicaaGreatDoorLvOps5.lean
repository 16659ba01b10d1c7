/- append, copy. -/
import Derived.Test.YtddopjhkmkoicaaGreatDoorLvOps4
/- append, copy. -/
namespace Lv
open Go
set_option linter.unusedVariables false
set_option linter.unusedSimpArgs false
set_option linter.unusedSectionVars false
variable [BaseTab]
theorem OR.congr {ro : Ro} {μ : Mu} {w w' : World} {id : Nat} {o : Ob} (h : OR ro μ w id o) (hw : w'.heap = w.heap) : OR ro μ w' id o := by
 cases o with
 | dead => trivial
 | box x => intro L hL; rw [hw]; exact h L hL
 | row sz xs wr => intro L hL; rw [hw]; exact h L hL
 | map es => intro L hL; rw [hw]; exact h L hL
theorem Good.congr {ro : Ro} {μ : Mu} {w w' : World} {H : Hp} (g : Good ro μ w H) (hw : w'.heap = w.heap) : Good ro μ w' H :=
 ⟨fun a v h => by rw [mI (w := w) (by rw [hw])]; exact g.vH a v h, fun id => (g.ob id).congr hw, g.apart, g.iN, g.base⟩
theorem Ext.congr {ro ro' : Ro} {μ μ' : Mu} {w w1 w' : World} {H H' : Hp} (x : Ext ro μ w1 H ro' μ' w' H') (hw : w1.heap = w.heap) (h1 : w1.os = w.os) (h2 : w1.tape = w.tape) (h3 : w1.output = w.output) : Ext ro μ w H ro' μ' w' H' :=
 ⟨x.GI, x.mR, by rw [← hw]; exact x.tN, by rw [← hw]; exact x.oD, by rw [← hw]; exact x.uh, by rw [← hw]; exact x.frame, by rw [← hw]; exact x.size, x.os.trans h1, x.tape.trans h2, x.output.trans h3⟩
def sO (w : World) : World := { w with drawn := w.drawn + 1 }
section
variable {P : Program} {w w' : World} {at_ : Array TypeId} {ty t t2 e : TypeId} {i : TypeInfo} {td : TypeDesc} {v2 : Value} {n : Nat} {C : Array Value}
theorem uF {a : Addr} {sLen sCap : Nat} (h0 : at_[0]? = some t) (h1 : at_[1]? = some t2) (hu : P.underlying t = some (.slice e)) (hi : P.info? e = some i)
  (ht : ∀ w, (underlying t2).run P w = .ok td w) (htd : ∀ k, td ≠ .int k) (hn : (Builtin.lenOf v2).run P w = .ok n w) (hc : sLen + n ≤ sCap)
  (hC : (Builtin.firstCells i.size n v2).run P w = .ok C w) (hs : (storeCells (a.add (sLen * i.size)) C.toList).run P w = .ok () w') :
  (Builtin.append_ at_ ty #[.slice (some a) sLen sCap, v2]).run P w = .ok (.slice (some a) (sLen + n) sCap) w' := by
 have hsz : (Go.sizeOf e).run P w = .ok i.size w := by simp [Go.sizeOf, typeInfo, hi]
 unfold Builtin.append_
 simp only [h0, h1, List.getElem?_toArray, List.getElem?_cons_zero, List.getElem?_cons_succ]
 simp only [Sem.run_bind, run_underlying hu, Result.andThen_ok, hsz, ht]
 cases td <;> first | exact absurd rfl (htd _) | simp only [Bool.false_eq_true, if_false, hn, Result.andThen_ok, hc, if_true, Bool.not_false, hC, hs, Sem.run_bind, Sem.run_pure]
theorem nP {sLen sCap : Nat} (h0 : at_[0]? = some t) (h1 : at_[1]? = some t2) (hu : P.underlying t = some (.slice e)) (hi : P.info? e = some i)
  (ht : ∀ w, (underlying t2).run P w = .ok td w) (htd : ∀ k, td ≠ .int k) (hn : (Builtin.lenOf v2).run P w = .ok n w) (hc : sLen + n ≤ sCap)
  (hC : (Builtin.firstCells i.size n v2).run P w = .ok C w) :
  (Builtin.append_ at_ ty #[.slice none sLen sCap, v2]).run P w = .ok (.slice none (sLen + n) sCap) w := by
 have hsz : (Go.sizeOf e).run P w = .ok i.size w := by simp [Go.sizeOf, typeInfo, hi]
 unfold Builtin.append_
 simp only [h0, h1, List.getElem?_toArray, List.getElem?_cons_zero, List.getElem?_cons_succ]
 simp only [Sem.run_bind, run_underlying hu, Result.andThen_ok, hsz, ht]
 cases td <;> first | exact absurd rfl (htd _) | simp only [Bool.false_eq_true, if_false, hn, Result.andThen_ok, hc, if_true, Bool.not_false, hC, Sem.run_bind, Sem.run_pure]
theorem rP {base : Option Addr} {sLen sCap : Nat} {O : Array Value} {z : Value} (h0 : at_[0]? = some t) (h1 : at_[1]? = some t2) (hu : P.underlying t = some (.slice e)) (hi : P.info? e = some i)
  (ht : ∀ w, (underlying t2).run P w = .ok td w) (htd : ∀ k, td ≠ .int k) (hn : (Builtin.lenOf v2).run P w = .ok n w) (hc : ¬ sLen + n ≤ sCap) (hb : i.bytes ≠ 0)
  (hroom : (sLen + n) * i.bytes ≤ room) (hO : (Builtin.firstCells i.size sLen (.slice base sLen sCap)).run P (sO w) = .ok O (sO w)) (hC : (Builtin.firstCells i.size n v2).run P (sO w) = .ok C (sO w))
  (hz : ∀ w, (zeroValue e).run P w = .ok z w) :
  ∃ q : Nat, sLen + n ≤ q ∧ (Builtin.append_ at_ ty #[.slice base sLen sCap, v2]).run P w =
   .ok (.slice (some ⟨w.heap.size, 0, none⟩) (sLen + n) q) { sO w with heap := w.heap.push (.cells (O ++ C ++ Builtin.zeroCells z.cells (q - (sLen + n))) e) } := by
 have hsz : ∀ w, (Go.sizeOf e).run P w = .ok i.size w := fun w => by simp [Go.sizeOf, typeInfo, hi]
 have hti : ∀ w, (typeInfo e).run P w = .ok i w := fun w => by simp [typeInfo, hi]
 have hnext : ¬ (Builtin.nextslicecap (sLen + n) sCap * i.bytes > 2 ^ 48) := by
  have h1 := nextslicecap_le (n := sLen + n) (c := sCap) (by omega)
  have h2 : Builtin.nextslicecap (sLen + n) sCap * i.bytes ≤ 2 * (sLen + n) * i.bytes := Nat.mul_le_mul_right _ h1
  have h3 : 2 * (sLen + n) * i.bytes = 2 * ((sLen + n) * i.bytes) := by rw [Nat.mul_assoc]
  unfold room at hroom
  omega
 have ag2 : ¬ (((sLen + n : Nat) : Int) > IntKind.i64.max ∧ (False ∨ i.bytes = 0)) := by
  rintro ⟨_, k | k⟩
  ·exact k
  ·exact hb k
 refine ⟨(Question.appendCap (sLen + n) sCap e).cut (w.tape w.drawn (.appendCap (sLen + n) sCap e)), by simp only [Question.cut]; omega, ?_⟩
 have hch : (choose (.appendCap (sLen + n) sCap e)).run P w = .ok ((Question.appendCap (sLen + n) sCap e).cut (w.tape w.drawn (.appendCap (sLen + n) sCap e))) (sO w) := rfl
 have hnr : ∀ cs : Array Value, (newRow e cs).run P (sO w) = .ok ⟨w.heap.size, 0, none⟩ { sO w with heap := w.heap.push (.cells cs e) } := fun cs => rfl
 unfold Builtin.append_
 simp only [h0, h1, List.getElem?_toArray, List.getElem?_cons_zero, List.getElem?_cons_succ]
 simp only [Sem.run_bind, run_underlying hu, Result.andThen_ok, hsz, ht]
 cases td <;> first | exact absurd rfl (htd _) | simp only [Bool.false_eq_true, if_false, hn, Result.andThen_ok, hc, Bool.not_false, if_true, Sem.run_bind, hti, ag2, Sem.run_ite, hnext, hch, run_askRoom, hO, hC, hz, hnr, Sem.run_pure]
end
theorem nJ (z : Array Value) (n : Nat) : (Builtin.zeroCells z n).size = n * z.size := by simp [Builtin.zeroCells]
theorem Step.newRow {P : Program} {s : Sem Value} {ro : Ro} {μ : Mu} {w w' : World} {σ : List Ob} {sz n len q : Nat} {ys : List D} {cap : Option Nat} {C R : Array Value} {e : TypeId} {fz : Nat × Nat} (g : Good ro μ w (hp σ)) (hn : μ σ.length = none)
  (hf : FC ro sz ys C) (hR : R.size = n * sz) (hw : w'.heap = w.heap.push (.cells (C ++ R) e fz)) (hfz : u7 fz (C ++ R).size) (h1 : w'.os = w.os) (h2 : w'.tape = w.tape) (h3 : w'.output = w.output)
  (hr : s.run P w = .ok (.slice (some ⟨w.heap.size, 0, none⟩) len q) w') (hl : len ≤ q) (hq : q = ys.length + n) (hcap : ∀ k, cap = some k → q = k) :
  Step P s ro μ w σ (.slc σ.length sz 0 len cap) (σ ++ [.row sz ys true]) := by
 have hsz : (C ++ R).size = q * sz := by simp [hf.size, hR, hq, Nat.add_mul]
 refine Step.push ⟨w.heap.size, 0, sz, q * sz⟩ g hn hr rfl hw h1 h2 h3 ?_ ?_
 ·intro L hL
  simp only [fQ, if_true, Option.some.injEq] at hL
  subst hL
  refine ⟨C ++ R, e, fz, rfl, by rw [hw]; simp, hfz, by simpa using hsz, by simp only; rw [hq, Nat.add_mul]; omega, (fun e => Bool.noConfusion e), hf.ok, fun i x j c hx hj => ?_⟩
  obtain ⟨v, k1, k2⟩ := hf.get i x j c hx hj
  refine ⟨v, ?_, k2⟩
  simp only [Nat.zero_add]
  have hlt : i * sz + j < C.size := by
   rcases Nat.lt_or_ge (i * sz + j) C.size with q | q
   ·exact q
   ·simp [Array.getElem?_eq_none q] at k1
  rw [Array.getElem?_append, if_pos hlt, k1]
 ·exact .slc _ sz 0 len cap ⟨w.heap.size, 0, sz, q * sz⟩ q _ (by simp [fQ]) rfl hl hcap (fun _ => ⟨by simp [cellAt], by simp⟩)
theorem FC.nil (ro : Ro) (sz : Nat) : FC ro sz [] #[] := ⟨by simp, fun i x hx => by simp at hx, fun i x j c hx => by simp at hx⟩
theorem Jc {P : Program} {σ σ' : List Ob} {t t2 ty : TypeId} {at_ : Array TypeId} {s x r : AV} {ro : Ro} {μ : Mu} {w : World} {v u : Value} (g : Good ro μ w (hp σ)) (hn : σ.length < σ'.length → μ σ.length = none)
  (h0 : at_[0]? = some t) (h1 : at_[1]? = some t2) (ht2 : iW P t2 = false)
  (hs : VR ro μ s v) (hx : VR ro μ x u) (h : jk P σ t s x = some (r, σ')) : Step P (Builtin.append_ at_ ty #[v, u]) ro μ w σ r σ' := by
 have ⟨td, hu2, htd⟩ : ∃ td, P.underlying t2 = some td ∧ ∀ k, td ≠ .int k := by
  unfold iW at ht2
  split at ht2
  ·cases ht2
  ·rename_i td hn e; exact ⟨td, e, fun k e' => hn k e'⟩
  ·cases ht2
 have ht : ∀ w, (underlying t2).run P w = .ok td w := fun w => run_underlying hu2 w
 unfold jk at h
 split at h
 ·rename_i e hu
  split at h
  ·rename_i i hi
   split at h
   ·rename_i ys z hel hz
    split at h
    ·rename_i hc0
     obtain ⟨hzl, hb⟩ := hc0
     obtain ⟨hlen, C, hC, hfc⟩ := nG (P := P) g hx hel
     have g1 : Good ro μ (sO w) (hp σ) := g.congr rfl
     obtain ⟨_, C1, hC1, XT⟩ := nG (P := P) g1 hx hel
     obtain ⟨zv, hzv, hzd⟩ := rG hz ro w
     have abD : ∀ w, (zeroValue e).run P w = .ok zv w := by
      intro w'
      simp only [zeroValue, typeInfo, Sem.run_bind, run_program, Result.andThen_ok, hi, Sem.run_pure] at hzv ⊢
      cases hzz : i.zero with
      | none => simp [hzz] at hzv
      | some y => simp [hzz] at hzv ⊢; exact hzv
     have hzs : zv.cells.size = i.size := by
      have := (qA (μ := μ) (.d z zv hzd) (by simp)).size
      rw [this, ← hzl]
      cases z <;> simp [AV.cells, D.cells]
     split at h
     ·obtain rfl := fA hs rfl
      split at h
      ·rename_i hroom
       simp only [Option.some.injEq, Prod.mk.injEq] at h
       obtain ⟨rfl, rfl⟩ := h
       by_cases hy0 : ys.length = 0
       ·rw [hy0] at hlen hC
        obtain ⟨g1', x1'⟩ := g.phantom (hn (by simp)) (o := .row i.size ys true) (by simp)
        rw [← zl] at g1' x1'
        rw [hy0]
        exact ⟨.slice none 0 0, ro, μ, w, nP h0 h1 hu hi ht htd hlen (by omega) hC, .dX _ _ _, g1', x1', fun id h => absurd rfl h, by simp⟩
       ·have hy0' : ys.length ≠ 0 := hy0
        have hO : (Builtin.firstCells i.size 0 (.slice none 0 0)).run P (sO w) = .ok #[] (sO w) := rfl
        obtain ⟨q, hq, hrun⟩ := rP (ty := ty) h0 h1 hu hi ht htd hlen (by omega) hb (by simpa using hroom) hO hC1 abD
        simp only [Nat.zero_add] at hq hrun
        exact Step.newRow (w' := { sO w with heap := w.heap.push (.cells (#[] ++ C1 ++ Builtin.zeroCells zv.cells (q - ys.length)) e) }) (n := q - ys.length) (C := #[] ++ C1) (R := Builtin.zeroCells zv.cells (q - ys.length)) (e := e) g (hn (by simp)) ((FC.nil ro i.size).append XT) (by rw [nJ, hzs]) rfl (jc _) rfl rfl rfl hrun hq (by omega) (by simp)
      ·cases h
     ·rename_i sz xs
      split at h
      ·rename_i hy0
       simp only [Option.some.injEq, Prod.mk.injEq] at h
       obtain ⟨rfl, rfl⟩ := h
       have hs' := hs
       rcases wW hs with ⟨a, cap, gg, rfl, hl, hsp, hzz, k1, k2⟩ | ⟨rfl, rfl⟩
       rotate_left
       ·rw [hy0] at hlen hC
        exact Step.still g ⟨.slice none 0 0, nP h0 h1 hu hi ht htd hlen (by omega) hC, hs'⟩
       rw [hy0] at hlen hC
       have hC0 : C = #[] := by
        have := hfc.size
        rw [hy0, Nat.zero_mul] at this
        exact Array.eq_empty_of_size_eq_zero this
       subst hC0
       refine Step.still g ⟨.slice (some a) xs.length cap, ?_, hs'⟩
       exact uF h0 h1 hu hi ht htd hlen (by omega) hC rfl
      ·cases h
     ·rename_i id sz off len cap
      rcases pz hs with ⟨L, c, a, rfl, hL, hsz, hlc, hcap, ha⟩ | ⟨rfl, rfl, rfl⟩
      rotate_left
      ·split at h
       ·rename_i sz' xs wr hid
        split at h
        ·rename_i hc1
         obtain ⟨rfl, rfl, c3, c4⟩ := hc1
         simp only at h
         split at h
         ·rename_i hwr
          simp only [Option.some.injEq, Prod.mk.injEq] at h
          obtain ⟨rfl, rfl⟩ := h
          obtain ⟨gk, xk⟩ := g.kill id
          rw [← ng (bE hid)] at gk xk
          have hn' : μ (σ.set id .dead).length = none := by simpa using hn (by simp)
          rw [List.take_zero, List.nil_append]
          by_cases hy0 : ys.length = 0
          ·rw [hy0] at hlen hC
           obtain ⟨g1', x1'⟩ := gk.phantom hn' (o := .row i.size ys true) (by simp)
           rw [← zl] at g1' x1'
           rw [hy0]
           exact ⟨.slice none 0 0, ro, μ, w, nP h0 h1 hu hi ht htd hlen (by omega) hC, .dX _ _ _, g1', xk.trans x1', fun id h => absurd rfl h, by simp⟩
          ·have hO : (Builtin.firstCells i.size 0 (.slice none 0 0)).run P (sO w) = .ok #[] (sO w) := rfl
           obtain ⟨q, hq, hrun⟩ := rP (ty := ty) h0 h1 hu hi ht htd hlen (by omega) hb (by simpa using c4) hO hC1 abD
           simp only [Nat.zero_add] at hq hrun
           rw [Nat.zero_add]
           obtain ⟨v', ro', μ', w'', r1, r2, r3, r4, r5, r6⟩ := Step.newRow (P := P) (w' := { sO w with heap := w.heap.push (.cells (#[] ++ C1 ++ Builtin.zeroCells zv.cells (q - ys.length)) e) }) (n := q - ys.length) (C := #[] ++ C1) (R := Builtin.zeroCells zv.cells (q - ys.length)) (e := e) (cap := none) gk hn' ((FC.nil ro i.size).append XT) (by rw [nJ, hzs]) rfl (jc _) rfl rfl rfl hrun hq (by simp; omega) (by simp)
           simp only [List.length_set] at r2 r5 r6
           exact ⟨v', ro', μ', w'', r1, r2, r3, xk.trans r4, fun id' h' => by have := r5 id' h'; simpa using this, by simp⟩
         ·cases h
        ·cases h
       ·cases h
      split at h
      ·rename_i sz' xs wr hid
       split at h
       ·rename_i hc1
        obtain ⟨c1, c2, c3, c4⟩ := hc1
        subst c1
        subst c2
        have zm := g.ob id
        rw [dI hid] at zm
        obtain ⟨A, T, fz, o0, hh, hf, hCs, hlim, hw, hz', hcell⟩ := zm L hL
        -- the elements so far
        have hold : elems σ i.size (.slc id i.size off len cap) = some ((xs.drop off).take len) := by simp [elems, hid, c3]
        obtain ⟨_, O1, hO1, XR⟩ := nG (P := P) g1 hs hold
        have hol : ((xs.drop off).take len).length = len := by simp; omega
        rw [hol] at hO1
        -- in place
        have Qs : len + ys.length ≤ c → ∃ w', (Builtin.append_ at_ ty #[.slice (some a) len c, u]).run P w = .ok (.slice (some a) (len + ys.length) c) w' ∧
          w'.heap[L.blk]? = some (.cells (over A.toList (L.base + (off + len) * i.size) C.toList).toArray T fz) ∧ (∀ k, k ≠ L.blk → w'.heap[k]? = w.heap[k]?) ∧ w'.heap.size = w.heap.size ∧
          w'.os = w.os ∧ w'.tape = w.tape ∧ w'.output = w.output ∧ (c ≠ 0 → L.base + (off + len) * i.size + C.size ≤ A.size) := by
         intro hin
         rcases Nat.eq_zero_or_pos c with hc0 | hcp
         ·have hy0 : ys.length = 0 := by omega
          have hC0 : C = #[] := by
           have := hfc.size
           rw [hy0, Nat.zero_mul] at this
           exact Array.eq_empty_of_size_eq_zero this
          subst hC0
          refine ⟨w, uF h0 h1 hu hi ht htd hlen hin hC rfl, ?_, fun _ _ => rfl, rfl, rfl, rfl, rfl, fun h => absurd hc0 h⟩
          rw [hh]; simp [over]
         ·obtain ⟨ea, hlm⟩ := ha (by omega)
          have hfit : L.base + (off + len) * i.size + C.size ≤ A.size := by
           rw [hfc.size, hCs]
           have : (off + len) * i.size + ys.length * i.size ≤ (off + c) * i.size := by rw [← Nat.add_mul]; exact Nat.mul_le_mul_right _ (by omega)
           rw [Nat.add_mul off c] at this
           omega
          have hst := zP (P := P) (o := L.base + (off + len) * i.size) (vs := C.toList) hh hf (by simpa using hfit) hfc.one
          obtain ⟨k1, k2, k3, k4, k5, k6⟩ := mq L.blk T fz C.toList (L.base + (off + len) * i.size) w A hh (by simpa using hfit)
          refine ⟨_, uF h0 h1 hu hi ht htd hlen hin hC ?_, k1, k2, k3, k4, k5, k6, fun _ => hfit⟩
          rw [ea, iL, show L.base + off * i.size + len * i.size = L.base + (off + len) * i.size by rw [Nat.add_mul]; omega]
          exact hst
        have fresh : ¬ len + ys.length ≤ c → ∃ q w', len + ys.length ≤ q ∧ (Builtin.append_ at_ ty #[.slice (some a) len c, u]).run P w = .ok (.slice (some ⟨w.heap.size, 0, none⟩) (len + ys.length) q) w' ∧
          w'.heap = w.heap.push (.cells (O1 ++ C1 ++ Builtin.zeroCells zv.cells (q - (len + ys.length))) e) ∧ w'.os = w.os ∧ w'.tape = w.tape ∧ w'.output = w.output := by
         intro hin
         obtain ⟨q, hq, hrun⟩ := rP (ty := ty) h0 h1 hu hi ht htd hlen hin hb c4 hO1 hC1 abD
         exact ⟨q, _, hq, hrun, rfl, rfl, rfl, rfl⟩
        split at h
        ·rename_i k
         obtain rfl := hcap k rfl
         split at h
         ·rename_i hin
          split at h
          ·rename_i hwr
           obtain ⟨rfl, G8⟩ := hwr
           simp only [Option.some.injEq, Prod.mk.injEq] at h
           obtain ⟨rfl, rfl⟩ := h
           obtain ⟨w', hrun, k1, k2, k3, k4, k5, k6, hfit⟩ := Qs hin
           have Qt : L.base + (off + len) * i.size + C.size ≤ A.size := by
            rcases Nat.eq_zero_or_pos c with q | q
            ·have hy0 : ys.length = 0 := by omega
             rw [hfc.size, hy0, Nat.zero_mul]
             have : (off + len) * i.size ≤ xs.length * i.size := Nat.mul_le_mul_right _ c3
             omega
            ·exact hfit (by omega)
           obtain ⟨r1, r2⟩ := QH (off := off + len) hz' hcell (by omega) hfc G8
           have hsz2 : (over A.toList (L.base + (off + len) * i.size) C.toList).length = A.size := by rw [gy (by simpa using Qt)]; simp
           have := g.write (n := id) (o := .row i.size (over xs (off + len) ys) true) (L := L) (by rw [dI hid]; rfl) hL k2 k3 k4 k5 k6 (by
            intro L' hL'
            rw [hL] at hL'; cases hL'
            refine ⟨_, T, fz, o0, k1, ?_, ?_, ?_, (fun e => Bool.noConfusion e), r1, r2⟩
            ·rw [List.size_toArray, hsz2]; exact hf
            ·rw [List.size_toArray, hsz2]; exact hCs
            ·rw [gy G8]; exact hlim)
           rw [← ng (bE hid)] at this
           refine ⟨_, ro, μ, w', hrun, ?_, this.1, this.2, fun _ h => absurd rfl h, by simp⟩
           exact .slc id i.size off _ (some c) L c a hL hsz hin (by simp) ha
          ·cases h
         ·rename_i hin
          simp only [Option.some.injEq, Prod.mk.injEq] at h
          obtain ⟨rfl, rfl⟩ := h
          obtain ⟨q, w', hq, hrun, hw', k4, k5, k6⟩ := fresh hin
          exact Step.newRow (n := q - (len + ys.length)) (C := O1 ++ C1) (R := Builtin.zeroCells zv.cells (q - (len + ys.length))) (e := e) g (hn (by simp)) (XR.append XT) (by rw [nJ, hzs]) hw' (jc _) k4 k5 k6 hrun hq (by simp [hol]; omega) (by simp)
        ·split at h
         ·rename_i hwr
          subst hwr
          simp only [Option.some.injEq, Prod.mk.injEq] at h
          obtain ⟨rfl, rfl⟩ := h
          by_cases hin : len + ys.length ≤ c
          ·obtain ⟨w', hrun, k1, k2, k3, k4, k5, k6, hfit⟩ := Qs hin
           -- where the new object lies
           rcases Nat.eq_zero_or_pos c with hc0 | hcp
           ·have hy0 : ys = [] := List.eq_nil_of_length_eq_zero (by omega)
            have hx0 : (xs.drop off).take len = [] := List.eq_nil_of_length_eq_zero (by omega)
            subst hy0
            have hC0 : C = #[] := Array.eq_empty_of_size_eq_zero (by rw [hfc.size]; simp)
            subst hC0
            have k1' : w'.heap[L.blk]? = some (.cells A T fz) := by rw [k1]; simp [over]
            have := g.take (m := id) (n := σ.length) (o := .row i.size ((xs.drop off).take len ++ []) true) (L := L) (L' := ⟨L.blk, L.base + L.lim, i.size, 0⟩) (by rw [dI hid]; rfl) hL (hn (by simp)) (sD (Nat.le_refl _)) rfl k2 k3 k4 k5 k6 (by
             intro L' hL'
             simp only [fQ, if_true, Option.some.injEq] at hL'
             subst hL'
             refine ⟨A, T, fz, rfl, k1', hf, by simpa using hCs, by rw [hx0]; simp, fun e => (by cases e), fun i x hx => by rw [hx0] at hx; simp at hx, fun i x j c hx => by rw [hx0] at hx; simp at hx⟩)
            rw [← ng (bE hid), show σ.length = (σ.set id .dead).length by simp, ← zl] at this
            refine ⟨_, ro, _, w', hrun, ?_, this.1, this.2, fun id' h' => ?_, by simp⟩
            ·refine .slc _ i.size 0 _ none ⟨L.blk, L.base + L.lim, i.size, 0⟩ c a (by simp [fQ]) rfl hin (by simp) (fun hne => absurd hc0 hne)
            ·have := GH h'
             simp at this
             subst this
             simp
           ·obtain ⟨ea, hlm⟩ := ha (by omega)
            have Qt := hfit (by omega)
            have hsz2 : (over A.toList (L.base + (off + len) * i.size) C.toList).length = A.size := by rw [gy (by simpa using Qt)]; simp
            have hsum : (off + len) * i.size = off * i.size + len * i.size := Nat.add_mul _ _ _
            have htot : ((xs.drop off).take len ++ ys).length * i.size = len * i.size + ys.length * i.size := by simp only [List.length_append, hol, Nat.add_mul]
            have hck : (len + ys.length) * i.size ≤ c * i.size := Nat.mul_le_mul_right _ hin
            rw [Nat.add_mul] at hck
            have := g.take (m := id) (n := σ.length) (o := .row i.size ((xs.drop off).take len ++ ys) true) (L := L) (L' := ⟨L.blk, L.base + off * i.size, i.size, L.lim - off * i.size⟩) (by rw [dI hid]; rfl) hL (hn (by simp)) (sD (Nat.le_refl _)) rfl k2 k3 k4 k5 k6 (by
             intro L' hL'
             simp only [fQ, if_true, Option.some.injEq] at hL'
             subst hL'
             refine ⟨_, T, fz, rfl, k1, ?_, ?_, ?_, fun e => (by cases e), (XR.append hfc).ok, fun i' x j c' hx hj => ?_⟩
             ·rw [List.size_toArray, hsz2]; exact hf
             ·rw [List.size_toArray, hsz2, hCs]; simp only; omega
             ·simp only; omega
             ·simp only
              rw [List.getElem?_toArray, iI (by simpa using Qt)]
              simp only [Array.length_toList, hfc.size]
              have hxs := ((XR.append hfc).ok i' x hx).1
              have hjl := bE hj
              rw [List.getElem?_append] at hx
              split at hx
              ·rename_i hi'
               rw [hol] at hi'
               have hx' : xs[off + i']? = some x := by
                rw [List.getElem?_take, List.getElem?_drop, if_pos hi'] at hx
                exact hx
               obtain ⟨v, q1, q2⟩ := hcell _ x j c' hx' hj
               have e1 : (i' + 1) * i.size ≤ len * i.size := Nat.mul_le_mul_right _ hi'
               rw [Nat.add_mul] at e1
               rw [if_neg (by omega)]
               refine ⟨v, ?_, q2⟩
               rw [Nat.add_mul off i'] at q1
               rw [show L.base + off * i.size + (i' * i.size + j) = L.base + (off * i.size + i' * i.size + j) by omega]
               simpa using q1
              ·rename_i hi'
               rw [hol] at hi' hx
               obtain ⟨v, q1, q2⟩ := hfc.get _ x j c' hx hj
               have hlx := bE hx
               have e0 : i' * i.size = len * i.size + (i' - len) * i.size := by rw [← Nat.add_mul]; congr 1; omega
               have e1 : (i' - len + 1) * i.size ≤ ys.length * i.size := Nat.mul_le_mul_right _ hlx
               rw [Nat.add_mul] at e1
               rw [if_pos (by omega)]
               refine ⟨v, ?_, q2⟩
               rw [show L.base + off * i.size + (i' * i.size + j) - (L.base + (off + len) * i.size) = (i' - len) * i.size + j by omega]
               simpa using q1)
            rw [← ng (bE hid), show σ.length = (σ.set id .dead).length by simp, ← zl] at this
            refine ⟨_, ro, _, w', hrun, ?_, this.1, this.2, fun id' h' => ?_, by simp⟩
            ·refine .slc _ i.size 0 _ none ⟨L.blk, L.base + off * i.size, i.size, L.lim - off * i.size⟩ c a (by simp [fQ]) rfl hin (by simp) (fun hne => ⟨by simpa using ea, by simp; omega⟩)
            ·have := GH h'
             simp at this
             subst this
             simp
          ·obtain ⟨q, w', hq, hrun, hw', k4, k5, k6⟩ := fresh hin
           obtain ⟨gk, xk⟩ := g.kill id
           rw [← ng (bE hid)] at gk xk
           have hn' : μ (σ.set id .dead).length = none := by simpa using hn (by simp)
           obtain ⟨v', ro', μ', w'', r1, r2, r3, r4, r5, r6⟩ := Step.newRow (P := P) (n := q - (len + ys.length)) (C := O1 ++ C1) (R := Builtin.zeroCells zv.cells (q - (len + ys.length))) (e := e) (cap := none) gk hn' (XR.append XT) (by rw [nJ, hzs]) hw' (jc _) k4 k5 k6 hrun hq (by simp [hol]; omega) (by simp)
           simp only [List.length_set] at r2 r5 r6
           exact ⟨v', ro', μ', w'', r1, r2, r3, xk.trans r4, fun id' h' => by have := r5 id' h'; simpa using this, by simp⟩
         ·cases h
       ·cases h
      ·cases h
     ·cases h
    ·cases h
   ·cases h
  ·cases h
 ·cases h
end Lv
