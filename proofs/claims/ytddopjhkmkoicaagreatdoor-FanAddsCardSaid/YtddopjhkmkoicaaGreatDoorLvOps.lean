/- Each operation of the evaluator does what the machine does. -/
import Derived.Test.YtddopjhkmkoicaaGreatDoorLvEval
import Derived.Laws.Cells
import Derived.Laws.IdiomCopy
import Derived.WideLaws
/- Each operation of the evaluator does what the machine does. -/
namespace Lv
open Go
set_option linter.unusedVariables false
set_option linter.unusedSimpArgs false
set_option linter.unusedSectionVars false
variable [BaseTab]
theorem Yn {ro : Ro} {x : D} {v u : Value} (h : DR ro x v) (hu : x.cval = some u) : v = u := by
 cases h <;> simp_all [D.cval]
theorem NT {ro : Ro} : ∀ (xs : List D) (us vs : List Value), vs.length = xs.length → (∀ (i : Nat) (x : D) (v : Value), xs[i]? = some x → vs[i]? = some v → DR ro x v) → Ng xs = some us → vs = us
 | [], us, vs, hl, _, hu => by
  simp only [Ng, Option.some.injEq] at hu
  subst hu
  simpa using hl
 | x :: r, us, [], hl, _, _ => by simp at hl
 | x :: r, us, v :: vs, hl, h, hu => by
  simp only [Ng] at hu
  split at hu
  ·rename_i a b ha hb
   simp only [Option.some.injEq] at hu
   subst hu
   rw [Yn (h 0 x v rfl rfl) ha, NT r b vs (by simpa using hl) (fun i y u hy hu => h (i + 1) y u (by simpa using hy) (by simpa using hu)) hb]
  ·cases hu
theorem ac7 {ro : Ro} {x : D} {v u : Value} (h : DR ro x v) (hu : x.val = some u) : v = u := by
 cases h
 case agg cs vs hs h =>
  simp only [D.val] at hu
  split at hu
  ·rename_i us e
   simp only [Option.some.injEq] at hu
   subst hu
   have := NT cs us vs.toList (by simpa using hs) (fun i x v hx hv => h i x v hx (by simpa using hv)) e
   rw [← this]
  ·cases hu
 all_goals simp_all [D.val, D.cval]
theorem Jw {ro : Ro} {v : Value} {x : D} (h : Ku v = some x) : DR ro x v := by
 unfold Ku at h
 split at h <;> simp only [Option.some.injEq, reduceCtorEq] at h <;> subst h <;> constructor
theorem wH {ro : Ro} : ∀ (vs : List Value) (xs : List D), wI vs = some xs → vs.length = xs.length ∧ ∀ (i : Nat) (x : D) (v : Value), xs[i]? = some x → vs[i]? = some v → DR ro x v
 | [], xs, h => by
  simp only [wI, Option.some.injEq] at h
  subst h
  exact ⟨rfl, fun i x v hx => by simp at hx⟩
 | v :: vs, xs, h => by
  simp only [wI] at h
  split at h
  ·rename_i a b ha hb
   simp only [Option.some.injEq] at h
   subst h
   obtain ⟨hl, hr⟩ := wH vs b hb
   refine ⟨by simp [hl], fun i x u hx hu => ?_⟩
   cases i with
   | zero => simp only [List.getElem?_cons_zero, Option.some.injEq] at hx hu; subst hx; subst hu; exact Jw ha
   | succ i => exact hr i x u (by simpa using hx) (by simpa using hu)
  ·cases h
theorem Mt {ro : Ro} {v : Value} {x : D} (h : lW v = some x) : DR ro x v := by
 cases v
 case agg vs =>
  simp only [lW] at h
  split at h
  ·rename_i ds e
   simp only [Option.some.injEq] at h
   subst h
   obtain ⟨hl, hr⟩ := wH (ro := ro) vs.toList ds e
   exact .agg ds vs (by simpa using hl) (fun i x v hx hv => hr i x v hx (by simpa using hv))
  ·cases h
 all_goals exact Jw h
theorem fA {ro : Ro} {μ : Mu} {x : AV} {v u : Value} (h : VR ro μ x v) (hu : x.val = some u) : v = u := by
 cases h
 case d x h => exact ac7 h hu
 all_goals simp [AV.val] at hu
theorem NH {ro : Ro} {μ : Mu} {v : Value} {x : D} (h : lW v = some x) : VR ro μ (.d x) v := .d x v (Mt h)
theorem pq {P : Program} {s : Sem Value} {x : AV} (h : vY P s = some x) (ro : Ro) (μ : Mu) (w : World) : ∃ v, s.run P w = .ok v w ∧ VR ro μ x v := by
 unfold vY at h
 split at h
 ·rename_i v hv
  split at h
  ·rename_i y hy
   simp only [Option.some.injEq] at h
   subst h
   exact ⟨v, Gx hv w, NH hy⟩
  ·cases h
 ·cases h
theorem Eb {ro : Ro} {x : D} {v : Value} (h : DR ro x v) (hx : x.isAgg = false) : v.oneCell' = true := by
 cases h <;> simp_all [D.isAgg, Value.oneCell']
theorem ac3 {ro : Ro} {μ : Mu} {x : AV} {v : Value} (h : VR ro μ x v) (hx : x.one = true) : v.oneCell' = true := by
 cases h
 case d x h => exact Eb h (by simpa [AV.one] using hx)
 all_goals first | rfl | simp [AV.one] at hx
theorem pW {ro : Ro} {μ : Mu} {x : AV} {v : Value} (h : VR ro μ x v) : VRs ro μ [x] #[v] := by
 refine ⟨rfl, fun i y u hy hu => ?_⟩
 cases i with
 | zero => simp at hy hu; subst hy; subst hu; exact h
 | succ i => simp at hy
theorem IV {v : Value} (h : v.oneCell' = true) : v.cells = #[v] := by
 cases v <;> first | rfl | simp [Value.oneCell'] at h
theorem qA {ro : Ro} {μ : Mu} {x : AV} {v : Value} (h : VR ro μ x v) (hx : x ≠ .undef) : VRs ro μ x.cells v.cells := by
 cases h
 case undef => exact absurd rfl hx
 case d x h =>
  cases h
  case agg cs vs hs h =>
   refine ⟨by simpa [AV.cells, Value.cells] using hs, fun i y u hy hu => ?_⟩
   simp only [AV.cells, List.getElem?_map, Option.map_eq_some_iff] at hy
   obtain ⟨z, hz, rfl⟩ := hy
   exact .d z u (h i z u hz hu)
  all_goals exact pW (.d _ _ (by constructor <;> assumption))
 case agg cs vs hs h => exact ⟨hs, h⟩
 all_goals exact pW (by first | constructor; done | (constructor <;> assumption))
theorem Ea {ro : Ro} {μ : Mu} {id idx off : Nat} {v : Value} (h : VR ro μ (.ref id idx off) v) : ∃ L, μ id = some L ∧ v = .pointer (some (cellAt L.blk (L.base + idx * L.sz + off))) := by
 cases h with
 | ref _ _ _ L h => exact ⟨L, h, rfl⟩
theorem pz {ro : Ro} {μ : Mu} {id sz off len : Nat} {cap : Option Nat} {v : Value} (h : VR ro μ (.slc id sz off len cap) v) :
  (∃ L c a, v = .slice (some a) len c ∧ μ id = some L ∧ L.sz = sz ∧ len ≤ c ∧ (∀ k, cap = some k → c = k) ∧ (c ≠ 0 → a = cellAt L.blk (L.base + off * sz) ∧ off * sz + c * sz ≤ L.lim)) ∨ (len = 0 ∧ cap = none ∧ v = .slice none 0 0) := by
 cases h with
 | slc _ _ _ _ _ L c a h1 h2 h3 h4 h5 => exact .inl ⟨L, c, a, rfl, h1, h2, h3, h4, h5⟩
 | dX => exact .inr ⟨rfl, rfl, rfl⟩
theorem Lc {ro : Ro} {μ : Mu} {cs : List D} {v : Value} (h : VR ro μ (.rop cs) v) :
  ∃ b o, ∃ g : Nat → Value, v = .pointer (some (cellAt b o)) ∧ (∀ (j : Nat) (c : D), cs[j]? = some c → ro (cellAt b (o + j)) = some (g j)) ∧ (∀ (j : Nat) (c : D), cs[j]? = some c → DR ro c (g j)) := by
 cases h with
 | rop _ b o g h1 h2 => exact ⟨b, o, g, rfl, h1, h2⟩
theorem wW {ro : Ro} {μ : Mu} {sz : Nat} {xs : List D} {v : Value} (h : VR ro μ (.d (.xI sz xs)) v) :
  (∃ a cap, ∃ g : Nat → Value, v = .slice (some a) xs.length cap ∧ xs.length ≤ cap ∧ (xs ≠ [] → a.spot = none) ∧ (∀ (i : Nat) (x : D), xs[i]? = some x → x.BO sz) ∧
   (∀ (i : Nat) (x : D) (j : Nat) (c : D), xs[i]? = some x → x.cells[j]? = some c → ro (cellAt a.block (a.off + (i * sz + j))) = some (g (i * sz + j))) ∧
   (∀ (i : Nat) (x : D) (j : Nat) (c : D), xs[i]? = some x → x.cells[j]? = some c → DR ro c (g (i * sz + j)))) ∨ (xs = [] ∧ v = .slice none 0 0) := by
 cases h with
 | d _ _ h => cases h with
  | xI _ _ a cap g h1 h2 h3 h4 h5 => exact .inl ⟨a, cap, g, rfl, h1, h2, h3, h4, h5⟩
  | nl => exact .inr ⟨rfl, rfl⟩
theorem Ih {ro : Ro} {μ : Mu} {cs : List AV} {v : Value} (h : VR ro μ (.tuple cs) v) : ∃ vs, v = .tuple vs ∧ VRs ro μ cs vs := by
 cases h with
 | tuple _ vs h1 h2 => exact ⟨vs, rfl, h1, h2⟩
theorem NK {ro : Ro} {μ : Mu} {f : Fn} {cs ds : List AV} {v : Value} (h : VR ro μ (.fn f cs ds) v) : ∃ vs us, v = .func f vs us ∧ VRs ro μ cs vs ∧ VRs ro μ ds us := by
 cases h with
 | fn _ _ _ vs us h1 h2 h3 h4 => exact ⟨vs, us, rfl, ⟨h1, h3⟩, ⟨h2, h4⟩⟩
theorem AU {ro : Ro} {μ : Mu} : ∀ (cs : List AV) (ds : List D), SA cs = some ds → ds.length = cs.length ∧ ∀ (i : Nat) (x : D), ds[i]? = some x → cs[i]? = some (.d x)
 | [], ds, h => by
  simp only [SA, Option.some.injEq] at h
  subst h
  exact ⟨rfl, fun i x hx => by simp at hx⟩
 | c :: cs, ds, h => by
  cases c
  case d x =>
   simp only [SA] at h
   split at h
   ·rename_i es e
    simp only [Option.some.injEq] at h
    subst h
    obtain ⟨hl, hr⟩ := AU (ro := ro) (μ := μ) cs es e
    refine ⟨by simp [hl], fun i y hy => ?_⟩
    cases i with
    | zero => simpa using hy
    | succ i => simpa using hr i y (by simpa using hy)
   ·cases h
  all_goals simp [SA] at h
theorem NM {ro : Ro} {μ : Mu} {x : D} {v : Value} (h : VR ro μ (.d x) v) : DR ro x v := by
 cases h; assumption
theorem yL {ro : Ro} {μ : Mu} {cs : List AV} {C : Array Value} (h : VRs ro μ cs C) : VR ro μ (yM cs) (.agg C) := by
 unfold yM
 split
 ·rename_i ds e
  obtain ⟨hl, hr⟩ := AU (ro := ro) (μ := μ) cs ds e
  exact .d _ _ (.agg ds C (by rw [h.size, hl]) (fun i x v hx hv => NM (h.get i _ v (hr i x hx) hv)))
 ·exact .agg cs C h.size h.get
theorem zY {ro : Ro} {μ : Mu} {g : Bool} {n : Nat} {cs : List AV} {C : Array Value} {x : AV} (h : VRs ro μ cs C) (hx : mK g n cs = some x) :
  C.size = n ∧ ((g = true ∧ VR ro μ x (.agg C)) ∨ (g = false ∧ n = 1 ∧ ∃ v, C = #[v] ∧ VR ro μ x v)) := by
 unfold mK at hx
 split at hx
 ·rename_i hl
  refine ⟨by rw [h.size, hl], ?_⟩
  cases g with
  | true =>
   simp only [if_true, Option.some.injEq] at hx
   subst hx
   exact .inl ⟨rfl, yL h⟩
  | false =>
   simp only [Bool.false_eq_true, if_false] at hx
   split at hx
   ·rename_i y
    simp only [Option.some.injEq] at hx
    subst hx
    have hs := h.size
    simp at hs hl
    obtain ⟨v, rfl⟩ : ∃ v, C = #[v] := by
     cases C with
     | mk l => match l, hs with
      | [v], _ => exact ⟨v, rfl⟩
    exact .inr ⟨rfl, hl.symm, v, rfl, h.get 0 _ _ rfl rfl⟩
   ·cases hx
 ·cases hx
theorem pX {ro : Ro} {μ : Mu} {cs : List AV} {C : Array Value} (h : VRs ro μ cs C) (o n : Nat) : VRs ro μ ((cs.drop o).take n) (C.extract o (o + n)) := by
 refine ⟨by simp [h.size]; omega, fun i x v hx hv => ?_⟩
 rw [List.getElem?_take, List.getElem?_drop] at hx
 rw [Array.getElem?_extract] at hv
 split at hx
 ·rename_i hi
  split at hv
  ·exact h.get (o + i) x v hx hv
  ·cases hv
 ·cases hx
theorem gq {P : Program} {t : TypeId} {s : Nat} (h : bU P t = some s) (w : World) : (Go.sizeOf t).run P w = .ok s w := by
 unfold bU at h
 split at h
 ·rename_i i hi
  simp only [Option.some.injEq] at h
  subst h
  simp [Go.sizeOf, typeInfo, hi]
 ·cases h
theorem F7 {P : Program} {t : TypeId} {g : Bool} (h : iH P t = some g) (w : World) : (isAgg t).run P w = .ok g w := by
 unfold iH at h
 split at h <;> simp only [Option.some.injEq, reduceCtorEq] at h
 ·rename_i fs e; subst h; simp [isAgg, run_underlying e]
 ·rename_i a b e; subst h; simp [isAgg, run_underlying e]
 ·rename_i d hn1 hn2 e
  subst h
  simp only [isAgg, Sem.run_bind, run_underlying e, Result.andThen_ok]
  cases d <;> first | rfl | (exfalso; first | exact hn1 _ e | exact hn2 _ _ e)
theorem iL (b o n : Nat) : (cellAt b o).add n = cellAt b (o + n) := by
 unfold Addr.add cellAt; split <;> simp_all
theorem sQ {w : World} {b o : Nat} {C : Array Value} {T : TypeId} {fz : Nat × Nat} (h : w.heap[b]? = some (.cells C T fz)) : w.cell? (cellAt b o) = C[o]? := by
 simp [World.cell?, cellAt, h]
theorem Bw {P : Program} {w : World} {t : TypeId} {s : Nat} {g : Bool} {b o : Nat} {C : Array Value} (hs : bU P t = some s) (hg : iH P t = some g) (hC : C.size = s)
  (hc : ∀ j v, C[j]? = some v → w.cell? (cellAt b (o + j)) = some v) (h1 : g = false → s = 1) :
  (loadVar t (cellAt b o)).run P w = .ok (if g then .agg C else C.getD 0 undef) w := by
 unfold loadVar
 simp only [Sem.run_bind, F7 hg, Result.andThen_ok]
 cases g with
 | true =>
  have hl := run_loadCells_list (P := P) w (cellAt b o) C.toList (fun j v hv => by rw [iL]; exact hc j v (by simpa using hv))
  simp only [Array.length_toList] at hl
  simp [gq hs, ← hC, hl]
 | false =>
  have e := h1 rfl
  have h0 : C[0]? = some (C.getD 0 undef) := by
   have : 0 < C.size := by omega
   simp [Array.getD, this]
  have := hc 0 _ h0
  simp only [Nat.add_zero] at this
  simp [this]
theorem yY {P : Program} {σ : List Ob} {t : TypeId} {a x : AV} {ro : Ro} {μ : Mu} {w : World} {v : Value} (g : Good ro μ w (hp σ)) (ha : VR ro μ a v) (h : oJ P σ t a = some x) :
  ∃ u p, v = .pointer (some p) ∧ (loadVar t p).run P w = .ok u w ∧ VR ro μ x u := by
 have key : ∀ (s : Nat) (gg : Bool) (b o : Nat) (cs : List AV) (C : Array Value), bU P t = some s → iH P t = some gg → VRs ro μ cs C → mK gg s cs = some x →
   (∀ j v, C[j]? = some v → w.cell? (cellAt b (o + j)) = some v) → ∃ u, (loadVar t (cellAt b o)).run P w = .ok u w ∧ VR ro μ x u := by
  intro s gg b o cs C hs hg hv hx hc
  obtain ⟨hC, h1⟩ := zY hv hx
  refine ⟨_, Bw hs hg hC hc (fun e => ?_), ?_⟩
  ·rcases h1 with ⟨e', _⟩ | ⟨_, e', _⟩
   ·rw [e] at e'; cases e'
   ·exact e'
  ·rcases h1 with ⟨rfl, k⟩ | ⟨rfl, _, u, rfl, k⟩
   ·exact k
   ·exact k
 unfold oJ at h
 split at h
 ·rename_i s gg hs hg
  split at h
  ·rename_i id idx off
   cases ha
   rename_i L hL
   refine Exists.imp (fun u => ?_) (?_ : ∃ u, (loadVar t (cellAt L.blk (L.base + idx * L.sz + off))).run P w = .ok u w ∧ VR ro μ x u)
   ·intro k; exact ⟨_, rfl, k⟩
   have zm := g.ob id
   split at h
   ·rename_i y e
    split at h
    ·rename_i e0
     subst e0
     simp only [hp, e] at zm
     obtain ⟨C, T, fz, hb, hh, _, hv⟩ := zm L hL
     refine key s gg _ _ _ _ hs hg (pX hv off s) h (fun j v hj => ?_)
     rw [sQ hh, hb]
     rw [Array.getElem?_extract] at hj
     split at hj
     ·simpa using hj
     ·cases hj
    ·cases h
   ·rename_i sz xs wr e
    split at h
    ·rename_i y hy
     simp only [hp, e] at zm
     obtain ⟨C, T, fz, hsz, hh, _, hCs, hlim, _, hz, hv⟩ := zm L hL
     -- the element's cells
     have hzy := (hz idx y hy).1
     have hin : L.base + (idx * sz + y.cells.length) ≤ C.size := by
      have h2 : idx < xs.length := by
       rcases Nat.lt_or_ge idx xs.length with k | k
       ·exact k
       ·simp [List.getElem?_eq_none k] at hy
      have : (idx + 1) * sz ≤ xs.length * sz := Nat.mul_le_mul_right _ h2
      rw [Nat.add_mul] at this
      omega
     have hvs : VRs ro μ (y.cells.map AV.d) (C.extract (L.base + idx * sz) (L.base + idx * sz + y.cells.length)) := by
      refine ⟨by simp; omega, fun j c u hc hu => ?_⟩
      simp only [List.getElem?_map, Option.map_eq_some_iff] at hc
      obtain ⟨c', hc', rfl⟩ := hc
      rw [Array.getElem?_extract] at hu
      split at hu
      ·obtain ⟨v', h1, h2⟩ := hv idx y j c' hy hc'
       rw [show L.base + (idx * sz + j) = L.base + idx * sz + j by omega] at h1
       rw [h1] at hu
       cases hu
       exact .d _ _ h2
      ·cases hu
     refine key s gg _ _ _ _ hs hg (pX hvs off s) h (fun j v hj => ?_)
     rw [sQ hh, hsz]
     rw [Array.getElem?_extract] at hj
     split at hj
     ·rw [Array.getElem?_extract] at hj
      split at hj
      ·rw [← hj]; congr 1; omega
      ·cases hj
     ·cases hj
    ·cases h
   ·cases h
  ·rename_i cs
   cases ha
   rename_i b o gg' h1 h2
   refine Exists.imp (fun u => ?_) (?_ : ∃ u, (loadVar t (cellAt b o)).run P w = .ok u w ∧ VR ro μ x u)
   ·intro k; exact ⟨_, rfl, k⟩
   have hvs : VRs ro μ (cs.map AV.d) ((List.range cs.length).map gg').toArray := by
    refine ⟨by simp, fun j c u hc hu => ?_⟩
    simp only [List.getElem?_map, Option.map_eq_some_iff] at hc
    obtain ⟨c', hc', rfl⟩ := hc
    simp only [List.getElem?_toArray, List.getElem?_map, Option.map_eq_some_iff] at hu
    obtain ⟨k, hk, rfl⟩ := hu
    have : k = j := by
     rw [List.getElem?_range] at hk
     ·exact (Option.some.inj hk).symm
     ·rcases Nat.lt_or_ge j cs.length with q | q
      ·exact q
      ·simp [List.getElem?_eq_none q] at hc'
    subst this
    exact .d _ _ (h2 k c' hc')
   have afs := pX hvs 0 s
   simp only [List.drop_zero, Nat.zero_add] at afs
   refine key s gg _ _ _ _ hs hg afs h (fun j v hj => ?_)
   rw [Array.getElem?_extract] at hj
   split at hj
   ·simp only [Nat.zero_add, List.getElem?_toArray, List.getElem?_map, Option.map_eq_some_iff] at hj
    obtain ⟨k, hk, rfl⟩ := hj
    have hjl : j < cs.length := by
     rcases Nat.lt_or_ge j cs.length with q | q
     ·exact q
     ·rw [List.getElem?_eq_none (by simpa using q)] at hk; cases hk
    rw [List.getElem?_range hjl] at hk
    cases hk
    exact g.vH _ _ (h1 j _ (List.getElem?_eq_getElem hjl))
   ·cases hj
  ·cases h
 ·cases h
end Lv
