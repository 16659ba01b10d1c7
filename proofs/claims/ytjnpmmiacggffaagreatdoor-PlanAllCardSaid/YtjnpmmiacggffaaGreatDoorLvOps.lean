/- Each operation of the evaluator does what the machine does. -/
import Derived.Test.YtjnpmmiacggffaaGreatDoorLvEval
import Derived.Laws.Cells
import Derived.Laws.IdiomCopy
import Derived.WideLaws
/- Each operation of the evaluator does what the machine does. -/
namespace Lv
open Go
set_option linter.unusedVariables false
set_option linter.unusedSimpArgs false
set_option linter.unusedSectionVars false
variable [bJ]
theorem aac {ro : Ro} {x : D} {v u : Value} (h : DR ro x v) (hu : x.cval = some u) : v = u := by
 cases h <;> simp_all [D.cval]
theorem Qp {ro : Ro} : ∀ (xs : List D) (us vs : List Value), vs.length = xs.length → (∀ (i : Nat) (x : D) (v : Value), xs[i]? = some x → vs[i]? = some v → DR ro x v) → PX xs = some us → vs = us
 | [], us, vs, hl, _, hu => by
  simp only [PX, Option.some.injEq] at hu
  subst hu
  simpa using hl
 | x :: r, us, [], hl, _, _ => by simp at hl
 | x :: r, us, v :: vs, hl, h, hu => by
  simp only [PX] at hu
  split at hu
  ·rename_i a b ha hb
   simp only [Option.some.injEq] at hu
   subst hu
   rw [aac (h 0 x v rfl rfl) ha, Qp r b vs (by simpa using hl) (fun i y u hy hu => h (i + 1) y u (by simpa using hy) (by simpa using hu)) hb]
  ·cases hu
theorem afV {ro : Ro} {x : D} {v u : Value} (h : DR ro x v) (hu : x.val = some u) : v = u := by
 cases h
 case agg cs vs hs h =>
  simp only [D.val] at hu
  split at hu
  ·rename_i us e
   simp only [Option.some.injEq] at hu
   subst hu
   have := Qp cs us vs.toList (by simpa using hs) (fun i x v hx hv => h i x v hx (by simpa using hv)) e
   rw [← this]
  ·cases hu
 all_goals simp_all [D.val, D.cval]
theorem LV {ro : Ro} {v : Value} {x : D} (h : Ji v = some x) : DR ro x v := by
 unfold Ji at h
 split at h <;> simp only [Option.some.injEq, reduceCtorEq] at h <;> subst h <;> constructor
theorem yA {ro : Ro} : ∀ (vs : List Value) (xs : List D), yB vs = some xs → vs.length = xs.length ∧ ∀ (i : Nat) (x : D) (v : Value), xs[i]? = some x → vs[i]? = some v → DR ro x v
 | [], xs, h => by
  simp only [yB, Option.some.injEq] at h
  subst h
  exact ⟨rfl, fun i x v hx => by simp at hx⟩
 | v :: vs, xs, h => by
  simp only [yB] at h
  split at h
  ·rename_i a b ha hb
   simp only [Option.some.injEq] at h
   subst h
   obtain ⟨hl, hr⟩ := yA vs b hb
   refine ⟨by simp [hl], fun i x u hx hu => ?_⟩
   cases i with
   | zero => simp only [List.getElem?_cons_zero, Option.some.injEq] at hx hu; subst hx; subst hu; exact LV ha
   | succ i => exact hr i x u (by simpa using hx) (by simpa using hu)
  ·cases h
theorem Pq {ro : Ro} {v : Value} {x : D} (h : nQ v = some x) : DR ro x v := by
 cases v
 case agg vs =>
  simp only [nQ] at h
  split at h
  ·rename_i ds e
   simp only [Option.some.injEq] at h
   subst h
   obtain ⟨hl, hr⟩ := yA (ro := ro) vs.toList ds e
   exact .agg ds vs (by simpa using hl) (fun i x v hx hv => hr i x v hx (by simpa using hv))
  ·cases h
 all_goals exact LV h
theorem fI {ro : Ro} {μ : Mu} {x : AV} {v u : Value} (h : VR ro μ x v) (hu : x.val = some u) : v = u := by
 cases h
 case d x h => exact afV h hu
 all_goals simp [AV.val] at hu
theorem Qi {ro : Ro} {μ : Mu} {v : Value} {x : D} (h : nQ v = some x) : VR ro μ (.d x) v := .d x v (Pq h)
theorem qJ {P : Program} {s : Sem Value} {x : AV} (h : pq P s = some x) (ro : Ro) (μ : Mu) (w : World) : ∃ v, s.run P w = .ok v w ∧ VR ro μ x v := by
 unfold pq at h
 split at h
 ·rename_i v hv
  split at h
  ·rename_i y hy
   simp only [Option.some.injEq] at h
   subst h
   exact ⟨v, Jd hv w, Qi hy⟩
  ·cases h
 ·cases h
theorem Gg {ro : Ro} {x : D} {v : Value} (h : DR ro x v) (hx : x.isAgg = false) : v.oneCell' = true := by
 cases h <;> simp_all [D.isAgg, Value.oneCell']
theorem afQ {ro : Ro} {μ : Mu} {x : AV} {v : Value} (h : VR ro μ x v) (hx : x.one = true) : v.oneCell' = true := by
 cases h
 case d x h => exact Gg h (by simpa [AV.one] using hx)
 all_goals first | rfl | simp [AV.one] at hx
theorem qU {ro : Ro} {μ : Mu} {x : AV} {v : Value} (h : VR ro μ x v) : oZ ro μ [x] #[v] := by
 refine ⟨rfl, fun i y u hy hu => ?_⟩
 cases i with
 | zero => simp at hy hu; subst hy; subst hu; exact h
 | succ i => simp at hy
theorem K7 {v : Value} (h : v.oneCell' = true) : v.cells = #[v] := by
 cases v <;> first | rfl | simp [Value.oneCell'] at h
theorem qd {ro : Ro} {μ : Mu} {x : AV} {v : Value} (h : VR ro μ x v) (hx : x ≠ .undef) : oZ ro μ x.cells v.cells := by
 cases h
 case undef => exact absurd rfl hx
 case d x h =>
  cases h
  case agg cs vs hs h =>
   refine ⟨by simpa [AV.cells, Value.cells] using hs, fun i y u hy hu => ?_⟩
   simp only [AV.cells, List.getElem?_map, Option.map_eq_some_iff] at hy
   obtain ⟨z, hz, rfl⟩ := hy
   exact .d z u (h i z u hz hu)
  all_goals exact qU (.d _ _ (by constructor <;> assumption))
 case agg cs vs hs h => exact ⟨hs, h⟩
 all_goals exact qU (by first | constructor; done | (constructor <;> assumption))
theorem Gf {ro : Ro} {μ : Mu} {id idx off : Nat} {v : Value} (h : VR ro μ (.ref id idx off) v) : ∃ L, μ id = some L ∧ v = .pointer (some (cellAt L.blk (L.base + idx * L.sz + off))) := by
 cases h with
 | ref _ _ _ L h => exact ⟨L, h, rfl⟩
theorem mW {ro : Ro} {μ : Mu} {id sz off len : Nat} {cap : Option Nat} {v : Value} (h : VR ro μ (.slc id sz off len cap) v) :
  (∃ L c a, v = .slice (some a) len c ∧ μ id = some L ∧ L.sz = sz ∧ len ≤ c ∧ (∀ k, cap = some k → c = k) ∧ (c ≠ 0 → a = cellAt L.blk (L.base + off * sz) ∧ off * sz + c * sz ≤ L.lim)) ∨ (len = 0 ∧ cap = none ∧ v = .slice none 0 0) := by
 cases h with
 | slc _ _ _ _ _ L c a h1 h2 h3 h4 h5 => exact .inl ⟨L, c, a, rfl, h1, h2, h3, h4, h5⟩
 | mg => exact .inr ⟨rfl, rfl, rfl⟩
theorem Od {ro : Ro} {μ : Mu} {cs : List D} {v : Value} (h : VR ro μ (.rop cs) v) :
  ∃ b o, ∃ g : Nat → Value, v = .pointer (some (cellAt b o)) ∧ (∀ (j : Nat) (c : D), cs[j]? = some c → ro (cellAt b (o + j)) = some (g j)) ∧ (∀ (j : Nat) (c : D), cs[j]? = some c → DR ro c (g j)) := by
 cases h with
 | rop _ b o g h1 h2 => exact ⟨b, o, g, rfl, h1, h2⟩
theorem yU {ro : Ro} {μ : Mu} {sz : Nat} {xs : List D} {v : Value} (h : VR ro μ (.d (.zF sz xs)) v) :
  (∃ a cap, ∃ g : Nat → Value, v = .slice (some a) xs.length cap ∧ xs.length ≤ cap ∧ (xs ≠ [] → a.spot = none) ∧ (∀ (i : Nat) (x : D), xs[i]? = some x → x.Em sz) ∧
   (∀ (i : Nat) (x : D) (j : Nat) (c : D), xs[i]? = some x → x.cells[j]? = some c → ro (cellAt a.block (a.off + (i * sz + j))) = some (g (i * sz + j))) ∧
   (∀ (i : Nat) (x : D) (j : Nat) (c : D), xs[i]? = some x → x.cells[j]? = some c → DR ro c (g (i * sz + j)))) ∨ (xs = [] ∧ v = .slice none 0 0) := by
 cases h with
 | d _ _ h => cases h with
  | zF _ _ a cap g h1 h2 h3 h4 h5 => exact .inl ⟨a, cap, g, rfl, h1, h2, h3, h4, h5⟩
  | nl => exact .inr ⟨rfl, rfl⟩
theorem Kk {ro : Ro} {μ : Mu} {cs : List AV} {v : Value} (h : VR ro μ (.tuple cs) v) : ∃ vs, v = .tuple vs ∧ oZ ro μ cs vs := by
 cases h with
 | tuple _ vs h1 h2 => exact ⟨vs, rfl, h1, h2⟩
theorem Ql {ro : Ro} {μ : Mu} {f : Fn} {cs ds : List AV} {v : Value} (h : VR ro μ (.fn f cs ds) v) : ∃ vs us, v = .func f vs us ∧ oZ ro μ cs vs ∧ oZ ro μ ds us := by
 cases h with
 | fn _ _ _ vs us h1 h2 h3 h4 => exact ⟨vs, us, rfl, ⟨h1, h3⟩, ⟨h2, h4⟩⟩
theorem Du {ro : Ro} {μ : Mu} : ∀ (cs : List AV) (ds : List D), U2 cs = some ds → ds.length = cs.length ∧ ∀ (i : Nat) (x : D), ds[i]? = some x → cs[i]? = some (.d x)
 | [], ds, h => by
  simp only [U2, Option.some.injEq] at h
  subst h
  exact ⟨rfl, fun i x hx => by simp at hx⟩
 | c :: cs, ds, h => by
  cases c
  case d x =>
   simp only [U2] at h
   split at h
   ·rename_i es e
    simp only [Option.some.injEq] at h
    subst h
    obtain ⟨hl, hr⟩ := Du (ro := ro) (μ := μ) cs es e
    refine ⟨by simp [hl], fun i y hy => ?_⟩
    cases i with
    | zero => simpa using hy
    | succ i => simpa using hr i y (by simpa using hy)
   ·cases h
  all_goals simp [U2] at h
theorem Qm {ro : Ro} {μ : Mu} {x : D} {v : Value} (h : VR ro μ (.d x) v) : DR ro x v := by
 cases h; assumption
theorem Aw {ro : Ro} {μ : Mu} {cs : List AV} {C : Array Value} (h : oZ ro μ cs C) : VR ro μ (Ay cs) (.agg C) := by
 unfold Ay
 split
 ·rename_i ds e
  obtain ⟨hl, hr⟩ := Du (ro := ro) (μ := μ) cs ds e
  exact .d _ _ (.agg ds C (by rw [h.size, hl]) (fun i x v hx hv => Qm (h.get i _ v (hr i x hx) hv)))
 ·exact .agg cs C h.size h.get
theorem Co {ro : Ro} {μ : Mu} {g : Bool} {n : Nat} {cs : List AV} {C : Array Value} {x : AV} (h : oZ ro μ cs C) (hx : qP g n cs = some x) :
  C.size = n ∧ ((g = true ∧ VR ro μ x (.agg C)) ∨ (g = false ∧ n = 1 ∧ ∃ v, C = #[v] ∧ VR ro μ x v)) := by
 unfold qP at hx
 split at hx
 ·rename_i hl
  refine ⟨by rw [h.size, hl], ?_⟩
  cases g with
  | true =>
   simp only [if_true, Option.some.injEq] at hx
   subst hx
   exact .inl ⟨rfl, Aw h⟩
  | false =>
   simp only [Bool.false_eq_true, if_false] at hx
   split at hx
   ·rename_i y
    simp only [Option.some.injEq] at hx
    subst hx
    have hs := h.size
    simp at hs hl
    obtain ⟨v, rfl⟩ : ∃ v, C = #[v] := by
     cases C with
     | mk l => match l, hs with
      | [v], _ => exact ⟨v, rfl⟩
    exact .inr ⟨rfl, hl.symm, v, rfl, h.get 0 _ _ rfl rfl⟩
   ·cases hx
 ·cases hx
theorem qV {ro : Ro} {μ : Mu} {cs : List AV} {C : Array Value} (h : oZ ro μ cs C) (o n : Nat) : oZ ro μ ((cs.drop o).take n) (C.extract o (o + n)) := by
 refine ⟨by simp [h.size]; omega, fun i x v hx hv => ?_⟩
 rw [List.getElem?_take, List.getElem?_drop] at hx
 rw [Array.getElem?_extract] at hv
 split at hx
 ·rename_i hi
  split at hv
  ·exact h.get (o + i) x v hx hv
  ·cases hv
 ·cases hx
theorem gZ {P : Program} {t : TypeId} {s : Nat} (h : dM P t = some s) (w : World) : (Go.sizeOf t).run P w = .ok s w := by
 unfold dM at h
 split at h
 ·rename_i i hi
  simp only [Option.some.injEq] at h
  subst h
  simp [Go.sizeOf, typeInfo, hi]
 ·cases h
theorem Iz {P : Program} {t : TypeId} {g : Bool} (h : ko P t = some g) (w : World) : (isAgg t).run P w = .ok g w := by
 unfold ko at h
 split at h <;> simp only [Option.some.injEq, reduceCtorEq] at h
 ·rename_i fs e; subst h; simp [isAgg, run_underlying e]
 ·rename_i a b e; subst h; simp [isAgg, run_underlying e]
 ·rename_i d hn1 hn2 e
  subst h
  simp only [isAgg, Sem.run_bind, run_underlying e, Result.andThen_ok]
  cases d <;> first | rfl | (exfalso; first | exact hn1 _ e | exact hn2 _ _ e)
theorem jh (b o n : Nat) : (cellAt b o).add n = cellAt b (o + n) := by
 unfold Addr.add cellAt; split <;> simp_all
theorem uJ {w : World} {b o : Nat} {C : Array Value} {T : TypeId} {fz : Nat × Nat} (h : w.heap[b]? = some (.cells C T fz)) : w.cell? (cellAt b o) = C[o]? := by
 simp [World.cell?, cellAt, h]
theorem D6 {P : Program} {w : World} {t : TypeId} {s : Nat} {g : Bool} {b o : Nat} {C : Array Value} (hs : dM P t = some s) (hg : ko P t = some g) (hC : C.size = s)
  (hc : ∀ j v, C[j]? = some v → w.cell? (cellAt b (o + j)) = some v) (h1 : g = false → s = 1) :
  (loadVar t (cellAt b o)).run P w = .ok (if g then .agg C else C.getD 0 undef) w := by
 unfold loadVar
 simp only [Sem.run_bind, Iz hg, Result.andThen_ok]
 cases g with
 | true =>
  have hl := run_loadCells_list (P := P) w (cellAt b o) C.toList (fun j v hv => by rw [jh]; exact hc j v (by simpa using hv))
  simp only [Array.length_toList] at hl
  simp [gZ hs, ← hC, hl]
 | false =>
  have e := h1 rfl
  have h0 : C[0]? = some (C.getD 0 undef) := by
   have : 0 < C.size := by omega
   simp [Array.getD, this]
  have := hc 0 _ h0
  simp only [Nat.add_zero] at this
  simp [this]
theorem Bb {P : Program} {σ : List Ob} {t : TypeId} {a x : AV} {ro : Ro} {μ : Mu} {w : World} {v : Value} (g : Good ro μ w (hp σ)) (ha : VR ro μ a v) (h : qc P σ t a = some x) :
  ∃ u p, v = .pointer (some p) ∧ (loadVar t p).run P w = .ok u w ∧ VR ro μ x u := by
 have key : ∀ (s : Nat) (gg : Bool) (b o : Nat) (cs : List AV) (C : Array Value), dM P t = some s → ko P t = some gg → oZ ro μ cs C → qP gg s cs = some x →
   (∀ j v, C[j]? = some v → w.cell? (cellAt b (o + j)) = some v) → ∃ u, (loadVar t (cellAt b o)).run P w = .ok u w ∧ VR ro μ x u := by
  intro s gg b o cs C hs hg hv hx hc
  obtain ⟨hC, h1⟩ := Co hv hx
  refine ⟨_, D6 hs hg hC hc (fun e => ?_), ?_⟩
  ·rcases h1 with ⟨e', _⟩ | ⟨_, e', _⟩
   ·rw [e] at e'; cases e'
   ·exact e'
  ·rcases h1 with ⟨rfl, k⟩ | ⟨rfl, _, u, rfl, k⟩
   ·exact k
   ·exact k
 unfold qc at h
 split at h
 ·rename_i s gg hs hg
  split at h
  ·rename_i id idx off
   cases ha
   rename_i L hL
   refine Exists.imp (fun u => ?_) (?_ : ∃ u, (loadVar t (cellAt L.blk (L.base + idx * L.sz + off))).run P w = .ok u w ∧ VR ro μ x u)
   ·intro k; exact ⟨_, rfl, k⟩
   have zB := g.ob id
   split at h
   ·rename_i y e
    split at h
    ·rename_i e0
     subst e0
     simp only [hp, e] at zB
     obtain ⟨C, T, fz, hb, hh, _, hv⟩ := zB L hL
     refine key s gg _ _ _ _ hs hg (qV hv off s) h (fun j v hj => ?_)
     rw [uJ hh, hb]
     rw [Array.getElem?_extract] at hj
     split at hj
     ·simpa using hj
     ·cases hj
    ·cases h
   ·rename_i sz xs wr e
    split at h
    ·rename_i y hy
     simp only [hp, e] at zB
     obtain ⟨C, T, fz, hsz, hh, _, hCs, hlim, _, hz, hv⟩ := zB L hL
     -- the element's cells
     have hzy := (hz idx y hy).1
     have hin : L.base + (idx * sz + y.cells.length) ≤ C.size := by
      have h2 : idx < xs.length := by
       rcases Nat.lt_or_ge idx xs.length with k | k
       ·exact k
       ·simp [List.getElem?_eq_none k] at hy
      have : (idx + 1) * sz ≤ xs.length * sz := Nat.mul_le_mul_right _ h2
      rw [Nat.add_mul] at this
      omega
     have hvs : oZ ro μ (y.cells.map AV.d) (C.extract (L.base + idx * sz) (L.base + idx * sz + y.cells.length)) := by
      refine ⟨by simp; omega, fun j c u hc hu => ?_⟩
      simp only [List.getElem?_map, Option.map_eq_some_iff] at hc
      obtain ⟨c', hc', rfl⟩ := hc
      rw [Array.getElem?_extract] at hu
      split at hu
      ·obtain ⟨v', h1, h2⟩ := hv idx y j c' hy hc'
       rw [show L.base + (idx * sz + j) = L.base + idx * sz + j by omega] at h1
       rw [h1] at hu
       cases hu
       exact .d _ _ h2
      ·cases hu
     refine key s gg _ _ _ _ hs hg (qV hvs off s) h (fun j v hj => ?_)
     rw [uJ hh, hsz]
     rw [Array.getElem?_extract] at hj
     split at hj
     ·rw [Array.getElem?_extract] at hj
      split at hj
      ·rw [← hj]; congr 1; omega
      ·cases hj
     ·cases hj
    ·cases h
   ·cases h
  ·rename_i cs
   cases ha
   rename_i b o gg' h1 h2
   refine Exists.imp (fun u => ?_) (?_ : ∃ u, (loadVar t (cellAt b o)).run P w = .ok u w ∧ VR ro μ x u)
   ·intro k; exact ⟨_, rfl, k⟩
   have hvs : oZ ro μ (cs.map AV.d) ((List.range cs.length).map gg').toArray := by
    refine ⟨by simp, fun j c u hc hu => ?_⟩
    simp only [List.getElem?_map, Option.map_eq_some_iff] at hc
    obtain ⟨c', hc', rfl⟩ := hc
    simp only [List.getElem?_toArray, List.getElem?_map, Option.map_eq_some_iff] at hu
    obtain ⟨k, hk, rfl⟩ := hu
    have : k = j := by
     rw [List.getElem?_range] at hk
     ·exact (Option.some.inj hk).symm
     ·rcases Nat.lt_or_ge j cs.length with q | q
      ·exact q
      ·simp [List.getElem?_eq_none q] at hc'
    subst this
    exact .d _ _ (h2 k c' hc')
   have ahE := qV hvs 0 s
   simp only [List.drop_zero, Nat.zero_add] at ahE
   refine key s gg _ _ _ _ hs hg ahE h (fun j v hj => ?_)
   rw [Array.getElem?_extract] at hj
   split at hj
   ·simp only [Nat.zero_add, List.getElem?_toArray, List.getElem?_map, Option.map_eq_some_iff] at hj
    obtain ⟨k, hk, rfl⟩ := hj
    have hjl : j < cs.length := by
     rcases Nat.lt_or_ge j cs.length with q | q
     ·exact q
     ·rw [List.getElem?_eq_none (by simpa using q)] at hk; cases hk
    rw [List.getElem?_range hjl] at hk
    cases hk
    exact g.vU _ _ (h1 j _ (List.getElem?_eq_getElem hjl))
   ·cases hj
  ·cases h
 ·cases h
end Lv
