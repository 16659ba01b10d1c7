/- Maps. -/
import Derived.Test.YtddopjhkmkoicaaGreatDoorLvOps7
import Derived.Laws.StructEq
/- Maps. -/
namespace Lv
open Go
set_option linter.unusedVariables false
set_option linter.unusedSimpArgs false
set_option linter.unusedSectionVars false
variable [BaseTab]
theorem Step.any {P : Program} {s : Sem Value} {ro : Ro} {μ : Mu} {w w' : World} {σ : List Ob} {x : AV} {v : Value} {σ' : List Ob} {ro' : Ro} (hr : s.run P w = .ok v w') (hv : VR ro' μ x v) (g : Good ro' μ w' (hp σ'))
  (e : Ext ro μ w (hp σ) ro' μ w' (hp σ')) (hl : σ'.length = σ.length) : Step P s ro μ w σ x σ' :=
 ⟨v, ro', μ, w', hr, hv, g, e, fun id h => absurd rfl h, by omega⟩
theorem Ic {P : Program} {σ σ' : List Ob} {t : TypeId} {r : Option AV} {rv : Option Value} {x : AV} {ro : Ro} {μ : Mu} {w : World} (g : Good ro μ w (hp σ)) (hn : μ σ.length = none)
  (hr1 : r = none → rv = none) (hr2 : ∀ y, r = some y → ∃ v, rv = some v ∧ VR ro μ y v) (h : sU P σ t r = some (x, σ')) : Step P (Instr.makeMap t rv) ro μ w σ x σ' := by
 have fin : (Instr.makeMap t rv).run P w = .ok (.map (some w.heap.size)) { w with heap := w.heap.push (.map #[] 0) } → Step P (Instr.makeMap t rv) ro μ w σ (.qN σ.length) (σ ++ [.map []]) := by
  intro hrun
  refine Step.push (w' := { w with heap := w.heap.push (.map #[] 0) }) ⟨w.heap.size, 0, 0, 0⟩ g hn hrun rfl rfl rfl rfl rfl ?_ ?_
  ·intro L hL
   simp only [fQ, if_true, Option.some.injEq] at hL
   subst hL
   exact ⟨#[], 0, by simp, rfl, fun i x e hx => by simp at hx⟩
  ·exact .qN _ ⟨w.heap.size, 0, 0, 0⟩ (by simp [fQ])
 unfold sU at h
 split at h
 ·rename_i k e hu
  simp only [Option.some.injEq, Prod.mk.injEq] at h
  obtain ⟨rfl, rfl⟩ := h
  rw [hr1 rfl]
  rw [hr1 rfl] at fin
  refine fin ?_
  rfl
 ·rename_i k e kk n hu
  simp only [Option.some.injEq, Prod.mk.injEq] at h
  obtain ⟨rfl, rfl⟩ := h
  obtain ⟨v, rfl, hv⟩ := hr2 _ rfl
  obtain rfl := Ii hv
  refine fin ?_
  unfold Instr.makeMap
  simp only [Sem.run_bind, run_underlying hu, Result.andThen_ok, asInt, asIntOf, Sem.run_pure]
  rfl
 ·cases h
theorem Ws {ro : Ro} {td : TypeDesc} {k : D} {v : Value} (hk : keyOf td k = true) (h : DR ro k v) :
  (∃ q kk n, td = .int q ∧ k = .int kk n ∧ v = .int kk n) ∨ (∃ s, td = .string ∧ k = .str s ∧ v = .string s) ∨ (∃ b, td = .bool ∧ k = .bool b ∧ v = .bool b) := by
 cases h <;> cases td <;> simp [keyOf] at hk
 ·exact .inl ⟨_, _, _, rfl, rfl, rfl⟩
 ·exact .inr (.inr ⟨_, rfl, rfl, rfl⟩)
 ·exact .inr (.inl ⟨_, rfl, rfl, rfl⟩)
theorem run_checkKey {P : Program} {ro : Ro} {kt : TypeId} {td : TypeDesc} {k : D} {v : Value} {b : Bool} {w : World} (hu : P.underlying kt = some td) (hk : keyOf td k = true) (h : DR ro k v) :
  (Instr.checkKey b 10000 kt v).run P w = .ok () w := by
 unfold Instr.checkKey
 simp only [Sem.run_bind, run_underlying hu, Result.andThen_ok]
 rcases Ws hk h with ⟨q, kk, n, rfl, rfl, rfl⟩ | ⟨s, rfl, rfl, rfl⟩ | ⟨b, rfl, rfl, rfl⟩ <;> rfl
theorem Ej {ro : Ro} {td : TypeDesc} {k k' : D} {v v' : Value} {b : Bool} (hk : keyOf td k = true) (h : DR ro k v) (h' : DR ro k' v') (e : D.keq k k' = some b) :
  Instr.sameNow td v v' = some b ∧ (b = true → Instr.sameBits 10000 v' v = true) := by
 rcases Ws hk h with ⟨q, kk, n, rfl, rfl, rfl⟩ | ⟨s, rfl, rfl, rfl⟩ | ⟨c, rfl, rfl, rfl⟩
 ·cases h' <;> simp only [D.keq] at e <;> first | (cases e; done) | skip
  split at e
  ·rename_i hq
   subst hq
   simp only [Option.some.injEq] at e
   refine ⟨by simp [Instr.sameNow, e], fun hb => ?_⟩
   subst hb
   have := beq_iff_eq.1 e
   subst this
   unfold Instr.sameBits
   simp
  ·cases e
 ·cases h' <;> simp only [D.keq] at e <;> first | (cases e; done) | skip
  simp only [Option.some.injEq] at e
  refine ⟨by simp [Instr.sameNow, e], fun hb => ?_⟩
  subst hb
  rw [beq_toListBytes] at e
  have := beq_iff_eq.1 e
  unfold Instr.sameBits
  rw [beq_toListBytes, this]
  simp
 ·cases h' <;> simp only [D.keq] at e <;> first | (cases e; done) | skip
  simp only [Option.some.injEq] at e
  refine ⟨by simp [Instr.sameNow, e], fun hb => ?_⟩
  subst hb
  have := beq_iff_eq.1 e
  subst this
  unfold Instr.sameBits
  simp
theorem zZ {ro : Ro} {td : TypeDesc} {k : D} {v : Value} (hk : keyOf td k = true) (h : DR ro k v) : ∀ (es : List (D × D)) (E : List MapEntry) (i : Nat) (r : Option (Nat × D)),
  E.length = es.length → (∀ (j : Nat) (x : D × D) (e : MapEntry), es[j]? = some x → E[j]? = some e → DR ro x.1 e.key ∧ DR ro x.2 e.val) → GK k es i = some r →
  (r = none ∧ Instr.findNow td v E i = some none) ∨ (∃ (j : Nat) (y : D) (x : D × D) (e : MapEntry), r = some (i + j, y) ∧ es[j]? = some x ∧ x.2 = y ∧ E[j]? = some e ∧ Instr.findNow td v E i = some (some (i + j, e.val)) ∧ Instr.sameBits 10000 e.key v = true)
 | [], E, i, r, hl, _, hm => by
  cases E with
  | cons a b => simp at hl
  | nil =>
   simp only [GK, Option.some.injEq] at hm
   exact .inl ⟨hm.symm, rfl⟩
 | x :: es, E, i, r, hl, hg, hm => by
  cases E with
  | nil => simp at hl
  | cons e E =>
   have h0 := hg 0 x e rfl rfl
   simp only [GK] at hm
   split at hm
   ·rename_i hq
    simp only [Option.some.injEq] at hm
    obtain ⟨s1, s2⟩ := Ej hk h h0.1 hq
    exact .inr ⟨0, x.2, x, e, by simpa using hm.symm, rfl, rfl, rfl, by simp [Instr.findNow, s1], s2 rfl⟩
   ·rename_i hq
    obtain ⟨s1, _⟩ := Ej hk h h0.1 hq
    rcases zZ hk h es E (i + 1) r (by simpa using hl) (fun j x e hx he => hg (j + 1) x e (by simpa using hx) (by simpa using he)) hm with ⟨e1, e2⟩ | ⟨j, y, x', e', e1, e2, e3, e4, e5, e6⟩
    ·exact .inl ⟨e1, by simp [Instr.findNow, s1, e2]⟩
    ·exact .inr ⟨j + 1, y, x', e', by rw [e1]; congr 2; omega, by simpa using e2, e3, by simpa using e4, by simp only [Instr.findNow, s1, e5]; congr 3; omega, e6⟩
   ·cases hm
theorem MR.find {P : Program} {ro : Ro} {td : TypeDesc} {kt : TypeId} {k : D} {v : Value} {es : List (D × D)} {E : Array MapEntry} {r : Option (Nat × D)} {w : World} (hM : MR ro es E) (hu : P.underlying kt = some td) (hk : keyOf td k = true) (h : DR ro k v)
  (hm : GK k es 0 = some r) :
  (r = none ∧ (Instr.findKey kt v E.toList).run P w = .ok none w) ∨ (∃ (j : Nat) (y : D) (x : D × D) (e : MapEntry), r = some (j, y) ∧ es[j]? = some x ∧ x.2 = y ∧ E[j]? = some e ∧ (Instr.findKey kt v E.toList).run P w = .ok (some (j, e.val)) w ∧ Instr.sameBits 10000 e.key v = true) := by
 have hf := zZ hk h es E.toList 0 r (by simpa using hM.size) (fun j x e hx he => hM.get j x e hx (by simpa using he)) hm
 rcases hf with ⟨e1, e2⟩ | ⟨j, y, x, e, e1, e2, e3, e4, e5, e6⟩
 ·refine .inl ⟨e1, ?_⟩
  unfold Instr.findKey
  simp only [Sem.run_bind, run_underlying hu, Result.andThen_ok, e2, Sem.run_pure]
 ·refine .inr ⟨j, y, x, e, by simpa using e1, e2, e3, by simpa using e4, ?_, e6⟩
  unfold Instr.findKey
  simp only [Sem.run_bind, run_underlying hu, Result.andThen_ok, e5, Sem.run_pure, Nat.zero_add]
theorem Jz {P : Program} {t : TypeId} {td : TypeDesc} {e : TypeId} (h : XK P t = some (td, e)) : ∃ k, P.underlying t = some (.map k e) ∧ P.underlying k = some td := by
 unfold XK at h
 split at h
 ·rename_i k e' hu
  split at h
  ·rename_i d hd
   simp only [Option.some.injEq, Prod.mk.injEq] at h
   obtain ⟨rfl, rfl⟩ := h
   exact ⟨k, hu, hd⟩
  ·cases h
 ·cases h
theorem wz {P : Program} {w : World} {b : Nat} {E : Array MapEntry} {c : Nat} (h : w.heap[b]? = some (.map E c)) : (getObj b).run P w = .ok (.map E c) w := by
 simp [getObj, Sem.run, h]
theorem Gb {P : Program} {w : World} {b : Nat} {o : Obj} {E : Array MapEntry} {c : Nat} (h : w.heap[b]? = some (.map E c)) : (setObj b o).run P w = .ok () { w with heap := w.heap.setIfInBounds b o } := by
 simp [setObj, Sem.run, h]
theorem NI {ro : Ro} {μ : Mu} {id : Nat} {v : Value} (h : VR ro μ (.qN id) v) : ∃ L, v = .map (some L.blk) ∧ μ id = some L := by
 cases h with
 | qN _ L h => exact ⟨L, rfl, h⟩
theorem Jb {P : Program} {σ : List Ob} {t : TypeId} {x i y : AV} {ok : Bool} {v u : Value} {ro : Ro} {μ : Mu} {w : World} (g : Good ro μ w (hp σ)) (hx : VR ro μ x v) (hi : VR ro μ i u)
  (h : wV P σ t x i ok = some y) : ∃ z, (Instr.lookup t v u ok).run P w = .ok z w ∧ VR ro μ y z := by
 unfold wV at h
 split at h
 ·rename_i td e id k ht
  obtain ⟨kt, hu, hk⟩ := Jz ht
  obtain ⟨L, rfl, hL⟩ := NI hx
  have hkd := NM hi
  split at h
  ·rename_i es z he hz
   split at h
   ·rename_i hkey
    have zm := g.ob id
    rw [dI he] at zm
    obtain ⟨E, c, hb, hM⟩ := zm L hL
    obtain ⟨zv, hzv, hzd⟩ := rG hz ro w
    have hck := fun b => run_checkKey (b := b) (w := w) hk hkey hkd
    have tup : ∀ (a : D) (va : Value) (b : Bool), DR ro a va → VR ro μ (if ok then AV.tuple [.d a, .d (.bool b)] else .d a) (if ok then Value.tuple #[va, .bool b] else va) := by
     intro a va b ha
     cases ok
     ·exact .d _ _ ha
     ·refine .tuple _ _ rfl (fun i x v hx hv => ?_)
      rcases i with _ | _ | i
      ·simp at hx hv; subst hx hv; exact .d _ _ ha
      ·simp at hx hv; subst hx hv; exact .d _ _ (.bool b)
      ·simp at hx
    split at h
    ·rename_i j d hm
     simp only [Option.some.injEq] at h
     subst h
     rcases hM.find (w := w) hk hkey hkd hm with ⟨e1, _⟩ | ⟨j', y', x', e', e1, e2, e3, e4, e5, e6⟩
     ·cases e1
     ·simp only [Option.some.injEq, Prod.mk.injEq] at e1
      obtain ⟨rfl, rfl⟩ := e1
      refine ⟨_, ?_, tup _ _ true (e3 ▸ (hM.get _ _ _ e2 e4).2)⟩
      unfold Instr.lookup
      simp only [Sem.run_bind, run_underlying hu, Result.andThen_ok, wz hb, Sem.run_pure, hck, e5]
    ·rename_i hm
     simp only [Option.some.injEq] at h
     subst h
     rcases hM.find (w := w) hk hkey hkd hm with ⟨_, e2⟩ | ⟨j', y', x', e', e1, e2, e3, e4, e5, e6⟩
     ·refine ⟨_, ?_, tup _ _ false hzd⟩
      unfold Instr.lookup
      simp only [Sem.run_bind, run_underlying hu, Result.andThen_ok, wz hb, Sem.run_pure, hck, e2, hzv]
     ·cases e1
    ·cases h
   ·cases h
  ·cases h
 ·cases h
theorem MR.push {ro : Ro} {es : List (D × D)} {E : Array MapEntry} (h : MR ro es E) {k v : D} {e : MapEntry} (hk : DR ro k e.key) (hv : DR ro v e.val) : MR ro (es ++ [(k, v)]) (E.push e) := by
 refine ⟨by simp [h.size], fun i x e' hx he => ?_⟩
 have hs := h.size
 rw [Array.getElem?_push] at he
 split at he
 ·rename_i hi
  simp only [Option.some.injEq] at he
  subst he
  rw [List.getElem?_append_right (by omega)] at hx
  have : i - es.length = 0 := by omega
  rw [this] at hx
  simp only [List.getElem?_cons_zero, Option.some.injEq] at hx
  subst hx
  exact ⟨hk, hv⟩
 ·rename_i hi
  have hlt : i < E.size := by
   rcases Nat.lt_or_ge i E.size with q | q
   ·exact q
   ·simp [Array.getElem?_eq_none q] at he
  rw [List.getElem?_append_left (by omega)] at hx
  exact h.get i x e' hx he
theorem MR.modify {ro : Ro} {es : List (D × D)} {E : Array MapEntry} (h : MR ro es E) {j : Nat} {k v : D} {kv vv : Value} (hk : DR ro k kv) (hv : DR ro v vv) :
  MR ro (es.set j (k, v)) (E.modify j fun e => { e with key := kv, val := vv }) := by
 refine ⟨by simp [h.size], fun i x e' hx he => ?_⟩
 rw [Array.getElem?_modify] at he
 rw [List.getElem?_set] at hx
 by_cases hj : j = i
 ·subst hj
  rw [if_pos rfl] at he hx
  split at hx
  ·simp only [Option.some.injEq] at hx
   subst hx
   cases hE : E[j]? with
   | none => rw [hE] at he; cases he
   | some e0 =>
    rw [hE] at he
    simp only [Option.map_some, Option.some.injEq] at he
    subst he
    exact ⟨hk, hv⟩
  ·cases hx
 ·rw [if_neg hj] at he hx
  exact h.get i x e' hx he
theorem O4 {ro : Ro} {μ : Mu} {w : World} {σ σ' : List Ob} {x : AV} {v : Value} {y : D} (g : Good ro μ w (hp σ)) (hv : VR ro μ x v) (h : zH σ x = some (y, σ')) :
  ∃ ro', Good ro' μ w (hp σ') ∧ Ext ro μ w (hp σ) ro' μ w (hp σ') ∧ DR ro' y v ∧ σ'.length = σ.length := by
 unfold zH at h
 split at h
 ·rename_i hva
  split at h
  ·rename_i es σ1 hfz
   simp only [Option.some.injEq, Prod.mk.injEq] at h
   obtain ⟨rfl, rfl⟩ := h
   have hne : x ≠ .undef := by rintro rfl; simp [AV.isAgg] at hva
   have hcs := qA hv hne
   obtain ⟨tu, g1, x1, l1, d1, a1, n1⟩ := ni x.cells (vs := v.cells.toList) g (by simpa using hcs.size) (fun i x v hx hv => hcs.get i x v hx (by simpa using hv)) hfz
   refine ⟨tu, g1, x1, ?_, n1⟩
   have al2 : ∃ vs, v = .agg vs := by
    cases x <;> simp [AV.isAgg] at hva
    ·rename_i d
     cases d <;> simp at hva
     have := NM hv
     cases this
     exact ⟨_, rfl⟩
    ·cases hv
     exact ⟨_, rfl⟩
   obtain ⟨vs, rfl⟩ := al2
   have hs := hcs.size
   simp only [Value.cells] at hs d1
   exact .agg es vs (by omega) (fun i y v hy hv => d1 i y v hy (by simpa using hv))
  ·cases h
 ·obtain ⟨tu, g1, x1, d1, a1, n1⟩ := vR g hv h
  exact ⟨tu, g1, x1, d1, n1⟩
theorem DZ {P : Program} {σ σ' : List Ob} {t : TypeId} {m i c y : AV} {mv iv cv : Value} {ro : Ro} {μ : Mu} {w : World} (g : Good ro μ w (hp σ)) (hm : VR ro μ m mv) (hi : VR ro μ i iv) (hc : VR ro μ c cv)
  (h : sS P σ t m i c = some (y, σ')) : ∃ w' ro', y = .tuple [] ∧ (Instr.mapUpdate t mv iv cv).run P w = .ok () w' ∧ Good ro' μ w' (hp σ') ∧ Ext ro μ w (hp σ) ro' μ w' (hp σ') ∧ σ'.length = σ.length := by
 unfold sS at h
 split at h
 ·rename_i td e id k ht
  obtain ⟨kt, hu, hk⟩ := Jz ht
  obtain ⟨L, rfl, hL⟩ := NI hm
  have amE := NM hi
  split at h
  ·rename_i hkey
   split at h
   ·rename_i d σ1 hfz
    obtain ⟨tu, g1, x1, hd, n1⟩ := O4 g hc hfz
    have hkd := amE.mono x1.mR
    split at h
    ·rename_i es he
     split at h
     ·rename_i es' hput
      simp only [Option.some.injEq, Prod.mk.injEq] at h
      obtain ⟨rfl, rfl⟩ := h
      have zm := g1.ob id
      rw [dI he] at zm
      obtain ⟨E, cl, hb, hM⟩ := zm L hL
      have hblt : L.blk < w.heap.size := by
       rcases Nat.lt_or_ge L.blk w.heap.size with q | q
       ·exact q
       ·simp [Array.getElem?_eq_none q] at hb
      have fin : ∀ (E' : Array MapEntry) (cl' : Nat), MR tu es' E' → (Instr.mapUpdate t (.map (some L.blk)) iv cv).run P w = .ok () { w with heap := w.heap.setIfInBounds L.blk (.map E' cl') } →
        ∃ w' ro', AV.tuple [] = .tuple [] ∧ (Instr.mapUpdate t (.map (some L.blk)) iv cv).run P w = .ok () w' ∧ Good ro' μ w' (hp (σ1.set id (.map es'))) ∧ Ext ro μ w (hp σ) ro' μ w' (hp (σ1.set id (.map es'))) ∧ (σ1.set id (.map es')).length = σ.length := by
       intro E' cl' hM' hrun
       have := g1.write (w' := { w with heap := w.heap.setIfInBounds L.blk (.map E' cl') }) (n := id) (o := .map es') (L := L) (by rw [dI he]; rfl) hL
        (fun b hb' => by simp only [Array.getElem?_setIfInBounds]; rw [if_neg (fun e => hb' e.symm)]) (by simp) rfl rfl rfl (by
         intro L' hL'
         rw [hL] at hL'; cases hL'
         exact ⟨E', cl', by simp [hblt], hM'⟩)
       rw [← ng (bE he)] at this
       exact ⟨_, tu, rfl, hrun, this.1, x1.trans this.2, by simp [n1]⟩
      have hck := fun b => run_checkKey (b := b) (w := w) hk hkey hkd
      unfold XH at hput
      split at hput
      ·rename_i j d' hf
       simp only [Option.some.injEq] at hput
       subst hput
       rcases hM.find (w := w) hk hkey hkd hf with ⟨e1, _⟩ | ⟨j', y', x', e', e1, e2, e3, e4, e5, e6⟩
       ·cases e1
       ·simp only [Option.some.injEq, Prod.mk.injEq] at e1
        obtain ⟨rfl, rfl⟩ := e1
        refine fin _ cl (hM.modify hkd hd) ?_
        unfold Instr.mapUpdate
        simp only [Sem.run_bind, run_underlying hu, Result.andThen_ok, wz hb, hck, e5, e4, Option.map_some, Option.getD_some, Instr.keyThatStays, e6, if_true, Sem.run_pure, Gb hb]
      ·rename_i hf
       simp only [Option.some.injEq] at hput
       subst hput
       rcases hM.find (w := w) hk hkey hkd hf with ⟨_, e2⟩ | ⟨j', y', x', e', e1, e2, e3, e4, e5, e6⟩
       ·refine fin _ (cl + 1) (hM.push (e := { key := iv, val := cv, born := cl }) hkd hd) ?_
        unfold Instr.mapUpdate
        simp only [Sem.run_bind, run_underlying hu, Result.andThen_ok, wz hb, hck, e2, Sem.run_pure, Gb hb]
       ·cases e1
      ·cases hput
     ·cases h
    ·cases h
   ·cases h
  ·cases h
 ·cases h
end Lv
