/- Abstract values and memory for a deterministic evaluator of Go code, and how they stand to the machine's values and world. -/
import Derived.Calls
import Derived.Below
/- Abstract values and memory for a deterministic evaluator of Go code, and how they stand to the machine's values and world. -/
namespace Lv
open Go
set_option linter.unusedVariables false
set_option linter.unusedSimpArgs false
set_option linter.unusedSectionVars false
inductive D where
 | int (k : IntKind) (n : Int)
 | bool (b : Bool)
 | str (s : ByteArray)
 | Dt | aA | MC | MF | ME
 | agg (cs : List D)
 | xI (sz : Nat) (xs : List D)
 | adr (b : Nat)
 deriving Inhabited
def D.cells : D → List D
 | .agg cs => cs
 | x => [x]
def D.isAgg : D → Bool
 | .agg _ => true
 | _ => false
def D.BO (sz : Nat) (x : D) : Prop := x.cells.length = sz ∧ ∀ c ∈ x.cells, c.isAgg = false
inductive AV where
 | undef
 | d (x : D)
 | ref (id idx off : Nat)
 | rop (cs : List D)
 | slc (id sz off len : Nat) (cap : Option Nat)
 | agg (cs : List AV)
 | tuple (vs : List AV)
 | fn (f : Fn) (first caps : List AV)
 | qN (id : Nat)
 | iface (t : TypeId) (v : AV)
 deriving Inhabited
def AV.cells : AV → List AV
 | .d (.agg cs) => cs.map .d
 | .agg cs => cs
 | x => [x]
def AV.isAgg : AV → Bool
 | .d (.agg _) => true
 | .agg _ => true
 | _ => false
def AV.one : AV → Bool
 | .d x => !x.isAgg
 | .ref _ _ _ => true
 | .rop _ => true
 | .slc _ _ _ _ _ => true
 | .fn _ _ _ => true
 | .qN _ => true
 | .iface _ _ => true
 | _ => false
inductive Ob where
 | dead
 | box (x : AV)
 | row (sz : Nat) (xs : List D) (wr : Bool)
 | map (es : List (D × D))
 deriving Inhabited
def Ob.live : Ob → Bool
 | .dead => false
 | _ => true
def Ob.wr : Ob → Bool
 | .dead => false
 | .box _ => true
 | .row _ _ w => w
 | .map _ => true
theorem Ob.fO {o : Ob} (h : o.wr = true) : o.live = true := by cases o <;> simp_all [Ob.wr, Ob.live]
abbrev Ro := Addr → Option Value
def cellAt (b o : Nat) : Addr := ⟨b, o, none⟩
inductive DR (ro : Ro) : D → Value → Prop
 | int (k n) : DR ro (.int k n) (.int k n)
 | bool (b) : DR ro (.bool b) (.bool b)
 | str (s) : DR ro (.str s) (.string s)
 | Dt : DR ro .Dt (.pointer none)
 | aA : DR ro .aA (.slice none 0 0)
 | MC : DR ro .MC (.map none)
 | MF : DR ro .MF .nilFunc
 | ME : DR ro .ME .nilIface
 | nl (sz : Nat) : DR ro (.xI sz []) (.slice none 0 0)
 | adr (b : Nat) : DR ro (.adr b) (.pointer (some (cellAt b 0)))
 | agg (cs : List D) (vs : Array Value) (hs : vs.size = cs.length) (h : ∀ (i : Nat) (x : D) (v : Value), cs[i]? = some x → vs[i]? = some v → DR ro x v) : DR ro (.agg cs) (.agg vs)
 | xI (sz : Nat) (xs : List D) (a : Addr) (cap : Nat) (g : Nat → Value) (hc : xs.length ≤ cap) (ha : xs ≠ [] → a.spot = none)
   (hz : ∀ (i : Nat) (x : D), xs[i]? = some x → x.BO sz)
   (h1 : ∀ (i : Nat) (x : D) (j : Nat) (c : D), xs[i]? = some x → x.cells[j]? = some c → ro (cellAt a.block (a.off + (i * sz + j))) = some (g (i * sz + j)))
   (h2 : ∀ (i : Nat) (x : D) (j : Nat) (c : D), xs[i]? = some x → x.cells[j]? = some c → DR ro c (g (i * sz + j))) : DR ro (.xI sz xs) (.slice (some a) xs.length cap)
theorem DR.mono {ro ro' : Ro} (hr : ∀ a v, ro a = some v → ro' a = some v) {x : D} {v : Value} (h : DR ro x v) : DR ro' x v := by
 induction h with
 | int k n => exact .int k n
 | bool b => exact .bool b
 | str s => exact .str s
 | Dt => exact .Dt
 | aA => exact .aA
 | MC => exact .MC
 | MF => exact .MF
 | ME => exact .ME
 | nl sz => exact .nl sz
 | adr b => exact .adr b
 | agg cs vs hs _ ih => exact .agg cs vs hs ih
 | xI sz xs a cap g hc ha hz h1 _ ih => exact .xI sz xs a cap g hc ha hz (fun i x j c hx hj => hr _ _ (h1 i x j c hx hj)) ih
structure Loc where
 blk : Nat
 base : Nat
 sz : Nat
 lim : Nat
abbrev Mu := Nat → Option Loc
inductive VR (ro : Ro) (μ : Mu) : AV → Value → Prop
 | undef (v) : VR ro μ .undef v
 | d (x v) (h : DR ro x v) : VR ro μ (.d x) v
 | ref (id idx off : Nat) (L : Loc) (h : μ id = some L) : VR ro μ (.ref id idx off) (.pointer (some (cellAt L.blk (L.base + idx * L.sz + off))))
 | rop (cs : List D) (b o : Nat) (g : Nat → Value) (h1 : ∀ (j : Nat) (c : D), cs[j]? = some c → ro (cellAt b (o + j)) = some (g j)) (h2 : ∀ (j : Nat) (c : D), cs[j]? = some c → DR ro c (g j)) : VR ro μ (.rop cs) (.pointer (some (cellAt b o)))
 | slc (id sz off len : Nat) (cap : Option Nat) (L : Loc) (c : Nat) (a : Addr) (h : μ id = some L) (hsz : L.sz = sz) (hl : len ≤ c) (hc : ∀ k, cap = some k → c = k)
   (ha : c ≠ 0 → a = cellAt L.blk (L.base + off * sz) ∧ off * sz + c * sz ≤ L.lim) : VR ro μ (.slc id sz off len cap) (.slice (some a) len c)
 | dX (id sz off : Nat) : VR ro μ (.slc id sz off 0 none) (.slice none 0 0)
 | agg (cs : List AV) (vs : Array Value) (hs : vs.size = cs.length) (h : ∀ (i : Nat) (x : AV) (v : Value), cs[i]? = some x → vs[i]? = some v → VR ro μ x v) : VR ro μ (.agg cs) (.agg vs)
 | tuple (cs : List AV) (vs : Array Value) (hs : vs.size = cs.length) (h : ∀ (i : Nat) (x : AV) (v : Value), cs[i]? = some x → vs[i]? = some v → VR ro μ x v) : VR ro μ (.tuple cs) (.tuple vs)
 | fn (f) (cs ds : List AV) (vs us : Array Value) (hs : vs.size = cs.length) (ht : us.size = ds.length) (h : ∀ (i : Nat) (x : AV) (v : Value), cs[i]? = some x → vs[i]? = some v → VR ro μ x v)
   (k : ∀ (i : Nat) (x : AV) (v : Value), ds[i]? = some x → us[i]? = some v → VR ro μ x v) : VR ro μ (.fn f cs ds) (.func f vs us)
 | qN (id : Nat) (L : Loc) (h : μ id = some L) : VR ro μ (.qN id) (.map (some L.blk))
 | iface (t x v) (h : VR ro μ x v) : VR ro μ (.iface t x) (.iface t v)
theorem VR.mono {ro ro' : Ro} {μ μ' : Mu} (hr : ∀ a v, ro a = some v → ro' a = some v) (hm : ∀ i L, μ i = some L → μ' i = some L) {x : AV} {v : Value} (h : VR ro μ x v) : VR ro' μ' x v := by
 induction h with
 | undef v => exact .undef v
 | d x v h => exact .d x v (h.mono hr)
 | ref id idx off L h => exact .ref id idx off L (hm _ _ h)
 | rop cs b o g h1 h2 => exact .rop cs b o g (fun j c hj => hr _ _ (h1 j c hj)) (fun j c hj => (h2 j c hj).mono hr)
 | slc id sz off len cap L c a h hsz hl hc ha => exact .slc id sz off len cap L c a (hm _ _ h) hsz hl hc ha
 | dX id sz off => exact .dX id sz off
 | agg cs vs hs _ ih => exact .agg cs vs hs ih
 | tuple cs vs hs _ ih => exact .tuple cs vs hs ih
 | fn f cs ds vs us hs ht _ _ ih ih' => exact .fn f cs ds vs us hs ht ih ih'
 | qN id L h => exact .qN id L (hm _ _ h)
 | iface t x v _ ih => exact .iface t x v ih
structure VRs (ro : Ro) (μ : Mu) (xs : List AV) (vs : Array Value) : Prop where
 size : vs.size = xs.length
 get : ∀ (i : Nat) (x : AV) (v : Value), xs[i]? = some x → vs[i]? = some v → VR ro μ x v
theorem VRs.mono {ro ro' : Ro} {μ μ' : Mu} (hr : ∀ a v, ro a = some v → ro' a = some v) (hm : ∀ i L, μ i = some L → μ' i = some L) {x : List AV} {v : Array Value} (h : VRs ro μ x v) : VRs ro' μ' x v :=
 ⟨h.size, fun i x v hx hv => (h.get i x v hx hv).mono hr hm⟩
def u7 (fz : Nat × Nat) (n : Nat) : Prop := fz.1 ≤ fz.2 ∧ ∀ o, o < n → ¬ (fz.1 ≤ o ∧ o < fz.2)
structure MR (ro : Ro) (es : List (D × D)) (E : Array MapEntry) : Prop where
 size : E.size = es.length
 get : ∀ (i : Nat) (x : D × D) (e : MapEntry), es[i]? = some x → E[i]? = some e → DR ro x.1 e.key ∧ DR ro x.2 e.val
theorem MR.mono {ro ro' : Ro} (hr : ∀ a v, ro a = some v → ro' a = some v) {es : List (D × D)} {E : Array MapEntry} (h : MR ro es E) : MR ro' es E :=
 ⟨h.size, fun i x e hx he => ⟨(h.get i x e hx he).1.mono hr, (h.get i x e hx he).2.mono hr⟩⟩
def OR (ro : Ro) (μ : Mu) (w : World) (id : Nat) : Ob → Prop
 | .dead => True
 | .box x => ∀ L, μ id = some L → ∃ C T fz, L.base = 0 ∧ w.heap[L.blk]? = some (.cells C T fz) ∧ u7 fz C.size ∧ VRs ro μ x.cells C
 | .row sz xs wr => ∀ L, μ id = some L → ∃ C T fz, L.sz = sz ∧ w.heap[L.blk]? = some (.cells C T fz) ∧ u7 fz C.size ∧ C.size = L.base + L.lim ∧ xs.length * sz ≤ L.lim ∧
   (wr = false → ∀ o v, C[o]? = some v → ro (cellAt L.blk o) = some v) ∧
   (∀ (i : Nat) (x : D), xs[i]? = some x → x.BO sz) ∧
   (∀ (i : Nat) (x : D) (j : Nat) (c : D), xs[i]? = some x → x.cells[j]? = some c → ∃ v, C[L.base + (i * sz + j)]? = some v ∧ DR ro c v)
 | .map es => ∀ L, μ id = some L → ∃ E c, w.heap[L.blk]? = some (.map E c) ∧ MR ro es E
abbrev Hp := Nat → Ob
def hp (σ : List Ob) : Hp := fun i => match σ[i]? with
 | some o => o
 | none => .dead
def WB (H : Hp) (μ : Mu) (b : Nat) : Prop := ∃ (id : Nat) (L : Loc), (H id).wr = true ∧ μ id = some L ∧ L.blk = b
def LB (H : Hp) (μ : Mu) (b : Nat) : Prop := ∃ (id : Nat) (L : Loc), (H id).live = true ∧ μ id = some L ∧ L.blk = b
theorem WB.lb {H : Hp} {μ : Mu} {b : Nat} (h : WB H μ b) : LB H μ b := let ⟨i, L, h1, h2, h3⟩ := h; ⟨i, L, Ob.fO h1, h2, h3⟩
class BaseTab where
 tab : Ro
variable [BaseTab]
structure Good (ro : Ro) (μ : Mu) (w : World) (H : Hp) : Prop where
 vH : ∀ a v, ro a = some v → w.cell? a = some v
 ob : ∀ (id : Nat), OR ro μ w id (H id)
 apart : ∀ (id id' : Nat) (L L' : Loc), (H id).wr = true → (H id').live = true → μ id = some L → μ id' = some L' → L.blk = L'.blk → id = id'
 iN : ∀ b, WB H μ b → ∀ a, a.block = b → ro a = none
 base : ∀ a v, BaseTab.tab a = some v → ro a = some v
theorem OR.lt {ro : Ro} {μ : Mu} {w : World} {id : Nat} {o : Ob} {L : Loc} (h : OR ro μ w id o) (ho : o.live = true) (hm : μ id = some L) : L.blk < w.heap.size := by
 have key : ∀ C T fz, w.heap[L.blk]? = some (Obj.cells C T fz) → L.blk < w.heap.size := by
  intro C T fz e
  rcases Nat.lt_or_ge L.blk w.heap.size with h | h
  ·exact h
  ·simp [Array.getElem?_eq_none h] at e
 cases o with
 | dead => simp [Ob.live] at ho
 | box x => obtain ⟨C, T, fz, _, e, _⟩ := h L hm; exact key _ _ _ e
 | row sz xs wr => obtain ⟨C, T, fz, _, e, _⟩ := h L hm; exact key _ _ _ e
 | map es =>
  obtain ⟨E, c, e, _⟩ := h L hm
  rcases Nat.lt_or_ge L.blk w.heap.size with h | h
  ·exact h
  ·simp [Array.getElem?_eq_none h] at e
theorem Good.lt {ro : Ro} {μ : Mu} {w : World} {H : Hp} (h : Good ro μ w H) {b : Nat} (hb : LB H μ b) : b < w.heap.size := by
 obtain ⟨id, L, h1, h2, rfl⟩ := hb
 exact (h.ob id).lt h1 h2
structure Ext (ro : Ro) (μ : Mu) (w : World) (H : Hp) (ro' : Ro) (μ' : Mu) (w' : World) (H' : Hp) : Prop where
 GI : ∀ i L, μ i = some L → μ' i = some L
 mR : ∀ a v, ro a = some v → ro' a = some v
 tN : ∀ a v, ro' a = some v → ro a = some v ∨ w.heap.size ≤ a.block ∨ WB H μ a.block
 oD : ∀ b, WB H' μ' b → w.heap.size ≤ b ∨ WB H μ b
 uh : ∀ b, LB H' μ' b → w.heap.size ≤ b ∨ LB H μ b
 frame : ∀ b, b < w.heap.size → ¬ WB H μ b → w'.heap[b]? = w.heap[b]?
 size : w.heap.size ≤ w'.heap.size
 os : w'.os = w.os
 tape : w'.tape = w.tape
 output : w'.output = w.output
theorem Ext.refl (ro : Ro) (μ : Mu) (w : World) (H : Hp) : Ext ro μ w H ro μ w H :=
 ⟨fun _ _ h => h, fun _ _ h => h, fun _ _ h => .inl h, fun _ h => .inr h, fun _ h => .inr h, fun _ _ _ => rfl, Nat.le_refl _, rfl, rfl, rfl⟩
theorem Ext.trans {ro tu Xm : Ro} {μ NV Lp : Mu} {w w1 w2 : World} {H H1 H2 : Hp} (h : Ext ro μ w H tu NV w1 H1) (k : Ext tu NV w1 H1 Xm Lp w2 H2) : Ext ro μ w H Xm Lp w2 H2 where
 GI i L hi := k.GI _ _ (h.GI _ _ hi)
 mR a v hi := k.mR _ _ (h.mR _ _ hi)
 tN a v hi := by
  rcases k.tN a v hi with h1 | h1 | h1
  ·exact h.tN a v h1
  ·exact .inr (.inl (Nat.le_trans h.size h1))
  ·exact .inr (h.oD _ h1)
 oD b hb := by
  rcases k.oD b hb with h1 | h1
  ·exact .inl (Nat.le_trans h.size h1)
  ·exact h.oD _ h1
 uh b hb := by
  rcases k.uh b hb with h1 | h1
  ·exact .inl (Nat.le_trans h.size h1)
  ·exact h.uh _ h1
 frame b hb hn := by
  rw [k.frame b (Nat.lt_of_lt_of_le hb h.size) (fun hw => (h.oD b hw).elim (fun x => by omega) hn)]
  exact h.frame b hb hn
 size := Nat.le_trans h.size k.size
 os := k.os.trans h.os
 tape := k.tape.trans h.tape
 output := k.output.trans h.output
theorem mI {w w' : World} {a : Addr} (h : w'.heap[a.block]? = w.heap[a.block]?) : w'.cell? a = w.cell? a := by
 unfold World.cell?; rw [h]
theorem OR.keep {ro ro' : Ro} {μ μ' : Mu} {w w' : World} {id : Nat} {o : Ob} (h : OR ro μ w id o) (hr : ∀ a v, ro a = some v → ro' a = some v) (hm : ∀ i L, μ i = some L → μ' i = some L)
  (he : μ' id = μ id) (hb : ∀ L, μ id = some L → w'.heap[L.blk]? = w.heap[L.blk]?) : OR ro' μ' w' id o := by
 cases o with
 | dead => trivial
 | box x =>
  intro L hL
  rw [he] at hL
  obtain ⟨C, T, fz, h0, e, hf, hv⟩ := h L hL
  exact ⟨C, T, fz, h0, (hb L hL).trans e, hf, hv.mono hr hm⟩
 | row sz xs wr =>
  intro L hL
  rw [he] at hL
  obtain ⟨C, T, fz, h0, e, hf, hs, hl, hw, hz, hv⟩ := h L hL
  exact ⟨C, T, fz, h0, (hb L hL).trans e, hf, hs, hl, fun k o v hv => hr _ _ (hw k o v hv), hz, fun i x j c hx hj => let ⟨v, h1, h2⟩ := hv i x j c hx hj; ⟨v, h1, h2.mono hr⟩⟩
 | map es =>
  intro L hL
  rw [he] at hL
  obtain ⟨E, c, e, hm'⟩ := h L hL
  exact ⟨E, c, (hb L hL).trans e, hm'.mono hr⟩
theorem Good.merge {ro ro' : Ro} {μ μ' : Mu} {w w' : World} {H H1 H1' : Hp} (D : Nat → Prop) [DecidablePred D] (h : Good ro μ w H)
  (hsub : ∀ id, H1 id = H id ∨ H1 id = .dead) (hD : ∀ id, ¬ D id → H1 id = .dead ∧ H1' id = .dead ∧ μ' id = μ id)
  (g : Good ro' μ' w' H1') (x : Ext ro μ w H1 ro' μ' w' H1') :
  Good ro' μ' w' (fun id => if D id then H1' id else H id) ∧ Ext ro μ w H ro' μ' w' (fun id => if D id then H1' id else H id) := by
 have hwb : ∀ b, WB H1 μ b → WB H μ b := by
  rintro b ⟨id, L, h1, h2, h3⟩
  rcases hsub id with e | e
  ·exact ⟨id, L, e ▸ h1, h2, h3⟩
  ·rw [e] at h1; simp [Ob.wr] at h1
 have hlb : ∀ b, LB H1 μ b → LB H μ b := by
  rintro b ⟨id, L, h1, h2, h3⟩
  rcases hsub id with e | e
  ·exact ⟨id, L, e ▸ h1, h2, h3⟩
  ·rw [e] at h1; simp [Ob.live] at h1
 -- a block of an object outside of D is none that the part may write
 have hout : ∀ id L, ¬ D id → (H id).live = true → μ id = some L → ¬ WB H1 μ L.blk := by
  rintro id L hd hl hL ⟨id1, L1, h1, h2, h3⟩
  have e1 : H1 id1 = H id1 := by
   rcases hsub id1 with e | e
   ·exact e
   ·rw [e] at h1; simp [Ob.wr] at h1
  have := h.apart id1 id L1 L (e1 ▸ h1) hl h2 hL h3
  subst this
  rw [(hD _ hd).1] at h1
  simp [Ob.wr] at h1
 have hout2 : ∀ id L, ¬ D id → (H id).wr = true → μ id = some L → ¬ LB H1 μ L.blk := by
  rintro id L hd hl hL ⟨id1, L1, h1, h2, h3⟩
  have e1 : H1 id1 = H id1 := by
   rcases hsub id1 with e | e
   ·exact e
   ·rw [e] at h1; simp [Ob.live] at h1
  have := h.apart id id1 L L1 hl (e1 ▸ h1) hL h2 h3.symm
  subst this
  rw [(hD _ hd).1] at h1
  simp [Ob.live] at h1
 have hlt : ∀ id L, (H id).live = true → μ id = some L → L.blk < w.heap.size := fun id L h1 h2 => (h.ob id).lt h1 h2
 refine ⟨⟨g.vH, fun id => ?_, fun id id' L L' h1 h2 h3 h4 h5 => ?_, fun b hb a ha => ?_, g.base⟩, ⟨x.GI, x.mR, fun a v hv => ?_, fun b hb => ?_, fun b hb => ?_, fun b hb hn => x.frame b hb (fun k => hn (hwb b k)), x.size, x.os, x.tape, x.output⟩⟩
 ·by_cases hd : D id
  ·simp only [hd, if_true]; exact g.ob id
  ·simp only [hd, if_false]
   by_cases hl : (H id).live = true
   ·exact (h.ob id).keep x.mR x.GI (hD id hd).2.2 (fun L hL => x.frame _ (hlt id L hl hL) (hout id L hd hl hL))
   ·have : H id = .dead := by cases e : H id <;> simp [e, Ob.live] at hl ⊢
    rw [this]; trivial
 ·by_cases hd : D id <;> by_cases hd' : D id' <;> simp only [hd, hd', if_true, if_false] at h1 h2
  ·exact g.apart id id' L L' h1 h2 h3 h4 h5
  ·rw [(hD id' hd').2.2] at h4
   exfalso
   rcases x.oD L.blk ⟨id, L, h1, h3, rfl⟩ with k | k
   ·have := hlt id' L' h2 h4; omega
   ·exact hout id' L' hd' h2 h4 (h5 ▸ k)
  ·rw [(hD id hd).2.2] at h3
   exfalso
   rcases x.uh L'.blk ⟨id', L', h2, h4, rfl⟩ with k | k
   ·have := hlt id L (Ob.fO h1) h3; omega
   ·exact hout2 id L hd h1 h3 (h5 ▸ k)
  ·rw [(hD id hd).2.2] at h3
   rw [(hD id' hd').2.2] at h4
   exact h.apart id id' L L' h1 h2 h3 h4 h5
 ·obtain ⟨id, L, h1, h2, h3⟩ := hb
  by_cases hd : D id <;> simp only [hd, if_true, if_false] at h1
  ·exact g.iN b ⟨id, L, h1, h2, h3⟩ a ha
  ·rw [(hD id hd).2.2] at h2
   have hn := h.iN b ⟨id, L, h1, h2, h3⟩ a ha
   cases hr : ro' a with
   | none => rfl
   | some v =>
    exfalso
    rcases x.tN a v hr with k | k | k
    ·rw [hn] at k; cases k
    ·have := hlt id L (Ob.fO h1) h2; omega
    ·exact hout id L hd (Ob.fO h1) h2 (by rw [h3, ← ha]; exact k)
 ·rcases x.tN a v hv with k | k | k
  ·exact .inl k
  ·exact .inr (.inl k)
  ·exact .inr (.inr (hwb _ k))
 ·obtain ⟨id, L, h1, h2, h3⟩ := hb
  by_cases hd : D id <;> simp only [hd, if_true, if_false] at h1
  ·exact (x.oD b ⟨id, L, h1, h2, h3⟩).imp (fun z => z) (hwb b)
  ·rw [(hD id hd).2.2] at h2
   exact .inr ⟨id, L, h1, h2, h3⟩
 ·obtain ⟨id, L, h1, h2, h3⟩ := hb
  by_cases hd : D id <;> simp only [hd, if_true, if_false] at h1
  ·exact (x.uh b ⟨id, L, h1, h2, h3⟩).imp (fun z => z) (hlb b)
  ·rw [(hD id hd).2.2] at h2
   exact .inr ⟨id, L, h1, h2, h3⟩
theorem Good.less {ro : Ro} {μ : Mu} {w : World} {H H1 : Hp} (h : Good ro μ w H) (hsub : ∀ id, H1 id = H id ∨ H1 id = .dead) : Good ro μ w H1 := by
 have hw : ∀ id, (H1 id).wr = true → H1 id = H id := fun id k => (hsub id).resolve_right (fun e => by rw [e] at k; simp [Ob.wr] at k)
 have hl : ∀ id, (H1 id).live = true → H1 id = H id := fun id k => (hsub id).resolve_right (fun e => by rw [e] at k; simp [Ob.live] at k)
 refine ⟨h.vH, fun id => ?_, fun id id' L L' h1 h2 h3 h4 h5 => h.apart id id' L L' (hw id h1 ▸ h1) (hl id' h2 ▸ h2) h3 h4 h5, fun b hb a ha => ?_, h.base⟩
 ·rcases hsub id with e | e
  ·rw [e]; exact h.ob id
  ·rw [e]; trivial
 ·obtain ⟨id, L, h1, h2, h3⟩ := hb
  exact h.iN b ⟨id, L, hw id h1 ▸ h1, h2, h3⟩ a ha
def upd (H : Hp) (id : Nat) (o : Ob) : Hp := fun i => if i = id then o else H i
theorem ng {σ : List Ob} {id : Nat} {o : Ob} (h : id < σ.length) : hp (σ.set id o) = upd (hp σ) id o := by
 funext i
 simp only [hp, upd, List.getElem?_set]
 by_cases e : id = i
 ·subst e; simp [h]
 ·simp [e, Ne.symm e]
theorem zl {σ : List Ob} {o : Ob} : hp (σ ++ [o]) = upd (hp σ) σ.length o := by
 funext i
 simp only [hp, upd, List.getElem?_append]
 by_cases e : i = σ.length
 ·subst e; simp
 ·simp only [e, if_false]
  by_cases k : i < σ.length
  ·simp [k]
  ·have : σ.length < i := by omega
   have e1 : σ[i]? = none := List.getElem?_eq_none (by omega)
   have e2 : [o][i - σ.length]? = none := List.getElem?_eq_none (by simp; omega)
   simp [k, e1, e2]
theorem dI {σ : List Ob} {id : Nat} {o : Ob} (h : σ[id]? = some o) : hp σ id = o := by simp [hp, h]
theorem sD {σ : List Ob} {id : Nat} (h : σ.length ≤ id) : hp σ id = .dead := by simp [hp, List.getElem?_eq_none h]
def fQ (μ : Mu) (n : Nat) (L : Loc) : Mu := fun i => if i = n then some L else μ i
theorem Good.new {ro : Ro} {μ : Mu} {w w' : World} {H : Hp} (g : Good ro μ w H) {n : Nat} (hn : μ n = none) (hH : H n = .dead) {o : Ob} {L : Loc} {b : Obj} (hL : L.blk = w.heap.size)
  (hw : w'.heap = w.heap.push b) (h1 : w'.os = w.os) (h2 : w'.tape = w.tape) (h3 : w'.output = w.output) (ho : OR ro (fQ μ n L) w' n o) :
  Good ro (fQ μ n L) w' (upd H n o) ∧ Ext ro μ w H ro (fQ μ n L) w' (upd H n o) := by
 have up : ∀ i L', μ i = some L' → fQ μ n L i = some L' := by
  intro i L' h
  unfold fQ
  split
  ·rename_i e; subst e; rw [hn] at h; cases h
  ·exact h
 have hb : ∀ k, k < w.heap.size → w'.heap[k]? = w.heap[k]? := by
  intro k hk
  rw [hw, Array.getElem?_push, if_neg (by omega)]
 have lt : ∀ i L', (H i).live = true → μ i = some L' → L'.blk < w.heap.size := fun i L' k1 k2 => (g.ob i).lt k1 k2
 have Xl : ∀ a v, ro a = some v → a.block < w.heap.size := by
  intro a v h
  have := g.vH a v h
  rcases Nat.lt_or_ge a.block w.heap.size with k | k
  ·exact k
  ·simp [World.cell?, Array.getElem?_eq_none k] at this
 have old : ∀ i, i ≠ n → fQ μ n L i = μ i := fun i hi => by simp [fQ, hi]
 refine ⟨⟨fun a v h => ?_, fun i => ?_, fun i i' L1 L2 k1 k2 k3 k4 k5 => ?_, fun b' hb' a ha => ?_, g.base⟩, ⟨up, fun _ _ h => h, fun _ _ h => .inl h, fun b' hb' => ?_, fun b' hb' => ?_, fun b' hb' _ => hb b' hb', by rw [hw]; simp, h1, h2, h3⟩⟩
 ·rw [mI (hb _ (Xl a v h))]; exact g.vH a v h
 ·unfold upd
  split
  ·rename_i e; subst e; exact ho
  ·rename_i e
   by_cases hl : (H i).live = true
   ·exact (g.ob i).keep (fun _ _ h => h) up (old i e) (fun L' hL' => hb _ (lt i L' hl hL'))
   ·have : H i = .dead := by cases e : H i <;> simp [e, Ob.live] at hl ⊢
    rw [this]; trivial
 ·by_cases e : i = n <;> by_cases e' : i' = n
  ·rw [e, e']
  ·exfalso
   subst e
   simp only [fQ, if_true, Option.some.injEq] at k3
   simp only [upd, e', if_false] at k2
   rw [old i' e'] at k4
   have := lt i' L2 k2 k4
   subst k3
   omega
  ·exfalso
   subst e'
   simp only [fQ, if_true, Option.some.injEq] at k4
   simp only [upd, e, if_false] at k1
   rw [old i e] at k3
   have := lt i L1 (Ob.fO k1) k3
   subst k4
   omega
  ·simp only [upd, e, e', if_false] at k1 k2
   rw [old i e] at k3
   rw [old i' e'] at k4
   exact g.apart i i' L1 L2 k1 k2 k3 k4 k5
 ·obtain ⟨i, L1, k1, k2, rfl⟩ := hb'
  by_cases e : i = n
  ·subst e
   simp only [fQ, if_true, Option.some.injEq] at k2
   subst k2
   cases hr : ro a with
   | none => rfl
   | some v => have := Xl a v hr; omega
  ·simp only [upd, e, if_false] at k1
   rw [old i e] at k2
   exact g.iN _ ⟨i, L1, k1, k2, rfl⟩ a ha
 ·obtain ⟨i, L1, k1, k2, rfl⟩ := hb'
  by_cases e : i = n
  ·subst e
   simp only [fQ, if_true, Option.some.injEq] at k2
   subst k2
   exact .inl (by omega)
  ·simp only [upd, e, if_false] at k1
   rw [old i e] at k2
   exact .inr ⟨i, L1, k1, k2, rfl⟩
 ·obtain ⟨i, L1, k1, k2, rfl⟩ := hb'
  by_cases e : i = n
  ·subst e
   simp only [fQ, if_true, Option.some.injEq] at k2
   subst k2
   exact .inl (by omega)
  ·simp only [upd, e, if_false] at k1
   rw [old i e] at k2
   exact .inr ⟨i, L1, k1, k2, rfl⟩
theorem Good.write {ro : Ro} {μ : Mu} {w w' : World} {H : Hp} (g : Good ro μ w H) {n : Nat} {o : Ob} {L : Loc} (hH : (H n).wr = true) (hL : μ n = some L)
  (hb : ∀ b, b ≠ L.blk → w'.heap[b]? = w.heap[b]?) (hs : w'.heap.size = w.heap.size) (h1 : w'.os = w.os) (h2 : w'.tape = w.tape) (h3 : w'.output = w.output) (ho : OR ro μ w' n o) :
  Good ro μ w' (upd H n o) ∧ Ext ro μ w H ro μ w' (upd H n o) := by
 have hwb : WB H μ L.blk := ⟨n, L, hH, hL, rfl⟩
 have sub : ∀ i, (upd H n o i).wr = true → (H i).wr = true := by
  intro i hi
  unfold upd at hi
  split at hi
  ·rename_i e; subst e; exact hH
  ·exact hi
 have Oy : ∀ i, (upd H n o i).live = true → (H i).live = true := by
  intro i hi
  unfold upd at hi
  split at hi
  ·rename_i e; subst e; exact Ob.fO hH
  ·exact hi
 refine ⟨⟨fun a v h => ?_, fun i => ?_, fun i i' L1 L2 k1 k2 k3 k4 k5 => g.apart i i' L1 L2 (sub i k1) (Oy i' k2) k3 k4 k5, fun b' hb' a ha => ?_, g.base⟩, ⟨fun _ _ h => h, fun _ _ h => h, fun _ _ h => .inl h, fun b' hb' => ?_, fun b' hb' => ?_, fun b' hb' hn => ?_, by omega, h1, h2, h3⟩⟩
 ·have : a.block ≠ L.blk := by
   intro e
   have := g.iN _ hwb a e
   rw [this] at h; cases h
  rw [mI (hb _ this)]; exact g.vH a v h
 ·by_cases e : i = n
  ·subst e; simp only [upd, if_true]; exact ho
  ·simp only [upd, e, if_false]
   by_cases hl : (H i).live = true
   ·exact (g.ob i).keep (fun _ _ h => h) (fun _ _ h => h) rfl (fun L' hL' => hb _ (fun e' => e (g.apart n i L L' hH hl hL hL' e'.symm).symm))
   ·have : H i = .dead := by cases e : H i <;> simp [e, Ob.live] at hl ⊢
    rw [this]; trivial
 ·obtain ⟨i, L1, k1, k2, rfl⟩ := hb'
  exact g.iN _ ⟨i, L1, sub i k1, k2, rfl⟩ a ha
 ·obtain ⟨i, L1, k1, k2, rfl⟩ := hb'
  exact .inr ⟨i, L1, sub i k1, k2, rfl⟩
 ·obtain ⟨i, L1, k1, k2, rfl⟩ := hb'
  exact .inr ⟨i, L1, Oy i k1, k2, rfl⟩
 ·exact hb b' (fun e => hn (e ▸ hwb))
theorem Good.freeze {ro : Ro} {μ : Mu} {w : World} {H : Hp} (g : Good ro μ w H) {n sz : Nat} {xs : List D} {wr : Bool} {L : Loc} (hH : H n = .row sz xs wr) (hL : μ n = some L) :
  ∃ ro', Good ro' μ w (upd H n (.row sz xs false)) ∧ Ext ro μ w H ro' μ w (upd H n (.row sz xs false)) ∧
   (∀ C T fz, w.heap[L.blk]? = some (.cells C T fz) → ∀ o v, C[o]? = some v → ro' (cellAt L.blk o) = some v) := by
 have zm := g.ob n
 rw [hH] at zm
 obtain ⟨C, T, fz, h0, e, hf, hs, hl, hw, hz, hv⟩ := zm L hL
 have sub : ∀ i, (upd H n (.row sz xs false) i).wr = true → i ≠ n ∧ (H i).wr = true := by
  intro i hi
  unfold upd at hi
  split at hi
  ·simp [Ob.wr] at hi
  ·rename_i e; exact ⟨e, hi⟩
 have Oy : ∀ i, (upd H n (.row sz xs false) i).live = true → (H i).live = true := by
  intro i hi
  unfold upd at hi
  split at hi
  ·rename_i e; subst e; rw [hH]; rfl
  ·exact hi
 cases wr with
 | false =>
  refine ⟨ro, ⟨g.vH, fun i => ?_, fun i i' L1 L2 k1 k2 k3 k4 k5 => g.apart i i' L1 L2 (sub i k1).2 (Oy i' k2) k3 k4 k5, fun b' hb' a ha => ?_, g.base⟩, ⟨fun _ _ h => h, fun _ _ h => h, fun _ _ h => .inl h, fun b' hb' => ?_, fun b' hb' => ?_, fun _ _ _ => rfl, Nat.le_refl _, rfl, rfl, rfl⟩, fun C' T' fz' e' => ?_⟩
  ·have : upd H n (.row sz xs false) i = H i := by
    unfold upd; split
    ·rename_i e; subst e; exact hH.symm
    ·rfl
   rw [this]; exact g.ob i
  ·obtain ⟨i, L1, k1, k2, rfl⟩ := hb'
   exact g.iN _ ⟨i, L1, (sub i k1).2, k2, rfl⟩ a ha
  ·obtain ⟨i, L1, k1, k2, rfl⟩ := hb'
   exact .inr ⟨i, L1, (sub i k1).2, k2, rfl⟩
  ·obtain ⟨i, L1, k1, k2, rfl⟩ := hb'
   exact .inr ⟨i, L1, Oy i k1, k2, rfl⟩
  ·rw [e] at e'; cases e'; exact hw rfl
 | true =>
  have hwb : WB H μ L.blk := ⟨n, L, by rw [hH]; rfl, hL, rfl⟩
  let ro' : Ro := fun a => if a.block = L.blk then w.cell? a else ro a
  have up : ∀ a v, ro a = some v → ro' a = some v := by
   intro a v h
   have : a.block ≠ L.blk := by
    intro e
    have := g.iN _ hwb a e
    rw [this] at h; cases h
   simp only [ro', this, if_false]; exact h
  have hC : ∀ C' T' fz', w.heap[L.blk]? = some (.cells C' T' fz') → ∀ o v, C'[o]? = some v → ro' (cellAt L.blk o) = some v := by
   intro C' T' fz' e' o v ho
   simp only [ro', cellAt, if_true]
   simp [World.cell?, e', ho]
  refine ⟨ro', ⟨fun a v h => ?_, fun i => ?_, fun i i' L1 L2 k1 k2 k3 k4 k5 => g.apart i i' L1 L2 (sub i k1).2 (Oy i' k2) k3 k4 k5, fun b' hb' a ha => ?_, fun a v h => up a v (g.base a v h)⟩, ⟨fun _ _ h => h, up, fun a v h => ?_, fun b' hb' => ?_, fun b' hb' => ?_, fun _ _ _ => rfl, Nat.le_refl _, rfl, rfl, rfl⟩, hC⟩
  ·simp only [ro'] at h
   split at h
   ·exact h
   ·exact g.vH a v h
  ·by_cases e2 : i = n
   ·subst e2
    simp only [upd, if_true]
    intro L' hL'
    rw [hL] at hL'
    cases hL'
    exact ⟨C, T, fz, h0, e, hf, hs, hl, fun _ => hC C T fz e, hz, fun i x j c hx hj => let ⟨v, h1, h2⟩ := hv i x j c hx hj; ⟨v, h1, h2.mono up⟩⟩
   ·simp only [upd, e2, if_false]
    exact (g.ob i).keep up (fun _ _ h => h) rfl (fun _ _ => rfl)
  ·obtain ⟨i, L1, k1, k2, rfl⟩ := hb'
   obtain ⟨k0, k1⟩ := sub i k1
   have hne : L1.blk ≠ L.blk := fun e' => k0 (g.apart i n L1 L k1 (by rw [hH]; rfl) k2 hL e')
   simp only [ro', ha, hne, if_false]
   exact g.iN _ ⟨i, L1, k1, k2, rfl⟩ a ha
  ·simp only [ro'] at h
   split at h
   ·rename_i e'; exact .inr (.inr (e' ▸ hwb))
   ·exact .inl h
  ·obtain ⟨i, L1, k1, k2, rfl⟩ := hb'
   exact .inr ⟨i, L1, (sub i k1).2, k2, rfl⟩
  ·obtain ⟨i, L1, k1, k2, rfl⟩ := hb'
   exact .inr ⟨i, L1, Oy i k1, k2, rfl⟩
theorem Good.take {ro : Ro} {μ : Mu} {w w' : World} {H : Hp} (g : Good ro μ w H) {m n : Nat} {o : Ob} {L L' : Loc} (hH : (H m).wr = true) (hL : μ m = some L) (hn : μ n = none) (hHn : H n = .dead) (hLL : L'.blk = L.blk)
  (hb : ∀ b, b ≠ L.blk → w'.heap[b]? = w.heap[b]?) (hs : w'.heap.size = w.heap.size) (h1 : w'.os = w.os) (h2 : w'.tape = w.tape) (h3 : w'.output = w.output) (ho : OR ro (fQ μ n L') w' n o) :
  Good ro (fQ μ n L') w' (upd (upd H m .dead) n o) ∧ Ext ro μ w H ro (fQ μ n L') w' (upd (upd H m .dead) n o) := by
 have hmn : m ≠ n := by rintro rfl; rw [hHn] at hH; simp [Ob.wr] at hH
 have hwb : WB H μ L.blk := ⟨m, L, hH, hL, rfl⟩
 have up : ∀ i L1, μ i = some L1 → fQ μ n L' i = some L1 := by
  intro i L1 h
  unfold fQ
  split
  ·rename_i e; subst e; rw [hn] at h; cases h
  ·exact h
 have old : ∀ i, i ≠ n → fQ μ n L' i = μ i := fun i hi => by simp [fQ, hi]
 have hne : ∀ i L1, i ≠ m → (H i).live = true → μ i = some L1 → L1.blk ≠ L.blk := fun i L1 hi hl hL1 e => hi (g.apart m i L L1 hH hl hL hL1 e.symm).symm
 have val : ∀ i, i ≠ n → (upd (upd H m .dead) n o i).live = true → i ≠ m ∧ upd (upd H m .dead) n o i = H i := by
  intro i hi hl
  simp only [upd, hi, if_false] at hl ⊢
  by_cases e : i = m
  ·simp [e, Ob.live] at hl
  ·simp [e]
 refine ⟨⟨fun a v h => ?_, fun i => ?_, fun i i' L1 L2 k1 k2 k3 k4 k5 => ?_, fun b' hb' a ha => ?_, g.base⟩, ⟨up, fun _ _ h => h, fun _ _ h => .inl h, fun b' hb' => ?_, fun b' hb' => ?_, fun b' hb' hnn => hb b' (fun e => hnn (e ▸ hwb)), by omega, h1, h2, h3⟩⟩
 ·have : a.block ≠ L.blk := by
   intro e
   have := g.iN _ hwb a e
   rw [this] at h; cases h
  rw [mI (hb _ this)]; exact g.vH a v h
 ·by_cases e : i = n
  ·subst e; simp only [upd, if_true]; exact ho
  ·by_cases e' : i = m
   ·subst e'; simp only [upd, e, if_false, if_true]; trivial
   ·simp only [upd, e, e', if_false]
    by_cases hl : (H i).live = true
    ·exact (g.ob i).keep (fun _ _ h => h) up (old i e) (fun L1 hL1 => hb _ (hne i L1 e' hl hL1))
    ·have : H i = .dead := by cases e : H i <;> simp [e, Ob.live] at hl ⊢
     rw [this]; trivial
 ·by_cases e : i = n <;> by_cases e' : i' = n
  ·rw [e, e']
  ·exfalso
   subst e
   simp only [fQ, if_true, Option.some.injEq] at k3
   rw [old i' e'] at k4
   obtain ⟨q1, q2⟩ := val i' e' k2
   rw [q2] at k2
   subst k3
   exact hne i' L2 q1 k2 k4 (by rw [← k5, hLL])
  ·exfalso
   subst e'
   simp only [fQ, if_true, Option.some.injEq] at k4
   rw [old i e] at k3
   obtain ⟨q1, q2⟩ := val i e (Ob.fO k1)
   rw [q2] at k1
   subst k4
   exact hne i L1 q1 (Ob.fO k1) k3 (by rw [k5, hLL])
  ·rw [old i e] at k3
   rw [old i' e'] at k4
   obtain ⟨q1, q2⟩ := val i e (Ob.fO k1)
   obtain ⟨q3, q4⟩ := val i' e' k2
   rw [q2] at k1
   rw [q4] at k2
   exact g.apart i i' L1 L2 k1 k2 k3 k4 k5
 ·obtain ⟨i, L1, k1, k2, rfl⟩ := hb'
  by_cases e : i = n
  ·subst e
   simp only [fQ, if_true, Option.some.injEq] at k2
   subst k2
   exact g.iN _ hwb a (by rw [ha, hLL])
  ·rw [old i e] at k2
   obtain ⟨q1, q2⟩ := val i e (Ob.fO k1)
   rw [q2] at k1
   exact g.iN _ ⟨i, L1, k1, k2, rfl⟩ a ha
 ·obtain ⟨i, L1, k1, k2, rfl⟩ := hb'
  by_cases e : i = n
  ·subst e
   simp only [fQ, if_true, Option.some.injEq] at k2
   subst k2
   exact .inr (hLL ▸ hwb)
  ·rw [old i e] at k2
   obtain ⟨q1, q2⟩ := val i e (Ob.fO k1)
   rw [q2] at k1
   exact .inr ⟨i, L1, k1, k2, rfl⟩
 ·obtain ⟨i, L1, k1, k2, rfl⟩ := hb'
  by_cases e : i = n
  ·subst e
   simp only [fQ, if_true, Option.some.injEq] at k2
   subst k2
   exact .inr (hLL ▸ hwb.lb)
  ·rw [old i e] at k2
   obtain ⟨q1, q2⟩ := val i e k1
   rw [q2] at k1
   exact .inr ⟨i, L1, k1, k2, rfl⟩
theorem Good.kill {ro : Ro} {μ : Mu} {w : World} {H : Hp} (g : Good ro μ w H) (n : Nat) : Good ro μ w (upd H n .dead) ∧ Ext ro μ w H ro μ w (upd H n .dead) := by
 have hs : ∀ i, upd H n .dead i = H i ∨ upd H n .dead i = .dead := by
  intro i; unfold upd; split
  ·exact .inr rfl
  ·exact .inl rfl
 refine ⟨g.less hs, ⟨fun _ _ h => h, fun _ _ h => h, fun _ _ h => .inl h, fun b' hb' => ?_, fun b' hb' => ?_, fun _ _ _ => rfl, Nat.le_refl _, rfl, rfl, rfl⟩⟩
 ·obtain ⟨i, L1, k1, k2, rfl⟩ := hb'
  rcases hs i with e | e
  ·exact .inr ⟨i, L1, e ▸ k1, k2, rfl⟩
  ·rw [e] at k1; simp [Ob.wr] at k1
 ·obtain ⟨i, L1, k1, k2, rfl⟩ := hb'
  rcases hs i with e | e
  ·exact .inr ⟨i, L1, e ▸ k1, k2, rfl⟩
  ·rw [e] at k1; simp [Ob.live] at k1
theorem Good.phantom {ro : Ro} {μ : Mu} {w : World} {H : Hp} (g : Good ro μ w H) {n : Nat} (hn : μ n = none) {o : Ob} (ho : ∀ es, o ≠ .map es) : Good ro μ w (upd H n o) ∧ Ext ro μ w H ro μ w (upd H n o) := by
 have hw : ∀ b, WB (upd H n o) μ b → WB H μ b := by
  rintro b ⟨i, L, h1, h2, h3⟩
  unfold upd at h1
  split at h1
  ·rename_i e; subst e; rw [hn] at h2; cases h2
  ·exact ⟨i, L, h1, h2, h3⟩
 have hl : ∀ b, LB (upd H n o) μ b → LB H μ b := by
  rintro b ⟨i, L, h1, h2, h3⟩
  unfold upd at h1
  split at h1
  ·rename_i e; subst e; rw [hn] at h2; cases h2
  ·exact ⟨i, L, h1, h2, h3⟩
 refine ⟨⟨g.vH, fun i => ?_, fun i i' L L' h1 h2 h3 h4 h5 => ?_, fun b hb => g.iN b (hw b hb), g.base⟩, ⟨fun _ _ h => h, fun _ _ h => h, fun _ _ h => .inl h, fun b hb => .inr (hw b hb), fun b hb => .inr (hl b hb), fun _ _ _ => rfl, Nat.le_refl _, rfl, rfl, rfl⟩⟩
 ·unfold upd
  split
  ·rename_i e
   subst e
   cases o with
   | dead => trivial
   | box x => intro L hL; rw [hn] at hL; cases hL
   | row sz xs wr => intro L hL; rw [hn] at hL; cases hL
   | map es => exact absurd rfl (ho es)
  ·exact g.ob i
 ·unfold upd at h1 h2
  split at h1
  ·rename_i e; subst e; rw [hn] at h3; cases h3
  ·split at h2
   ·rename_i e; subst e; rw [hn] at h4; cases h4
   ·exact g.apart i i' L L' h1 h2 h3 h4 h5
end Lv
