/- Partial functions: parts, loops; how code meets them. -/
import Derived.Test.YtddopjhkmkoicaaGreatDoorGwMem
/- Partial functions: parts, loops; how code meets them. -/
namespace Lv
open Go
set_option linter.unusedVariables false
set_option linter.unusedSimpArgs false
set_option linter.unusedSectionVars false
theorem MI {α : Type} {l : List α} {i : Nat} {x : α} (h : l[i]? = some x) : i < l.length := by
 rcases Nat.lt_or_ge i l.length with k | k
 ·exact k
 ·rw [List.getElem?_eq_none k] at h; cases h
theorem ob {α β : Type} {o : Option α} {k : α → Option β} {r : β} (h : o.bind k = some r) : ∃ v, o = some v ∧ k v = some r := by
 cases o with
 | none => cases h
 | some v => exact ⟨v, rfl, h⟩
theorem ct {β : Type} {b : Bool} {x y : β} {z : β} (hb : b = true) (h : (bif b then x else y) = z) : x = z := by subst hb; exact h
theorem cf {β : Type} {b : Bool} {x y : β} {z : β} (hb : b = false) (h : (bif b then x else y) = z) : y = z := by subst hb; exact h
theorem gd {β : Type} {p : Prop} [Decidable p] {x : Option β} {r : β} (h : (bif decide p then x else none) = some r) : p ∧ x = some r := by
 by_cases hp : p
 ·rw [decide_eq_true hp] at h; exact ⟨hp, h⟩
 ·rw [decide_eq_false hp] at h; cases h
def bF {α : Type} (xs : List α) (i : Int) : Option α := if 0 ≤ i then xs[i.toNat]? else none
theorem ak {α : Type} {xs : List α} {i : Int} {v : α} (h : bF xs i = some v) : 0 ≤ i ∧ xs[i.toNat]? = some v := by
 unfold bF at h
 split at h
 ·exact ⟨by assumption, h⟩
 ·cases h
theorem fT {α : Type} {xs : List α} {i : Int} {v : α} (h : bF xs i = some v) : 0 ≤ i ∧ i < (xs.length : Int) := by
 obtain ⟨h1, h2⟩ := ak h
 have := MI h2
 omega
def qY {α : Type} (xs : List α) (off len : Nat) (i : Int) : Option α := if 0 ≤ i ∧ i < (len : Int) then xs[off + i.toNat]? else none
theorem gu {α : Type} {xs : List α} {off len : Nat} {i : Int} {v : α} (h : qY xs off len i = some v) : (0 ≤ i ∧ i < (len : Int)) ∧ xs[off + i.toNat]? = some v := by
 unfold qY at h
 split at h
 ·exact ⟨by assumption, h⟩
 ·cases h
def eH {Y E R : Type} (p : Option (Y ⊕ E)) (k : Y → Option R) (esc : E → Option R) : Option R := p.bind (Sum.elim k esc)
def qo {Y W : Type} (B : Y → Option (Y ⊕ W)) : Nat → Y → Option W
 | 0, _ => none
 | n + 1, y => match B y with
  | none => none
  | some (.inl y') => qo B n y'
  | some (.inr w) => some w
open Classical in
noncomputable def loop {Y W : Type} (B : Y → Option (Y ⊕ W)) (y : Y) : Option W := if h : ∃ w, ∃ n, qo B n y = some w then some h.choose else none
theorem Au {Y W : Type} {B : Y → Option (Y ⊕ W)} : ∀ {n : Nat} {y : Y} {w : W}, qo B n y = some w → ∀ k, qo B (n + k) y = some w
 | 0, y, w, h, k => by cases h
 | n + 1, y, w, h, k => by
  have e : n + 1 + k = (n + k) + 1 := by omega
  rw [e]
  simp only [qo] at h ⊢
  split at h
  ·cases h
  ·exact Au h k
  ·exact h
theorem Rz {Y W : Type} {B : Y → Option (Y ⊕ W)} {n k : Nat} {y : Y} {w v : W} (h : qo B n y = some w) (h' : qo B k y = some v) : w = v := by
 have h1 := Au h k
 have h2 := Au h' n
 rw [Nat.add_comm, h1] at h2
 exact Option.some.inj h2
theorem KC {Y W : Type} {B : Y → Option (Y ⊕ W)} {n : Nat} {y : Y} {w : W} (h : qo B n y = some w) : loop B y = some w := by
 have hex : ∃ w, ∃ n, qo B n y = some w := ⟨w, n, h⟩
 unfold loop
 rw [dif_pos hex]
 obtain ⟨k, hk⟩ := hex.choose_spec
 rw [Rz hk h]
theorem Du {Y W : Type} {B : Y → Option (Y ⊕ W)} {y : Y} {w : W} (h : loop B y = some w) : ∃ n, qo B n y = some w := by
 unfold loop at h
 split at h
 ·rename_i hex
  rw [← Option.some.inj h]
  exact hex.choose_spec
 ·cases h
theorem lM {Y W : Type} {B : Y → Option (Y ⊕ W)} {y y' : Y} (h : B y = some (.inl y')) : loop B y = loop B y' := by
 cases h1 : loop B y' with
 | some w =>
  obtain ⟨n, hn⟩ := Du h1
  exact KC (n := n + 1) (by simp only [qo, h, hn])
 | none =>
  cases h2 : loop B y with
  | none => rfl
  | some w =>
   obtain ⟨n, hn⟩ := Du h2
   cases n with
   | zero => cases hn
   | succ n =>
    simp only [qo, h] at hn
    rw [KC hn] at h1
    cases h1
theorem iJ {Y W : Type} {B : Y → Option (Y ⊕ W)} {y : Y} {w : W} (h : B y = some (.inr w)) : loop B y = some w := KC (n := 1) (by simp only [qo, h])
theorem XL {Y W : Type} {B : Y → Option (Y ⊕ W)} (I : Y → Prop) (μ : Y → Nat) (G : Y → W) (h : ∀ y, I y → (∃ y', B y = some (.inl y') ∧ I y' ∧ μ y' < μ y ∧ G y' = G y) ∨ B y = some (.inr (G y))) : ∀ y, I y → loop B y = some (G y) := by
 have key : ∀ n y, μ y = n → I y → loop B y = some (G y) := by
  intro n
  induction n using Nat.strongRecOn with
  | ind n ih =>
   intro y hn hy
   rcases h y hy with ⟨y', h1, h2, h3, h4⟩ | h1
   ·rw [lM h1, ← h4]
    exact ih (μ y') (hn ▸ h3) y' rfl h2
   ·exact iJ h1
 exact fun y hy => key _ y rfl hy
variable [BaseTab]
section
variable {P : Program} {m : Nat} {ops : Array Oper} {o : Oper} {l : List Oper} {n : Nat} {e : En} {σ σ' : List Ob} {v : AV} {s : St} {a b c : Code} {Q : Ex → St → Prop}
theorem SC.bJ {Y R : Type} {p : Option Y} {k : Y → Option R} {r : R} (h : p.bind k = some r) (S : Y → St) (ha : ∀ y, p = some y → SC P m a s (fun e s' => match e with | .normal => Wk m s' (S y) | e => Q e s')) (hb : ∀ y, k y = some r → SC P m b (S y) Q) : SC P m (.seq a b) s Q := by
 obtain ⟨y, h1, h2⟩ := ob h
 refine SC.seq ((ha y h1).mono fun e s' hq => ?_)
 cases e with
 | normal => exact SC.wk hq (hb y h2)
 | ret => exact hq
 | exit i => exact hq
theorem SC.seqB {Y E R : Type} {p : Option (Y ⊕ E)} {k : Y → Option R} {esc : E → Option R} {r : R} (h : eH p k esc = some r) (S : Y → St)
  (ha : ∀ u, p = some u → Sum.elim k esc u = some r → SC P m a s (fun e s' => match e with | .normal => ∃ y, u = .inl y ∧ Wk m s' (S y) | e => Q e s')) (hb : ∀ y, k y = some r → SC P m b (S y) Q) : SC P m (.seq a b) s Q := by
 obtain ⟨u, h1, h2⟩ := ob h
 refine SC.seq ((ha u h1 h2).mono fun e s' hq => ?_)
 cases e with
 | normal =>
  obtain ⟨y, rfl, hw⟩ := hq
  exact SC.wk hw (hb y h2)
 | ret => exact hq
 | exit i => exact hq
theorem SC.dH {Y W : Type} {B : Y → Option (Y ⊕ W)} {y0 : Y} {w : W} (h : Lv.loop B y0 = some w) (S : Y → St) (h0 : Wk m s (S y0))
  (k : ∀ n y v, B y = some v → Sum.elim (fun y' => qo B n y' = some w) (fun w' => w' = w) v → SC P m c (S y) (fun e s' => match e with | .normal => ∃ y', v = .inl y' ∧ Wk m s' (S y') | e => Q e s')) : SC P m (.loop c) s Q := by
 obtain ⟨n, hn⟩ := Du h
 refine SC.afq S (fun n y => qo B n y = some w) n y0 h0 hn fun n y hj => ?_
 cases n with
 | zero => cases hj
 | succ n =>
  simp only [qo] at hj
  cases hB : B y with
  | none => rw [hB] at hj; cases hj
  | some v =>
   rw [hB] at hj
   have hv : Sum.elim (fun y' => qo B n y' = some w) (fun w' => w' = w) v := by
    cases v with
    | inl y' => exact hj
    | inr w' => exact Option.some.inj hj
   refine (k n y v hB hv).mono fun e s' hq => ?_
   cases e with
   | normal =>
    obtain ⟨y', rfl, hw⟩ := hq
    exact ⟨y', n, by omega, hw, hv⟩
   | ret => exact hq
   | exit i => exact hq
theorem SC.blk {i : Nat} (h : SC P m a s (fun e s1 => match e with | .exit j => _root_.cond (Nat.beq j i) (Q .normal s1) (Q (.exit j) s1) | e => Q e s1)) : SC P m (.block i a) s Q := by
 refine SC.block (h.mono fun e s1 hq => ?_)
 cases e with
 | normal => exact hq
 | ret => exact hq
 | exit j =>
  simp only at hq ⊢
  cases hb : Nat.beq j i with
  | true => rw [hb] at hq; rw [if_pos (Nat.eq_of_beq_eq_true hb)]; exact hq
  | false =>
   rw [hb] at hq
   rw [if_neg (fun e => by subst e; simp at hb)]
   exact hq
theorem SC.ahC {c : Operand} (hc : lo n e c = some (.d (.bool true))) (h : SC P m a ⟨mk n e, σ⟩ Q) : SC P m (.cond c a b) ⟨mk n e, σ⟩ Q := SC.cond (dO hc) (fun _ => h) (fun h => by cases h)
theorem SC.ahD {c : Operand} (hc : lo n e c = some (.d (.bool false))) (h : SC P m b ⟨mk n e, σ⟩ Q) : SC P m (.cond c a b) ⟨mk n e, σ⟩ Q := SC.cond (dO hc) (fun h => by cases h) (fun _ => h)
theorem SC.ahE {c : Operand} {t : Bool} (hc : lo n e c = some (.d (.bool t))) (h1 : t = true → SC P m a ⟨mk n e, σ⟩ Q) (h2 : t = false → SC P m b ⟨mk n e, σ⟩ Q) : SC P m (.cond c a b) ⟨mk n e, σ⟩ Q := SC.cond (dO hc) h1 h2
theorem lf {Y E : Type} {S : Y → St} {s' : St} {y : Y} (h : Wk m s' (S y)) : ∃ y', (Sum.inl y : Y ⊕ E) = .inl y' ∧ Wk m s' (S y') := ⟨y, rfl, h⟩
theorem EW.nil : EW e [] := trivial
theorem EW.cons {i : Nat} {y : AV} {r : En} (h : AW (lk e i) y) (k : EW e r) : EW e ((i, y) :: r) := ⟨h, k⟩
theorem dh.nil : dh [] [] := trivial
theorem dh.cons {x y : AV} {xs ys : List AV} (h : AW x y) (k : dh xs ys) : dh (x :: xs) (y :: ys) := ⟨h, k⟩
theorem dh.refl : ∀ (l : List AV), dh l l
 | [] => trivial
 | x :: l => ⟨AW.refl x, dh.refl l⟩
theorem AW.slc {id sz o o' l l' : Nat} (h : o = o') (k : l = l') : AW (.slc id sz o l none) (.slc id sz o' l' none) := by subst h; subst k; exact AW.refl _
theorem AW.aeG {id sz o o' l l' : Nat} {c : Option Nat} (h : o = o') (k : l = l') : AW (.slc id sz o l c) (.slc id sz o' l' none) := by subst h; subst k; exact AW.cap _ _ _ _ _
structure EI (P : Program) (el : TypeId) (sz DX : Nat) (z : D) : Prop where
 info : (P.info? el).map (fun i => (i.size, i.bytes)) = some (sz, DX)
 zero : zeroOf P el = some z
 len : z.cells.length = sz
 nz : DX ≠ 0
 flat : z.cells.all (fun c => !c.isAgg) = true
 pos : sz ≠ 0
theorem EI.get {el : TypeId} {sz DX : Nat} {z : D} (E : EI P el sz DX z) : ∃ i, P.info? el = some i ∧ i.size = sz ∧ i.bytes = DX := by
 have := E.info
 cases h : P.info? el with
 | none => rw [h] at this; cases this
 | some i => rw [h] at this; simp at this; exact ⟨i, rfl, this.1, this.2⟩
variable {t el : TypeId} {sz DX k id off len : Nat} {z : D} {α : Type} {f : α → D} {xs ys : List α} {x : AV}
theorem ac2 (un : P.underlying t = some (.slice el)) (E : EI P el sz DX z) (h : σ[id]? = some (.row sz (xs.map f) true)) (hx : elems σ sz x = some (ys.map f)) (hr : (xs.length + ys.length) * DX ≤ room) (hk : σ.length = k) (hσ : σ.set id .dead ++ [.row sz ((xs ++ ys).map f) true] = σ') :
  jk P σ t (.slc id sz 0 xs.length none) x = some (.slc k sz 0 (xs ++ ys).length none, σ') := by
 obtain ⟨i, h1, h2, h3⟩ := E.get
 exact Yg un h1 E.zero h2 ⟨E.len, by rw [h3]; exact E.nz⟩ h hx (by rw [h3]; exact hr) hk hσ
theorem aix (un : P.underlying t = some (.slice el)) (E : EI P el sz DX z) (hx : elems σ sz x = some (ys.map f)) (hr : ys.length * DX ≤ room) (hk : σ.length = k) (hσ : σ ++ [.row sz (ys.map f) true] = σ') :
  jk P σ t (.d .aA) x = some (.slc k sz 0 ys.length none, σ') := by
 obtain ⟨i, h1, h2, h3⟩ := E.get
 exact ac1 un h1 E.zero h2 ⟨E.len, by rw [h3]; exact E.nz⟩ hx (by rw [h3]; exact hr) hk hσ
theorem afn {n : Int} {v : α} (un : P.underlying t = some (.slice el)) (E : EI P el sz DX z) (hv : f v = z) (hn : 0 ≤ n) (hr : n * DX ≤ 70368744177664 ∧ n ≤ 70368744177664) (hk : σ.length = k) (hσ : σ ++ [.row sz ((List.replicate n.toNat v).map f) true] = σ') :
  iM P σ t (.d (eI n)) (.d (eI n)) = some (.slc k sz 0 (List.replicate n.toNat v).length (some (List.replicate n.toNat v).length), σ') := by
 obtain ⟨i, h1, h2, h3⟩ := E.get
 exact abx (m := n) un h1 E.zero hv (by rw [E.len, h2]) E.flat (by rw [h2]; exact E.pos) h2 hn (by rw [h3]; exact hr) hk hσ
end
end Lv
