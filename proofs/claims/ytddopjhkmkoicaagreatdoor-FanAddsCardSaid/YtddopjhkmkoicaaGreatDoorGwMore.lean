/- Further words for printed walks. -/
import Derived.Test.YtddopjhkmkoicaaGreatDoorGwLoop
import Derived.Test.YtddopjhkmkoicaaGreatDoorLvEq
/- Further words for printed walks. -/
namespace Lv
open Go
set_option linter.unusedVariables false
set_option linter.unusedSimpArgs false
set_option linter.unusedSectionVars false
variable [BaseTab]
abbrev eL {α : Type} (sz : Nat) (f : α → D) (l : List α) : D := .xI sz (l.map f)
section
variable {P : Program} {m : Nat} {o : Oper} {n : Nat} {e : En} {σ σ' : List Ob} {v a b : AV} {t : TypeId} {s : St}
theorem AW.alG {id o o' : Nat} (h : o = o') : AW (.ref id o 0) (.ref id o' 0) := by subst h; exact AW.refl _
theorem Wk.dD {env : List AV} (o : Ob) (ho : ∀ es, o ≠ .map es) (hσ : σ ++ [o] = σ') : Wk m ⟨env, σ⟩ ⟨env, σ'⟩ := hσ ▸ Wk.push o ho
theorem Wk.jh {env : List AV} {id : Nat} {x y : AV} (h : σ[id]? = some (.box x)) (hw : dh x.cells y.cells) (hσ : σ.set id (.box y) = σ') : Wk m ⟨env, σ⟩ ⟨env, σ'⟩ := hσ ▸ Wk.box h hw
def Ze (i n k : Nat) : Option Nat := if k = i then some n else if k < n then some k else none
theorem Wk.move {e' : En} {os : List Ob} {o : Ob} (i : Nat) (hi : i < σ.length) (hos : oF (Ze i σ.length) σ = some os) (he : eRe (Ze i σ.length) e = some e') (ho : os[i]? = some o) (hσ : os.set i .dead ++ [o] = σ') : Wk m ⟨mk n e, σ⟩ ⟨mk n e', σ'⟩ := by
 intro gX gQ w0 H0 ro μ w a hr
 subst hσ
 have hl : os.length = σ.length := wJ hos
 have hg : ∀ k j, Ze i σ.length k = some j → (if j = σ.length then μ i else μ j) = μ k := by
  intro k j h
  unfold Ze at h
  split at h
  ·rename_i e; subst e; cases h; rw [if_pos rfl]
  ·split at h
   ·cases h; rw [if_neg (by omega)]
   ·cases h
 have hK : ∀ j, (hp (os.set i .dead ++ [o]) j).live = true → ∃ k, Ze i σ.length k = some j ∧ (hp σ k).re (Ze i σ.length) = some (hp (os.set i .dead ++ [o]) j) := by
  intro j hj
  rcases Nat.lt_trichotomy j σ.length with h | h | h
  ·have e1 : (os.set i .dead ++ [o])[j]? = (os.set i .dead)[j]? := List.getElem?_append_left (by simp; omega)
   by_cases hji : j = i
   ·subst hji
    have : hp (os.set j .dead ++ [o]) j = .dead := dI (by rw [e1, List.getElem?_set, if_pos rfl, if_pos (by omega)])
    rw [this] at hj; simp [Ob.live] at hj
   ·have hjl : j < os.length := by omega
    have e2 : (os.set i .dead ++ [o])[j]? = some os[j] := by rw [e1, List.getElem?_set, if_neg (fun q => hji q.symm), List.getElem?_eq_getElem hjl]
    obtain ⟨x, k1, k2⟩ := zh hos j _ (List.getElem?_eq_getElem hjl)
    refine ⟨j, by unfold Ze; rw [if_neg hji, if_pos h], ?_⟩
    rw [dI k1, dI e2]; exact k2
  ·subst h
   have e2 : (os.set i .dead ++ [o])[σ.length]? = some o := by rw [List.getElem?_append_right (by simp; omega)]; simp [hl]
   obtain ⟨x, k1, k2⟩ := zh hos i _ ho
   refine ⟨i, by unfold Ze; rw [if_pos rfl], ?_⟩
   rw [dI k1, dI e2]; exact k2
  ·rw [sD (by simp; omega)] at hj; simp [Ob.live] at hj
 refine ⟨ro, fun j => if j = σ.length then μ i else μ j, hr.good.re hg hK, ⟨by rw [hr.env.size, gG, gG], fun j y v hy hv => ?_⟩, fun id L h => ?_, hr.defers, hr.ext.trans (zK.re hg hK), fun id hid => ?_, by have := hr.hm; simp at this ⊢; omega⟩
 ·obtain ⟨hj, rfl⟩ := BX hy
  exact NG hg (hr.env.get j _ v (sj hj) hv) _ (Pq he j)
 ·split at h
  ·rename_i q; subst q; simp; omega
  ·have := hr.dom id L h; simp at this ⊢; omega
 ·have := hr.hm; simp at this
  rw [if_neg (by omega)]
  exact hr.keep id hid
variable {el : TypeId} {sz DX k id len : Nat} {z : D} {α : Type} {f : α → D} {xs ys : List α} {x : AV}
theorem ac8 (hl : len = xs.length) (un : P.underlying t = some (.slice el)) (E : EI P el sz DX z) (h : σ[id]? = some (.row sz (xs.map f) true)) (hx : elems σ sz x = some (ys.map f)) (hr : (xs.length + ys.length) * DX ≤ room) (hk : σ.length = k) (hσ : σ.set id .dead ++ [.row sz ((xs ++ ys).map f) true] = σ') :
  jk P σ t (.slc id sz 0 len none) x = some (.slc k sz 0 (xs ++ ys).length none, σ') := by
 subst hl; exact ac2 un E h hx hr hk hσ
theorem bsl {len : Nat} {parts : List (Nat × AV)} {ds : List D} (un : P.underlying t = some (.slice el)) (E : EI P el sz DX z) (hl : len * sz ≤ 16777216) (hp : parts.length = len) (ha : jR σ sz 0 parts = some (ds, σ)) (hk : σ.length = k) (hσ : σ ++ [.row sz ds true] = σ') :
  iX P σ t len parts = some (.slc k sz 0 len (some len), σ') := by
 obtain ⟨i, h1, h2, h3⟩ := E.get
 have ts : bU P el = some sz := by simp only [bU, h1, h2]
 simp only [iX, un, ts, E.zero, hl, hp, and_self, if_true, ha, hk, hσ]
theorem uf {el : TypeId} {X Y : Operand} (un : P.underlying t = some (.pointer el)) {id idx off : Nat} : bC P .eql t X Y (.ref id idx off) (.d .Dt) = some (.d (eB false)) := by
 simp only [bC, AV.val, un, BU, if_true]
theorem zi {el : TypeId} {X Y : Operand} (un : P.underlying t = some (.pointer el)) {id idx off : Nat} : bC P .neq t X Y (.ref id idx off) (.d .Dt) = some (.d (eB true)) := by
 simp only [bC, AV.val, un, BU, if_true]
variable (t)
variable (X Y : Operand)
theorem Sr (a b : Int) : bC P .eql t X Y (.d (eI a)) (.d (eI b)) = some (.d (eB (a == b))) := rfl
theorem Sg (a b : Int) : bC P .neq t X Y (.d (eI a)) (.d (eI b)) = some (.d (eB (a != b))) := rfl
theorem Sj (a b : Int) : bC P .lss t X Y (.d (eI a)) (.d (eI b)) = some (.d (eB (decide (a < b)))) := rfl
theorem Sk (a b : Int) : bC P .leq t X Y (.d (eI a)) (.d (eI b)) = some (.d (eB (decide (a ≤ b)))) := rfl
theorem Sl (a b : Int) : bC P .gtr t X Y (.d (eI a)) (.d (eI b)) = some (.d (eB (decide (a > b)))) := rfl
theorem Sn (a b : Int) : bC P .geq t X Y (.d (eI a)) (.d (eI b)) = some (.d (eB (decide (a ≥ b)))) := rfl
theorem Sv (a b : Int) : bC P .add t X Y (.d (eI a)) (.d (eI b)) = some (.d (eI (bD (a + b)))) := rfl
theorem R9 (a b : Int) : bC P .sub t X Y (.d (eI a)) (.d (eI b)) = some (.d (eI (bD (a - b)))) := rfl
theorem Si (a b : Int) : bC P .mul t X Y (.d (eI a)) (.d (eI b)) = some (.d (eI (bD (a * b)))) := rfl
theorem Sc (a b : Int) (h : b ≠ 0) : bC P .quo t X Y (.d (eI a)) (.d (eI b)) = some (.d (eI (bD (a.tdiv b)))) := by
 have hp : pr P (Op.intDiv .quo .i64 a b) = some (.int .i64 (bD (a.tdiv b))) := by unfold Op.intDiv; rw [if_neg h]; rfl
 show (match pr P (Op.intDiv .quo .i64 a b) with | some v => (match lW v with | some x => some (AV.d x) | none => none) | none => none) = _
 rw [hp]; rfl
theorem Sb (a : Int) (k : IntKind) {b : Int} (h : 0 ≤ b) : bC P .shl t X Y (.d (eI a)) (.d (.int k b)) = some (.d (eI (bD (a * 2 ^ min b.toNat 64)))) := by
 have hp : pr P (Op.shift .shl .i64 a k b) = some (.int .i64 (bD (a * 2 ^ min b.toNat 64))) := by unfold Op.shift; rw [if_neg (by omega)]; rfl
 show (match pr P (Op.shift .shl .i64 a k b) with | some v => (match lW v with | some x => some (AV.d x) | none => none) | none => none) = _
 rw [hp]; rfl
end
section
variable {P : Program} {s d : TypeId} {σ : List Ob}
theorem acI {k l : IntKind} (hs : P.underlying s = some (.int k)) (hd : P.underlying d = some (.int l)) (n : Int) : dR P σ s d (.d (.int k n)) = some (.d (.int l (l.wrap n)), σ) := by
 have hp : pr P (convert s d (.int k n)) = some (.int l (l.wrap n)) := by
  simp only [convert, gU, fE hs, fE hd, Option.bind_some]
  rfl
 simp only [dR, hs, hd, AV.val, D.val, D.cval, vY, hp]
 rfl
theorem Ja (k : IntKind) (hs : P.underlying s = some (.int k)) {l : IntKind} (hd : P.underlying d = some (.int l)) (n m : Int) (h : l.wrap n = m) : dR P σ s d (.d (.int k n)) = some (.d (.int l m), σ) := by
 rw [acI hs hd, h]
theorem DU (hs : P.underlying s = some (.int .i64)) (hd : P.underlying d = some (.int .u8)) (n : Int) : dR P σ s d (.d (eI n)) = some (.d (bR (Ei n)), σ) := Ja _ hs hd _ _ (VQ n)
theorem Pw (hs : P.underlying s = some (.int .i64)) (hd : P.underlying d = some (.int .u16)) (n : Int) : dR P σ s d (.d (eI n)) = some (.d (Pp (yc n)), σ) := Ja _ hs hd _ _ (RL n)
theorem Hw (hs : P.underlying s = some (.int .i64)) (hd : P.underlying d = some (.int .u64)) (n : Int) : dR P σ s d (.d (eI n)) = some (.d (eU64 (jS n)), σ) := Ja _ hs hd _ _ (RJ n)
theorem Pv (hs : P.underlying s = some (.int .u64)) (hd : P.underlying d = some (.int .i64)) (n : UInt64) : dR P σ s d (.d (eU64 n)) = some (.d (eI (Dx n)), σ) := Ja _ hs hd _ _ rfl
theorem jv (hs : P.underlying s = some (.int .u8)) (hd : P.underlying d = some (.int .i64)) (n : UInt8) : dR P σ s d (.d (bR n)) = some (.d (eI (n.toNat : Int)), σ) := Ja _ hs hd _ _ (by have := GU n; exact MK (by omega) (by omega))
theorem vW (hs : P.underlying s = some (.int .u8)) (hd : P.underlying d = some (.int .u64)) (n : UInt8) : dR P σ s d (.d (bR n)) = some (.d (eU64 n.toUInt64), σ) := Ja _ hs hd _ _ (by rw [wrap_u64, UInt8.toNat_toUInt64]; have := GU n; omega)
theorem o9 (hs : P.underlying s = some (.int .u64)) (hd : P.underlying d = some (.int .u8)) (n : UInt64) : dR P σ s d (.d (eU64 n)) = some (.d (bR n.toUInt8), σ) := Ja _ hs hd _ _ (by rw [wrap_u8, UInt64.toNat_toUInt8]; omega)
theorem Ht (hs : P.underlying s = some (.int .u64)) (hd : P.underlying d = some (.int .u32)) (n : UInt64) : dR P σ s d (.d (eU64 n)) = some (.d (RG n.toUInt32), σ) := Ja _ hs hd _ _ (by rw [wrap_u32, UInt64.toNat_toUInt32]; omega)
theorem Hu (hs : P.underlying s = some (.int .u32)) (hd : P.underlying d = some (.int .u16)) (n : UInt32) : dR P σ s d (.d (RG n)) = some (.d (Pp n.toUInt16), σ) := Ja _ hs hd _ _ (by rw [wrap_u16, UInt32.toNat_toUInt16]; omega)
theorem JC (hs : P.underlying s = some (.int .u16)) (hd : P.underlying d = some (.int .u8)) (n : UInt16) : dR P σ s d (.d (Pp n)) = some (.d (bR n.toUInt8), σ) := Ja _ hs hd _ _ (by rw [wrap_u8, UInt16.toNat_toUInt8]; omega)
end
section
variable {P : Program} {t : TypeId}
theorem TK {op : BinOp} {X Y : Operand} {a b : AV} {u v : Value} {r : Bool} {L : Nat} (ha : a.val = some u) (hb : b.val = some v) (hg : pr P (eqGuard op t X Y u v) = some ()) (hL : L ≤ 10000) (h : ∀ d, pr P (Op.equalIn (d + L) t u v) = some r)
  (ho : (op = .eql ∧ binOp op t u v = (do pure (.bool (← Op.equal t u v)))) ∨ (op = .neq ∧ binOp op t u v = (do pure (.bool (!(← Op.equal t u v)))))) : bC P op t X Y a b = some (.d (eB (if op = .eql then r else !r))) := by
 have he : pr P (Op.equal t u v) = some r := by
  have := h (10000 - L)
  rw [Nat.sub_add_cancel hL] at this
  exact this
 simp only [bC, ha, hb, vY, gU, hg, Option.bind_some]
 rcases ho with ⟨rfl, h2⟩ | ⟨rfl, h2⟩
 ·rw [h2]; simp only [gU, he, Option.bind_some, iU, if_true]; rfl
 ·rw [h2]; simp only [gU, he, Option.bind_some, iU]; rfl
theorem JA {op : BinOp} {X Y : Operand} {xs ys : Array Value} (hm : P.eqGuardType P.depth t = false) : pr P (eqGuard op t X Y (.agg xs) (.agg ys)) = some () := by
 cases op <;> simp [eqGuard, gU, Al, hm, iU]
theorem Ct {X Y : Operand} {a b : AV} {xs ys : Array Value} {r : Bool} {L : Nat} (ha : a.val = some (.agg xs)) (hb : b.val = some (.agg ys)) (hm : P.eqGuardType P.depth t = false) (hL : L ≤ 10000) (h : ∀ d, pr P (Op.equalIn (d + L) t (.agg xs) (.agg ys)) = some r) : bC P .eql t X Y a b = some (.d (eB r)) :=
 TK ha hb (JA hm) hL h (.inl ⟨rfl, rfl⟩)
theorem q9 {X Y : Operand} {a b : AV} {xs ys : Array Value} {r : Bool} {L : Nat} (ha : a.val = some (.agg xs)) (hb : b.val = some (.agg ys)) (hm : P.eqGuardType P.depth t = false) (hL : L ≤ 10000) (h : ∀ d, pr P (Op.equalIn (d + L) t (.agg xs) (.agg ys)) = some r) : bC P .neq t X Y a b = some (.d (eB !r)) :=
 TK ha hb (JA hm) hL h (.inr ⟨rfl, rfl⟩)
def Na (f : Field) : Bool × Nat × Nat := (f.name == "_", f.type, f.offset)
inductive EqF (P : Program) (d : Nat) (xs ys : Array Value) : List (Bool × Nat × Nat) → Bool → Prop
 | nil : EqF P d xs ys [] true
 | cons {ty off : Nat} {l : List (Bool × Nat × Nat)} {a b : Value} {r q : Bool} (h1 : pr P (part ty xs off) = some a) (h2 : pr P (part ty ys off) = some b) (h3 : pr P (Op.equalIn d ty a b) = some r) (h4 : EqF P d xs ys l q) : EqF P d xs ys ((false, ty, off) :: l) (r && q)
theorem EqF.run {d : Nat} {xs ys : Array Value} {l : List (Bool × Nat × Nat)} {r : Bool} (h : EqF P d xs ys l r) : ∀ {fs : List Field}, fs.map Na = l → pr P (Op.eqFields d xs ys fs) = some r := by
 induction h with
 | nil => intro fs hf; cases fs with
  | nil => rfl
  | cons f fs => cases hf
 | cons h1 h2 h3 h4 ih =>
  intro fs hf
  cases fs with
  | nil => cases hf
  | cons f fs =>
   simp only [List.map_cons, List.cons.injEq, Na, Prod.mk.injEq] at hf
   obtain ⟨⟨e1, rfl, rfl⟩, e2⟩ := hf
   have hn : f.name ≠ "_" := by simpa using e1
   simp only [Op.eqFields, hn, ne_eq, not_false_eq_true, if_true, gU, h1, h2, h3, Option.bind_some, UR, ih e2, iU]
   split <;> simp_all
theorem vT {d : Nat} {xs ys : Array Value} {l : List (Bool × Nat × Nat)} {r : Bool} (hu : P.underlying t = some (.struct (P.fieldsOf t))) (hf : (P.fieldsOf t).toList.map Na = l) (hp : P.stoodInHeld t = false) (h : EqF P d xs ys l r) : pr P (Op.equalIn (d + 1) t (.agg xs) (.agg ys)) = some r := by
 rw [Ru d t xs ys hu hp, h.run hf]
theorem AJ {d : Nat} (h : P.underlying t = some .string) (a b : List UInt8) : pr P (Op.equalIn (d + 1) t (.string ⟨a.toArray⟩) (.string ⟨b.toArray⟩)) = some (a == b) := by rw [Rv d t _ _ h, iQ, iQ]
theorem Qx {d : Nat} (h : P.underlying t = some .bool) (a b : Bool) : pr P (Op.equalIn (d + 1) t (.bool a) (.bool b)) = some (a == b) := OO d t a b h
theorem KU {d : Nat} (h : P.underlying t = some (.int .i64)) (a b : Int) : pr P (Op.equalIn (d + 1) t (.int .i64 a) (.int .i64 b)) = some (a == b) := Jt d t _ _ a b h
theorem KT {d : Nat} (h : P.underlying t = some (.int .u64)) (a b : UInt64) : pr P (Op.equalIn (d + 1) t (.int .u64 a.toNat) (.int .u64 b.toNat)) = some (a == b) := by
 rw [Jt d t _ _ _ _ h]; congr 1; rw [Bool.eq_iff_iff]; simp only [beq_iff_eq, ← UInt64.toNat_inj]; omega
theorem Js {g : Bool} (h : iH P t = some g) : pr P (isAgg t) = some g := by
 unfold iH at h
 split at h
 ·rename_i hu; cases h; simp [isAgg, gU, fE hu, iU]
 ·rename_i hu; cases h; simp [isAgg, gU, fE hu, iU]
 ·rename_i d h1 h2 hu
  cases h
  simp only [isAgg, gU, fE hu, Option.bind_some]
  all_goals (cases d <;> first | rfl | exact absurd rfl (h1 _) | exact absurd rfl (h2 _ _))
 ·cases h
theorem gV {cs : Array Value} {off : Nat} {v : Value} (h : iH P t = some false) (hv : cs[off]? = some v) : pr P (part t cs off) = some v := by
 simp only [part, gU, Js h, Option.bind_some, Bool.false_eq_true, if_false, hv, iU]
theorem Zd {cs ds : Array Value} {off s : Nat} (h : iH P t = some true) (hs : bU P t = some s) (hv : cs.extract off (off + s) = ds) : pr P (part t cs off) = some (.agg ds) := by
 have h2 : pr P (Go.sizeOf t) = some s := by
  unfold bU at hs
  split at hs
  ·rename_i i hi
   cases hs
   unfold Go.sizeOf
   simp [typeInfo, gU, Al, hi, iU]
  ·cases hs
 simp only [part, gU, Js h, Option.bind_some, if_true, h2, hv, iU]
end
section
variable {P : Program}
end
section
variable {P : Program} {m n : Nat} {e : En} {σ σ1 : List Ob} {s : St} {fn : Func} {r : AV} {rs : List AV}
inductive Cz (P : Program) (n : Nat) (e : En) (σ : List Ob) : List ResultVar → List AV → Prop
 | nil : Cz P n e σ [] []
 | tmp {t : Tmp} {v : AV} {l : List ResultVar} {vs : List AV} (h : lo n e (.tmp t) = some v) (k : Cz P n e σ l vs) : Cz P n e σ (.tmp t :: l) (v :: vs)
 | cell {a : Tmp} {t : TypeId} {p v : AV} {l : List ResultVar} {vs : List AV} (h : lo n e (.tmp a) = some p) (hl : oJ P σ t p = some v) (k : Cz P n e σ l vs) : Cz P n e σ (.cell a t :: l) (v :: vs)
theorem aG : Cz P n e σ [] [] := .nil
theorem aI {t : Tmp} {v : AV} {l : List ResultVar} {vs : List AV} (h : lo n e (.tmp t) = some v) (k : Cz P n e σ l vs) : Cz P n e σ (.tmp t :: l) (v :: vs) := .tmp h k
theorem gD {a : Tmp} {t : TypeId} {p v : AV} {l : List ResultVar} {vs : List AV} (h : lo n e (.tmp a) = some p) (hl : oJ P σ t p = some v) (k : Cz P n e σ l vs) : Cz P n e σ (.cell a t :: l) (v :: vs) := .cell h hl k
theorem Cz.res {l : List ResultVar} (h : Cz P n e σ l rs) : iP P ⟨mk n e, σ⟩ l = some rs := by
 induction h with
 | nil => rfl
 | tmp h k ih =>
  have h' := dO h
  simp only [mY] at h'
  simp only [iP, h', ih]
 | cell h hl k ih =>
  have h' := dO h
  simp only [mY] at h'
  simp only [iP, h', hl, ih]
theorem aV (hk : Wk m s ⟨mk n e, σ1⟩) (hr : Cz P n e σ1 fn.results.toList rs) (ho : Ju rs = r) : ∃ s1, Wk m s s1 ∧ Fin P fn r σ1 .ret s1 := ⟨_, hk, .inr rfl, rs, hr.res, ho, rfl⟩
theorem kG (hk : Wk m s ⟨mk n e, σ1⟩) (hr : Cz P n e σ1 fn.results.toList rs) (ho : Ju rs = r) : ∃ s1, Wk m s s1 ∧ Fin P fn r σ1 .normal s1 := ⟨_, hk, .inl rfl, rs, hr.res, ho, rfl⟩
theorem Vx {α : Type} {f : α → D} {id sz len : Nat} {xs : List α} {wr : Bool} (hl : len = xs.length) (h : σ[id]? = some (.row sz (xs.map f) wr)) {cap : Option Nat} : Lv.lX σ (.slc id sz 0 len cap) = some (eL sz f xs, σ.set id (.row sz (xs.map f) false)) := by
 subst hl
 simp only [Lv.lX, h, List.length_map, Nat.zero_add, Nat.le_refl, and_self, if_true, List.drop_zero]
 rw [List.take_of_length_le (by simp)]
theorem Cb : Lv.jN σ [] = some ([], σ) := rfl
theorem wM {x : D} {l : List AV} {ys : List D} (h : x.isAgg = false) (k : Lv.jN σ l = some (ys, σ1)) : Lv.jN σ (.d x :: l) = some (x :: ys, σ1) := by
 simp only [Lv.jN, Lv.lX, h, Bool.false_eq_true, if_false, k]
theorem qw {x : AV} {y : D} {σ2 : List Ob} {l : List AV} {ys : List D} (h : Lv.lX σ x = some (y, σ1)) (k : Lv.jN σ1 l = some (ys, σ2)) : Lv.jN σ (x :: l) = some (y :: ys, σ2) := by
 simp only [Lv.jN, h, k]
end
end Lv
