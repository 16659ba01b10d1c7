/- Further words for printed walks. -/
import Derived.Test.YtjnpmmiacggffaaGreatDoorGwLoop
import Derived.Test.YtjnpmmiacggffaaGreatDoorLvEq
/- Further words for printed walks. -/
namespace Lv
open Go
set_option linter.unusedVariables false
set_option linter.unusedSimpArgs false
set_option linter.unusedSectionVars false
variable [bJ]
abbrev eL {α : Type} (sz : Nat) (f : α → D) (l : List α) : D := .zF sz (l.map f)
def maxS (a b : List UInt8) : List UInt8 := if AA a b then b else a
def minS (a b : List UInt8) : List UInt8 := if AA a b || a == b then a else b
section
variable {P : Program} {m : Nat} {o : Oper} {n : Nat} {e : En} {σ σ' : List Ob} {v a b : AV} {t : TypeId} {s : St}
theorem AW.aoZ {id o o' : Nat} (h : o = o') : AW (.ref id o 0) (.ref id o' 0) := by subst h; exact AW.refl _
theorem Wk.mo {env : List AV} (o : Ob) (ho : ∀ es, o ≠ .map es) (hσ : σ ++ [o] = σ') : Wk m ⟨env, σ⟩ ⟨env, σ'⟩ := hσ ▸ Wk.push o ho
theorem Wk.Z4 {env : List AV} {id : Nat} {x y : AV} (h : σ[id]? = some (.box x)) (hw : nK x.cells y.cells) (hσ : σ.set id (.box y) = σ') : Wk m ⟨env, σ⟩ ⟨env, σ'⟩ := hσ ▸ Wk.box h hw
def mvg (i n k : Nat) : Option Nat := if k = i then some n else if k < n then some k else none
theorem Wk.move {e' : En} {os : List Ob} {o : Ob} (i : Nat) (hi : i < σ.length) (hos : oN (mvg i σ.length) σ = some os) (he : eRe (mvg i σ.length) e = some e') (ho : os[i]? = some o) (hσ : os.set i .dead ++ [o] = σ') : Wk m ⟨mk n e, σ⟩ ⟨mk n e', σ'⟩ := by
 intro iP iH w0 H0 ro μ w a hr
 subst hσ
 have hl : os.length = σ.length := yC hos
 have hg : ∀ k j, mvg i σ.length k = some j → (if j = σ.length then μ i else μ j) = μ k := by
  intro k j h
  unfold mvg at h
  split at h
  ·rename_i e; subst e; cases h; rw [if_pos rfl]
  ·split at h
   ·cases h; rw [if_neg (by omega)]
   ·cases h
 have hK : ∀ j, (hp (os.set i .dead ++ [o]) j).live = true → ∃ k, mvg i σ.length k = some j ∧ (hp σ k).re (mvg i σ.length) = some (hp (os.set i .dead ++ [o]) j) := by
  intro j hj
  rcases Nat.lt_trichotomy j σ.length with h | h | h
  ·have e1 : (os.set i .dead ++ [o])[j]? = (os.set i .dead)[j]? := List.getElem?_append_left (by simp; omega)
   by_cases hji : j = i
   ·subst hji
    have : hp (os.set j .dead ++ [o]) j = .dead := eG (by rw [e1, List.getElem?_set, if_pos rfl, if_pos (by omega)])
    rw [this] at hj; simp [Ob.live] at hj
   ·have hjl : j < os.length := by omega
    have e2 : (os.set i .dead ++ [o])[j]? = some os[j] := by rw [e1, List.getElem?_set, if_neg (fun q => hji q.symm), List.getElem?_eq_getElem hjl]
    obtain ⟨x, k1, k2⟩ := Bt hos j _ (List.getElem?_eq_getElem hjl)
    refine ⟨j, by unfold mvg; rw [if_neg hji, if_pos h], ?_⟩
    rw [eG k1, eG e2]; exact k2
  ·subst h
   have e2 : (os.set i .dead ++ [o])[σ.length]? = some o := by rw [List.getElem?_append_right (by simp; omega)]; simp [hl]
   obtain ⟨x, k1, k2⟩ := Bt hos i _ ho
   refine ⟨i, by unfold mvg; rw [if_pos rfl], ?_⟩
   rw [eG k1, eG e2]; exact k2
  ·rw [uF (by simp; omega)] at hj; simp [Ob.live] at hj
 refine ⟨ro, fun j => if j = σ.length then μ i else μ j, hr.good.re hg hK, ⟨by rw [hr.env.size, iE, iE], fun j y v hy hv => ?_⟩, fun id L h => ?_, hr.defers, hr.ext.trans (BP.re hg hK), fun id hid => ?_, by have := hr.hm; simp at this ⊢; omega⟩
 ·obtain ⟨hj, rfl⟩ := Ep hy
  exact Qh hg (hr.env.get j _ v (uE hj) hv) _ (Rs he j)
 ·split at h
  ·rename_i q; subst q; simp; omega
  ·have := hr.dom id L h; simp at this ⊢; omega
 ·have := hr.hm; simp at this
  rw [if_neg (by omega)]
  exact hr.keep id hid
variable {el : TypeId} {sz zG k id len : Nat} {z : D} {α : Type} {f : α → D} {xs ys : List α} {x : AV}
theorem afW (hl : len = xs.length) (un : P.underlying t = some (.slice el)) (E : EI P el sz zG z) (h : σ[id]? = some (.row sz (xs.map f) true)) (hx : elems σ sz x = some (ys.map f)) (hr : (xs.length + ys.length) * zG ≤ room) (hk : σ.length = k) (hσ : σ.set id .dead ++ [.row sz ((xs ++ ys).map f) true] = σ') :
  iM P σ t (.slc id sz 0 len none) x = some (.slc k sz 0 (xs ++ ys).length none, σ') := by
 subst hl; exact afP un E h hx hr hk hσ
theorem bsl {len : Nat} {parts : List (Nat × AV)} {ds : List D} (un : P.underlying t = some (.slice el)) (E : EI P el sz zG z) (hl : len * sz ≤ 16777216) (hp : parts.length = len) (ha : kS σ sz 0 parts = some (ds, σ)) (hk : σ.length = k) (hσ : σ ++ [.row sz ds true] = σ') :
  jG P σ t len parts = some (.slc k sz 0 len (some len), σ') := by
 obtain ⟨i, h1, h2, h3⟩ := E.get
 have ts : dM P el = some sz := by simp only [dM, h1, h2]
 simp only [jG, un, ts, E.zero, hl, hp, and_self, if_true, ha, hk, hσ]
theorem ZB {el : TypeId} {X Y : Operand} (un : P.underlying t = some (.pointer el)) {id idx off : Nat} : cK P .eql t X Y (.ref id idx off) (.d .Ho) = some (.d (eB false)) := by
 simp only [cK, AV.val, un, Eo, if_true]
theorem SN {el : TypeId} {X Y : Operand} (un : P.underlying t = some (.pointer el)) {id idx off : Nat} : cK P .neq t X Y (.ref id idx off) (.d .Ho) = some (.d (eB true)) := by
 simp only [cK, AV.val, un, Eo, if_true]
variable (t)
variable (X Y : Operand)
theorem UW (a b : Int) : cK P .eql t X Y (.d (eI a)) (.d (eI b)) = some (.d (eB (a == b))) := rfl
theorem UM (a b : Int) : cK P .neq t X Y (.d (eI a)) (.d (eI b)) = some (.d (eB (a != b))) := rfl
theorem UO (a b : Int) : cK P .lss t X Y (.d (eI a)) (.d (eI b)) = some (.d (eB (decide (a < b)))) := rfl
theorem UQ (a b : Int) : cK P .leq t X Y (.d (eI a)) (.d (eI b)) = some (.d (eB (decide (a ≤ b)))) := rfl
theorem UR (a b : Int) : cK P .gtr t X Y (.d (eI a)) (.d (eI b)) = some (.d (eB (decide (a > b)))) := rfl
theorem UU (a b : Int) : cK P .geq t X Y (.d (eI a)) (.d (eI b)) = some (.d (eB (decide (a ≥ b)))) := rfl
theorem UY (a b : Int) : cK P .add t X Y (.d (eI a)) (.d (eI b)) = some (.d (eI (bF (a + b)))) := rfl
theorem UL (a b : Int) : cK P .sub t X Y (.d (eI a)) (.d (eI b)) = some (.d (eI (bF (a - b)))) := rfl
theorem UN (a b : Int) : cK P .mul t X Y (.d (eI a)) (.d (eI b)) = some (.d (eI (bF (a * b)))) := rfl
theorem xE (a b : Int) (h : b ≠ 0) : cK P .quo t X Y (.d (eI a)) (.d (eI b)) = some (.d (eI (bF (a.tdiv b)))) := by
 have hp : pr P (Op.intDiv .quo .i64 a b) = some (.int .i64 (bF (a.tdiv b))) := by unfold Op.intDiv; rw [if_neg h]; rfl
 show (match pr P (Op.intDiv .quo .i64 a b) with | some v => (match nQ v with | some x => some (AV.d x) | none => none) | none => none) = _
 rw [hp]; rfl
end
section
variable {P : Program} {s d : TypeId} {σ : List Ob}
theorem afu {k l : IntKind} (hs : P.underlying s = some (.int k)) (hd : P.underlying d = some (.int l)) (n : Int) : gG P σ s d (.d (.int k n)) = some (.d (.int l (l.wrap n)), σ) := by
 have hp : pr P (convert s d (.int k n)) = some (.int l (l.wrap n)) := by
  simp only [convert, iK, gD hs, gD hd, Option.bind_some]
  rfl
 simp only [gG, hs, hd, AV.val, D.val, D.cval, pq, hp]
 rfl
theorem Uv (k : IntKind) (hs : P.underlying s = some (.int k)) {l : IntKind} (hd : P.underlying d = some (.int l)) (n m : Int) (h : l.wrap n = m) : gG P σ s d (.d (.int k n)) = some (.d (.int l m), σ) := by
 rw [afu hs hd, h]
theorem Mc (hs : P.underlying s = some (.int .u8)) (hd : P.underlying d = some (.int .i64)) (n : UInt8) : gG P σ s d (.d (gH n)) = some (.d (eI (n.toNat : Int)), σ) := Uv _ hs hd _ _ (by have := Js n; exact PG (by omega) (by omega))
theorem Uu (hs : P.underlying s = some (.int .u8)) (hd : P.underlying d = some (.int .u64)) (n : UInt8) : gG P σ s d (.d (gH n)) = some (.d (jM n.toUInt64), σ) := Uv _ hs hd _ _ (by rw [wrap_u64, UInt8.toNat_toUInt64]; have := Js n; omega)
theorem FZ (hs : P.underlying s = some (.int .u64)) (hd : P.underlying d = some (.int .u8)) (n : UInt64) : gG P σ s d (.d (jM n)) = some (.d (gH n.toUInt8), σ) := Uv _ hs hd _ _ (by rw [wrap_u8, UInt64.toNat_toUInt8]; omega)
theorem JO (hs : P.underlying s = some (.int .u64)) (hd : P.underlying d = some (.int .u32)) (n : UInt64) : gG P σ s d (.d (jM n)) = some (.d (Us n.toUInt32), σ) := Uv _ hs hd _ _ (by rw [wrap_u32, UInt64.toNat_toUInt32]; omega)
theorem JQ (hs : P.underlying s = some (.int .u32)) (hd : P.underlying d = some (.int .u16)) (n : UInt32) : gG P σ s d (.d (Us n)) = some (.d (Ut n.toUInt16), σ) := Uv _ hs hd _ _ (by rw [wrap_u16, UInt32.toNat_toUInt16]; omega)
theorem Md (hs : P.underlying s = some (.int .u16)) (hd : P.underlying d = some (.int .u8)) (n : UInt16) : gG P σ s d (.d (Ut n)) = some (.d (gH n.toUInt8), σ) := Uv _ hs hd _ _ (by rw [wrap_u8, UInt16.toNat_toUInt8]; omega)
end
section
variable {P : Program} {t : TypeId}
theorem Mv {op : BinOp} {X Y : Operand} {a b : AV} {u v : Value} {r : Bool} {L : Nat} (ha : a.val = some u) (hb : b.val = some v) (hg : pr P (eqGuard op t X Y u v) = some ()) (hL : L ≤ 10000) (h : ∀ d, pr P (Op.equalIn (d + L) t u v) = some r)
  (ho : (op = .eql ∧ binOp op t u v = (do pure (.bool (← Op.equal t u v)))) ∨ (op = .neq ∧ binOp op t u v = (do pure (.bool (!(← Op.equal t u v)))))) : cK P op t X Y a b = some (.d (eB (if op = .eql then r else !r))) := by
 have he : pr P (Op.equal t u v) = some r := by
  have := h (10000 - L)
  rw [Nat.sub_add_cancel hL] at this
  exact this
 simp only [cK, ha, hb, pq, iK, hg, Option.bind_some]
 rcases ho with ⟨rfl, h2⟩ | ⟨rfl, h2⟩
 ·rw [h2]; simp only [iK, he, Option.bind_some, jD, if_true]; rfl
 ·rw [h2]; simp only [iK, he, Option.bind_some, jD]; rfl
theorem L9 {op : BinOp} {X Y : Operand} {xs ys : Array Value} (hm : P.eqGuardType P.depth t = false) : pr P (eqGuard op t X Y (.agg xs) (.agg ys)) = some () := by
 cases op <;> simp [eqGuard, iK, CU, hm, jD]
theorem EY {X Y : Operand} {a b : AV} {xs ys : Array Value} {r : Bool} {L : Nat} (ha : a.val = some (.agg xs)) (hb : b.val = some (.agg ys)) (hm : P.eqGuardType P.depth t = false) (hL : L ≤ 10000) (h : ∀ d, pr P (Op.equalIn (d + L) t (.agg xs) (.agg ys)) = some r) : cK P .eql t X Y a b = some (.d (eB r)) :=
 Mv ha hb (L9 hm) hL h (.inl ⟨rfl, rfl⟩)
theorem sV {X Y : Operand} {a b : AV} {xs ys : Array Value} {r : Bool} {L : Nat} (ha : a.val = some (.agg xs)) (hb : b.val = some (.agg ys)) (hm : P.eqGuardType P.depth t = false) (hL : L ≤ 10000) (h : ∀ d, pr P (Op.equalIn (d + L) t (.agg xs) (.agg ys)) = some r) : cK P .neq t X Y a b = some (.d (eB !r)) :=
 Mv ha hb (L9 hm) hL h (.inr ⟨rfl, rfl⟩)
theorem J7 (un : P.underlying t = some .bool) (X Y : Operand) (a b : Bool) : cK P .eql t X Y (.d (eB a)) (.d (eB b)) = some (.d (eB (a == b))) :=
 Mv (u := .bool a) (v := .bool b) (L := 1) rfl rfl rfl (by decide) (fun d => CV d t a b un) (.inl ⟨rfl, rfl⟩)
theorem Dt (un : P.underlying t = some .bool) (X Y : Operand) (a b : Bool) : cK P .neq t X Y (.d (eB a)) (.d (eB b)) = some (.d (eB (a != b))) :=
 Mv (u := .bool a) (v := .bool b) (L := 1) rfl rfl rfl (by decide) (fun d => CV d t a b un) (.inr ⟨rfl, rfl⟩)
def Nw (f : Field) : Bool × Nat × Nat := (f.name == "_", f.type, f.offset)
inductive EqF (P : Program) (d : Nat) (xs ys : Array Value) : List (Bool × Nat × Nat) → Bool → Prop
 | nil : EqF P d xs ys [] true
 | cons {ty off : Nat} {l : List (Bool × Nat × Nat)} {a b : Value} {r q : Bool} (h1 : pr P (part ty xs off) = some a) (h2 : pr P (part ty ys off) = some b) (h3 : pr P (Op.equalIn d ty a b) = some r) (h4 : EqF P d xs ys l q) : EqF P d xs ys ((false, ty, off) :: l) (r && q)
theorem EqF.run {d : Nat} {xs ys : Array Value} {l : List (Bool × Nat × Nat)} {r : Bool} (h : EqF P d xs ys l r) : ∀ {fs : List Field}, fs.map Nw = l → pr P (Op.eqFields d xs ys fs) = some r := by
 induction h with
 | nil => intro fs hf; cases fs with
  | nil => rfl
  | cons f fs => cases hf
 | cons h1 h2 h3 h4 ih =>
  intro fs hf
  cases fs with
  | nil => cases hf
  | cons f fs =>
   simp only [List.map_cons, List.cons.injEq, Nw, Prod.mk.injEq] at hf
   obtain ⟨⟨e1, rfl, rfl⟩, e2⟩ := hf
   have hn : f.name ≠ "_" := by simpa using e1
   simp only [Op.eqFields, hn, ne_eq, not_false_eq_true, if_true, iK, h1, h2, h3, Option.bind_some, Wq, ih e2, jD]
   split <;> simp_all
theorem tF {d : Nat} {xs ys : Array Value} {l : List (Bool × Nat × Nat)} {r : Bool} (hu : P.underlying t = some (.struct (P.fieldsOf t))) (hf : (P.fieldsOf t).toList.map Nw = l) (hp : P.stoodInHeld t = false) (h : EqF P d xs ys l r) : pr P (Op.equalIn (d + 1) t (.agg xs) (.agg ys)) = some r := by
 rw [Ug d t xs ys hu hp, h.run hf]
theorem NM {d : Nat} (h : P.underlying t = some .string) (a b : List UInt8) : pr P (Op.equalIn (d + 1) t (.string ⟨a.toArray⟩) (.string ⟨b.toArray⟩)) = some (a == b) := by rw [Uh d t _ _ h, jB, jB]
theorem EN {d : Nat} (h : P.underlying t = some .bool) (a b : Bool) : pr P (Op.equalIn (d + 1) t (.bool a) (.bool b)) = some (a == b) := CV d t a b h
theorem wG {d : Nat} (h : P.underlying t = some (.int .i64)) (a b : Int) : pr P (Op.equalIn (d + 1) t (.int .i64 a) (.int .i64 b)) = some (a == b) := LP d t _ _ a b h
theorem afn {d : Nat} (h : P.underlying t = some (.int .u64)) (a b : UInt64) : pr P (Op.equalIn (d + 1) t (.int .u64 a.toNat) (.int .u64 b.toNat)) = some (a == b) := by
 rw [LP d t _ _ _ _ h]; congr 1; rw [Bool.eq_iff_iff]; simp only [beq_iff_eq, ← UInt64.toNat_inj]; omega
theorem LM {g : Bool} (h : ko P t = some g) : pr P (isAgg t) = some g := by
 unfold ko at h
 split at h
 ·rename_i hu; cases h; simp [isAgg, iK, gD hu, jD]
 ·rename_i hu; cases h; simp [isAgg, iK, gD hu, jD]
 ·rename_i d h1 h2 hu
  cases h
  simp only [isAgg, iK, gD hu, Option.bind_some]
  all_goals (cases d <;> first | rfl | exact absurd rfl (h1 _) | exact absurd rfl (h2 _ _))
 ·cases h
theorem gT {cs : Array Value} {off : Nat} {v : Value} (h : ko P t = some false) (hv : cs[off]? = some v) : pr P (part t cs off) = some v := by
 simp only [part, iK, LM h, Option.bind_some, Bool.false_eq_true, if_false, hv, jD]
theorem LQ {cs ds : Array Value} {off s : Nat} (h : ko P t = some true) (hs : dM P t = some s) (hv : cs.extract off (off + s) = ds) : pr P (part t cs off) = some (.agg ds) := by
 have h2 : pr P (Go.sizeOf t) = some s := by
  unfold dM at hs
  split at hs
  ·rename_i i hi
   cases hs
   unfold Go.sizeOf
   simp [typeInfo, iK, CU, hi, jD]
  ·cases hs
 simp only [part, iK, LM h, Option.bind_some, if_true, h2, hv, jD]
end
section
variable {P : Program}
theorem JW {t : TypeId} (un : P.underlying t = some (.int .i64)) (a b : Int) : pq P (Builtin.max_ #[t, t] 0 #[.int .i64 a, .int .i64 b]) = some (.d (eI (max a b))) := by
 have : pr P (Builtin.max_ #[t, t] 0 #[.int .i64 a, .int .i64 b]) = some (.int .i64 (if b > a then b else a)) := rfl
 simp only [pq, this, nQ, Ji]
 congr 3
 show (if b > a then b else a) = max a b
 split <;> omega
theorem JV {t : TypeId} (un : P.underlying t = some .string) (a b : List UInt8) : pq P (Builtin.max_ #[t, t] 0 #[.string ⟨a.toArray⟩, .string ⟨b.toArray⟩]) = some (.d (eS (maxS a b))) := by
 have : pr P (Builtin.max_ #[t, t] 0 #[.string ⟨a.toArray⟩, .string ⟨b.toArray⟩]) = some (.string (if (!Op.bytesLess (ByteArray.mk a.toArray).toList (ByteArray.mk b.toArray).toList) = true then ⟨a.toArray⟩ else ⟨b.toArray⟩)) := rfl
 simp only [pq, this, jB]
 unfold maxS AA
 cases Op.bytesLess a b <;> rfl
end
section
variable {P : Program} {m n : Nat} {e : En} {σ σ1 : List Ob} {s : St} {fn : Func} {r : AV} {rs : List AV}
inductive E9 (P : Program) (n : Nat) (e : En) (σ : List Ob) : List ResultVar → List AV → Prop
 | nil : E9 P n e σ [] []
 | tmp {t : Tmp} {v : AV} {l : List ResultVar} {vs : List AV} (h : lo n e (.tmp t) = some v) (k : E9 P n e σ l vs) : E9 P n e σ (.tmp t :: l) (v :: vs)
 | cell {a : Tmp} {t : TypeId} {p v : AV} {l : List ResultVar} {vs : List AV} (h : lo n e (.tmp a) = some p) (hl : qc P σ t p = some v) (k : E9 P n e σ l vs) : E9 P n e σ (.cell a t :: l) (v :: vs)
theorem aX : E9 P n e σ [] [] := .nil
theorem aZ {t : Tmp} {v : AV} {l : List ResultVar} {vs : List AV} (h : lo n e (.tmp t) = some v) (k : E9 P n e σ l vs) : E9 P n e σ (.tmp t :: l) (v :: vs) := .tmp h k
theorem Cr {a : Tmp} {t : TypeId} {p v : AV} {l : List ResultVar} {vs : List AV} (h : lo n e (.tmp a) = some p) (hl : qc P σ t p = some v) (k : E9 P n e σ l vs) : E9 P n e σ (.cell a t :: l) (v :: vs) := .cell h hl k
theorem E9.res {l : List ResultVar} (h : E9 P n e σ l rs) : jA P ⟨mk n e, σ⟩ l = some rs := by
 induction h with
 | nil => rfl
 | tmp h k ih =>
  have h' := dZ h
  simp only [ow] at h'
  simp only [jA, h', ih]
 | cell h hl k ih =>
  have h' := dZ h
  simp only [ow] at h'
  simp only [jA, h', hl, ih]
theorem bQ (hk : Wk m s ⟨mk n e, σ1⟩) (hr : E9 P n e σ1 fn.results.toList rs) (ho : LU rs = r) : ∃ s1, Wk m s s1 ∧ Fin P fn r σ1 .ret s1 := ⟨_, hk, .inr rfl, rs, hr.res, ho, rfl⟩
theorem EK (hk : Wk m s ⟨mk n e, σ1⟩) (hr : E9 P n e σ1 fn.results.toList rs) (ho : LU rs = r) : ∃ s1, Wk m s s1 ∧ Fin P fn r σ1 .normal s1 := ⟨_, hk, .inl rfl, rs, hr.res, ho, rfl⟩
theorem AU {α : Type} {f : α → D} {id sz len : Nat} {xs : List α} {wr : Bool} (hl : len = xs.length) (h : σ[id]? = some (.row sz (xs.map f) wr)) {cap : Option Nat} : Lv.mM σ (.slc id sz 0 len cap) = some (eL sz f xs, σ.set id (.row sz (xs.map f) false)) := by
 subst hl
 simp only [Lv.mM, h, List.length_map, Nat.zero_add, Nat.le_refl, and_self, if_true, List.drop_zero]
 rw [List.take_of_length_le (by simp)]
theorem p9 : Lv.kM σ [] = some ([], σ) := rfl
theorem iR {x : D} {l : List AV} {ys : List D} (h : x.isAgg = false) (k : Lv.kM σ l = some (ys, σ1)) : Lv.kM σ (.d x :: l) = some (x :: ys, σ1) := by
 simp only [Lv.kM, Lv.mM, h, Bool.false_eq_true, if_false, k]
theorem gW {x : AV} {y : D} {σ2 : List Ob} {l : List AV} {ys : List D} (h : Lv.mM σ x = some (y, σ1)) (k : Lv.kM σ1 l = some (ys, σ2)) : Lv.kM σ (x :: l) = some (y :: ys, σ2) := by
 simp only [Lv.kM, h, k]
end
end Lv
