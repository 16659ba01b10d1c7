/- Further words for printed walks. -/
import Derived.Test.YtddopjhkmkoicaaGreatDoorGwLoop
import Derived.Test.YtddopjhkmkoicaaGreatDoorLvEq
/- Further words for printed walks. -/
namespace Lv
open Go
set_option linter.unusedVariables false
set_option linter.unusedSimpArgs false
set_option linter.unusedSectionVars false
variable [BaseTab]
abbrev eL {α : Type} (sz : Nat) (f : α → D) (l : List α) : D := .lst sz (l.map f)
section
variable {P : Program} {m : Nat} {o : Oper} {n : Nat} {e : En} {σ σ' : List Ob} {v a b : AV} {t : TypeId} {s : St}
theorem AW.refz {id o o' : Nat} (h : o = o') : AW (.ref id o 0) (.ref id o' 0) := by subst h; exact AW.refl _
theorem Wk.pushE {env : List AV} (o : Ob) (ho : ∀ es, o ≠ .map es) (hσ : σ ++ [o] = σ') : Wk m ⟨env, σ⟩ ⟨env, σ'⟩ := hσ ▸ Wk.push o ho
theorem Wk.boxE {env : List AV} {id : Nat} {x y : AV} (h : σ[id]? = some (.box x)) (hw : AWs x.cells y.cells) (hσ : σ.set id (.box y) = σ') : Wk m ⟨env, σ⟩ ⟨env, σ'⟩ := hσ ▸ Wk.box h hw
def mvg (i n k : Nat) : Option Nat := if k = i then some n else if k < n then some k else none
theorem Wk.move {e' : En} {os : List Ob} {o : Ob} (i : Nat) (hi : i < σ.length) (hos : obsRe (mvg i σ.length) σ = some os) (he : eRe (mvg i σ.length) e = some e') (ho : os[i]? = some o) (hσ : os.set i .dead ++ [o] = σ') : Wk m ⟨mk n e, σ⟩ ⟨mk n e', σ'⟩ := by
 intro ro0 μ0 w0 H0 ro μ w a hr
 subst hσ
 have hl : os.length = σ.length := obsRe_length hos
 have hg : ∀ k j, mvg i σ.length k = some j → (if j = σ.length then μ i else μ j) = μ k := by
  intro k j h
  unfold mvg at h
  split at h
  ·rename_i e; subst e; cases h; rw [if_pos rfl]
  ·split at h
   ·cases h; rw [if_neg (by omega)]
   ·cases h
 have hK : ∀ j, (hp (os.set i .dead ++ [o]) j).live = true → ∃ k, mvg i σ.length k = some j ∧ (hp σ k).re (mvg i σ.length) = some (hp (os.set i .dead ++ [o]) j) := by
  intro j hj
  rcases Nat.lt_trichotomy j σ.length with h | h | h
  ·have e1 : (os.set i .dead ++ [o])[j]? = (os.set i .dead)[j]? := List.getElem?_append_left (by simp; omega)
   by_cases hji : j = i
   ·subst hji
    have : hp (os.set j .dead ++ [o]) j = .dead := hp_some (by rw [e1, List.getElem?_set, if_pos rfl, if_pos (by omega)])
    rw [this] at hj; simp [Ob.live] at hj
   ·have hjl : j < os.length := by omega
    have e2 : (os.set i .dead ++ [o])[j]? = some os[j] := by rw [e1, List.getElem?_set, if_neg (fun q => hji q.symm), List.getElem?_eq_getElem hjl]
    obtain ⟨x, k1, k2⟩ := obsRe_get hos j _ (List.getElem?_eq_getElem hjl)
    refine ⟨j, by unfold mvg; rw [if_neg hji, if_pos h], ?_⟩
    rw [hp_some k1, hp_some e2]; exact k2
  ·subst h
   have e2 : (os.set i .dead ++ [o])[σ.length]? = some o := by rw [List.getElem?_append_right (by simp; omega)]; simp [hl]
   obtain ⟨x, k1, k2⟩ := obsRe_get hos i _ ho
   refine ⟨i, by unfold mvg; rw [if_pos rfl], ?_⟩
   rw [hp_some k1, hp_some e2]; exact k2
  ·rw [hp_out (by simp; omega)] at hj; simp [Ob.live] at hj
 refine ⟨ro, fun j => if j = σ.length then μ i else μ j, hr.good.re hg hK, ⟨by rw [hr.env.size, mk_length, mk_length], fun j y v hy hv => ?_⟩, fun id L h => ?_, hr.defers, hr.ext.trans (Ext0.re hg hK), fun id hid => ?_, by have := hr.hm; simp at this ⊢; omega⟩
 ·obtain ⟨hj, rfl⟩ := mk_get' hy
  exact VR_re hg (hr.env.get j _ v (mk_get hj) hv) _ (eRe_lk he j)
 ·split at h
  ·rename_i q; subst q; simp; omega
  ·have := hr.dom id L h; simp at this ⊢; omega
 ·have := hr.hm; simp at this
  rw [if_neg (by omega)]
  exact hr.keep id hid
variable {el : TypeId} {sz by_ k id len : Nat} {z : D} {α : Type} {f : α → D} {xs ys : List α} {x : AV}
theorem ApFull (hl : len = xs.length) (un : P.underlying t = some (.slice el)) (E : EI P el sz by_ z) (h : σ[id]? = some (.row sz (xs.map f) true)) (hx : elems σ sz x = some (ys.map f)) (hr : (xs.length + ys.length) * by_ ≤ room) (hk : σ.length = k) (hσ : σ.set id .dead ++ [.row sz ((xs ++ ys).map f) true] = σ') :
  aappend P σ t (.slc id sz 0 len none) x = some (.slc k sz 0 (xs ++ ys).length none, σ') := by
 subst hl; exact apFull un E h hx hr hk hσ
theorem bsl {len : Nat} {parts : List (Nat × AV)} {ds : List D} (un : P.underlying t = some (.slice el)) (E : EI P el sz by_ z) (hl : len * sz ≤ 16777216) (hp : parts.length = len) (ha : aparts σ sz 0 parts = some (ds, σ)) (hk : σ.length = k) (hσ : σ ++ [.row sz ds true] = σ') :
  abuildSlice P σ t len parts = some (.slc k sz 0 len (some len), σ') := by
 obtain ⟨i, h1, h2, h3⟩ := E.get
 have ts : tsize P el = some sz := by simp only [tsize, h1, h2]
 simp only [abuildSlice, un, ts, E.zero, hl, hp, and_self, if_true, ha, hk, hσ]
theorem nil_eql {el : TypeId} {X Y : Operand} (un : P.underlying t = some (.pointer el)) {id idx off : Nat} : abinOp P .eql t X Y (.ref id idx off) (.d .nilp) = some (.d (eB false)) := by
 simp only [abinOp, AV.val, un, nilKind, if_true]
theorem nil_neq {el : TypeId} {X Y : Operand} (un : P.underlying t = some (.pointer el)) {id idx off : Nat} : abinOp P .neq t X Y (.ref id idx off) (.d .nilp) = some (.d (eB true)) := by
 simp only [abinOp, AV.val, un, nilKind, if_true]
variable (t)
variable (X Y : Operand)
theorem b_i64_eql (a b : Int) : abinOp P .eql t X Y (.d (eI a)) (.d (eI b)) = some (.d (eB (a == b))) := rfl
theorem b_i64_neq (a b : Int) : abinOp P .neq t X Y (.d (eI a)) (.d (eI b)) = some (.d (eB (a != b))) := rfl
theorem b_i64_lss (a b : Int) : abinOp P .lss t X Y (.d (eI a)) (.d (eI b)) = some (.d (eB (decide (a < b)))) := rfl
theorem b_i64_leq (a b : Int) : abinOp P .leq t X Y (.d (eI a)) (.d (eI b)) = some (.d (eB (decide (a ≤ b)))) := rfl
theorem b_i64_gtr (a b : Int) : abinOp P .gtr t X Y (.d (eI a)) (.d (eI b)) = some (.d (eB (decide (a > b)))) := rfl
theorem b_i64_geq (a b : Int) : abinOp P .geq t X Y (.d (eI a)) (.d (eI b)) = some (.d (eB (decide (a ≥ b)))) := rfl
theorem b_i64_add (a b : Int) : abinOp P .add t X Y (.d (eI a)) (.d (eI b)) = some (.d (eI (w64 (a + b)))) := rfl
theorem b_i64_sub (a b : Int) : abinOp P .sub t X Y (.d (eI a)) (.d (eI b)) = some (.d (eI (w64 (a - b)))) := rfl
theorem b_i64_mul (a b : Int) : abinOp P .mul t X Y (.d (eI a)) (.d (eI b)) = some (.d (eI (w64 (a * b)))) := rfl
end
section
variable {P : Program} {s d : TypeId} {σ : List Ob}
theorem cv_int {k l : IntKind} (hs : P.underlying s = some (.int k)) (hd : P.underlying d = some (.int l)) (n : Int) : aconvert P σ s d (.d (.int k n)) = some (.d (.int l (l.wrap n)), σ) := by
 have hp : pr P (convert s d (.int k n)) = some (.int l (l.wrap n)) := by
  simp only [convert, pr_bind, pr_underlying hs, pr_underlying hd, Option.bind_some]
  rfl
 simp only [aconvert, hs, hd, AV.val, D.val, D.cval, byPr, hp]
 rfl
theorem cv_u (k : IntKind) (hs : P.underlying s = some (.int k)) {l : IntKind} (hd : P.underlying d = some (.int l)) (n m : Int) (h : l.wrap n = m) : aconvert P σ s d (.d (.int k n)) = some (.d (.int l m), σ) := by
 rw [cv_int hs hd, h]
theorem cv_i64_u8 (hs : P.underlying s = some (.int .i64)) (hd : P.underlying d = some (.int .u8)) (n : Int) : aconvert P σ s d (.d (eI n)) = some (.d (eU8 (u8i n)), σ) := cv_u _ hs hd _ _ (c_i64_u8 n)
theorem cv_i64_u16 (hs : P.underlying s = some (.int .i64)) (hd : P.underlying d = some (.int .u16)) (n : Int) : aconvert P σ s d (.d (eI n)) = some (.d (eU16 (u16i n)), σ) := cv_u _ hs hd _ _ (c_i64_u16 n)
theorem cv_i64_u64 (hs : P.underlying s = some (.int .i64)) (hd : P.underlying d = some (.int .u64)) (n : Int) : aconvert P σ s d (.d (eI n)) = some (.d (eU64 (u64i n)), σ) := cv_u _ hs hd _ _ (c_i64_u64 n)
theorem cv_u8_i64 (hs : P.underlying s = some (.int .u8)) (hd : P.underlying d = some (.int .i64)) (n : UInt8) : aconvert P σ s d (.d (eU8 n)) = some (.d (eI (n.toNat : Int)), σ) := cv_u _ hs hd _ _ (by have := lt_u8 n; exact i64_wrap_id (by omega) (by omega))
theorem cv_u8_u64 (hs : P.underlying s = some (.int .u8)) (hd : P.underlying d = some (.int .u64)) (n : UInt8) : aconvert P σ s d (.d (eU8 n)) = some (.d (eU64 n.toUInt64), σ) := cv_u _ hs hd _ _ (by rw [wrap_u64, UInt8.toNat_toUInt64]; have := lt_u8 n; omega)
theorem cv_u64_u8 (hs : P.underlying s = some (.int .u64)) (hd : P.underlying d = some (.int .u8)) (n : UInt64) : aconvert P σ s d (.d (eU64 n)) = some (.d (eU8 n.toUInt8), σ) := cv_u _ hs hd _ _ (by rw [wrap_u8, UInt64.toNat_toUInt8]; omega)
theorem cv_u64_u32 (hs : P.underlying s = some (.int .u64)) (hd : P.underlying d = some (.int .u32)) (n : UInt64) : aconvert P σ s d (.d (eU64 n)) = some (.d (eU32 n.toUInt32), σ) := cv_u _ hs hd _ _ (by rw [wrap_u32, UInt64.toNat_toUInt32]; omega)
theorem cv_u32_u16 (hs : P.underlying s = some (.int .u32)) (hd : P.underlying d = some (.int .u16)) (n : UInt32) : aconvert P σ s d (.d (eU32 n)) = some (.d (eU16 n.toUInt16), σ) := cv_u _ hs hd _ _ (by rw [wrap_u16, UInt32.toNat_toUInt16]; omega)
theorem cv_u16_u8 (hs : P.underlying s = some (.int .u16)) (hd : P.underlying d = some (.int .u8)) (n : UInt16) : aconvert P σ s d (.d (eU16 n)) = some (.d (eU8 n.toUInt8), σ) := cv_u _ hs hd _ _ (by rw [wrap_u8, UInt16.toNat_toUInt8]; omega)
end
section
variable {P : Program} {t : TypeId}
theorem val_eq {op : BinOp} {X Y : Operand} {a b : AV} {u v : Value} {r : Bool} {L : Nat} (ha : a.val = some u) (hb : b.val = some v) (hg : pr P (eqGuard op t X Y u v) = some ()) (hL : L ≤ 10000) (h : ∀ d, pr P (Op.equalIn (d + L) t u v) = some r)
  (ho : (op = .eql ∧ binOp op t u v = (do pure (.bool (← Op.equal t u v)))) ∨ (op = .neq ∧ binOp op t u v = (do pure (.bool (!(← Op.equal t u v)))))) : abinOp P op t X Y a b = some (.d (eB (if op = .eql then r else !r))) := by
 have he : pr P (Op.equal t u v) = some r := by
  have := h (10000 - L)
  rw [Nat.sub_add_cancel hL] at this
  exact this
 simp only [abinOp, ha, hb, byPr, pr_bind, hg, Option.bind_some]
 rcases ho with ⟨rfl, h2⟩ | ⟨rfl, h2⟩
 ·rw [h2]; simp only [pr_bind, he, Option.bind_some, pr_pure, if_true]; rfl
 ·rw [h2]; simp only [pr_bind, he, Option.bind_some, pr_pure]; rfl
theorem guard_agg {op : BinOp} {X Y : Operand} {xs ys : Array Value} (hm : P.eqGuardType P.depth t = false) : pr P (eqGuard op t X Y (.agg xs) (.agg ys)) = some () := by
 cases op <;> simp [eqGuard, pr_bind, pr_program, hm, pr_pure]
theorem b_struct_eql {X Y : Operand} {a b : AV} {xs ys : Array Value} {r : Bool} {L : Nat} (ha : a.val = some (.agg xs)) (hb : b.val = some (.agg ys)) (hm : P.eqGuardType P.depth t = false) (hL : L ≤ 10000) (h : ∀ d, pr P (Op.equalIn (d + L) t (.agg xs) (.agg ys)) = some r) : abinOp P .eql t X Y a b = some (.d (eB r)) :=
 val_eq ha hb (guard_agg hm) hL h (.inl ⟨rfl, rfl⟩)
theorem b_struct_neq {X Y : Operand} {a b : AV} {xs ys : Array Value} {r : Bool} {L : Nat} (ha : a.val = some (.agg xs)) (hb : b.val = some (.agg ys)) (hm : P.eqGuardType P.depth t = false) (hL : L ≤ 10000) (h : ∀ d, pr P (Op.equalIn (d + L) t (.agg xs) (.agg ys)) = some r) : abinOp P .neq t X Y a b = some (.d (eB !r)) :=
 val_eq ha hb (guard_agg hm) hL h (.inr ⟨rfl, rfl⟩)
theorem b_bool_neq (un : P.underlying t = some .bool) (X Y : Operand) (a b : Bool) : abinOp P .neq t X Y (.d (eB a)) (.d (eB b)) = some (.d (eB (a != b))) :=
 val_eq (u := .bool a) (v := .bool b) (L := 1) rfl rfl rfl (by decide) (fun d => pr_eq_bool d t a b un) (.inr ⟨rfl, rfl⟩)
def fsig (f : Field) : Bool × Nat × Nat := (f.name == "_", f.type, f.offset)
inductive EqF (P : Program) (d : Nat) (xs ys : Array Value) : List (Bool × Nat × Nat) → Bool → Prop
 | nil : EqF P d xs ys [] true
 | cons {ty off : Nat} {l : List (Bool × Nat × Nat)} {a b : Value} {r q : Bool} (h1 : pr P (part ty xs off) = some a) (h2 : pr P (part ty ys off) = some b) (h3 : pr P (Op.equalIn d ty a b) = some r) (h4 : EqF P d xs ys l q) : EqF P d xs ys ((false, ty, off) :: l) (r && q)
theorem EqF.run {d : Nat} {xs ys : Array Value} {l : List (Bool × Nat × Nat)} {r : Bool} (h : EqF P d xs ys l r) : ∀ {fs : List Field}, fs.map fsig = l → pr P (Op.eqFields d xs ys fs) = some r := by
 induction h with
 | nil => intro fs hf; cases fs with
  | nil => rfl
  | cons f fs => cases hf
 | cons h1 h2 h3 h4 ih =>
  intro fs hf
  cases fs with
  | nil => cases hf
  | cons f fs =>
   simp only [List.map_cons, List.cons.injEq, fsig, Prod.mk.injEq] at hf
   obtain ⟨⟨e1, rfl, rfl⟩, e2⟩ := hf
   have hn : f.name ≠ "_" := by simpa using e1
   simp only [Op.eqFields, hn, ne_eq, not_false_eq_true, if_true, pr_bind, h1, h2, h3, Option.bind_some, pr_ite, ih e2, pr_pure]
   split <;> simp_all
theorem eq_struct {d : Nat} {xs ys : Array Value} {l : List (Bool × Nat × Nat)} {r : Bool} (hu : P.underlying t = some (.struct (P.fieldsOf t))) (hf : (P.fieldsOf t).toList.map fsig = l) (hp : P.stoodInHeld t = false) (h : EqF P d xs ys l r) : pr P (Op.equalIn (d + 1) t (.agg xs) (.agg ys)) = some r := by
 rw [pr_struct d t xs ys hu hp, h.run hf]
theorem eq_str {d : Nat} (h : P.underlying t = some .string) (a b : List UInt8) : pr P (Op.equalIn (d + 1) t (.string ⟨a.toArray⟩) (.string ⟨b.toArray⟩)) = some (a == b) := by rw [pr_eq_str d t _ _ h, ba_toList, ba_toList]
theorem eq_bool {d : Nat} (h : P.underlying t = some .bool) (a b : Bool) : pr P (Op.equalIn (d + 1) t (.bool a) (.bool b)) = some (a == b) := pr_eq_bool d t a b h
theorem eq_i64 {d : Nat} (h : P.underlying t = some (.int .i64)) (a b : Int) : pr P (Op.equalIn (d + 1) t (.int .i64 a) (.int .i64 b)) = some (a == b) := pr_eq_int d t _ _ a b h
theorem eq_u64 {d : Nat} (h : P.underlying t = some (.int .u64)) (a b : UInt64) : pr P (Op.equalIn (d + 1) t (.int .u64 a.toNat) (.int .u64 b.toNat)) = some (a == b) := by
 rw [pr_eq_int d t _ _ _ _ h]; congr 1; rw [Bool.eq_iff_iff]; simp only [beq_iff_eq, ← UInt64.toNat_inj]; omega
theorem pr_isAgg' {g : Bool} (h : tagg P t = some g) : pr P (isAgg t) = some g := by
 unfold tagg at h
 split at h
 ·rename_i hu; cases h; simp [isAgg, pr_bind, pr_underlying hu, pr_pure]
 ·rename_i hu; cases h; simp [isAgg, pr_bind, pr_underlying hu, pr_pure]
 ·rename_i d h1 h2 hu
  cases h
  simp only [isAgg, pr_bind, pr_underlying hu, Option.bind_some]
  all_goals (cases d <;> first | rfl | exact absurd rfl (h1 _) | exact absurd rfl (h2 _ _))
 ·cases h
theorem part1 {cs : Array Value} {off : Nat} {v : Value} (h : tagg P t = some false) (hv : cs[off]? = some v) : pr P (part t cs off) = some v := by
 simp only [part, pr_bind, pr_isAgg' h, Option.bind_some, Bool.false_eq_true, if_false, hv, pr_pure]
theorem partA {cs ds : Array Value} {off s : Nat} (h : tagg P t = some true) (hs : tsize P t = some s) (hv : cs.extract off (off + s) = ds) : pr P (part t cs off) = some (.agg ds) := by
 have h2 : pr P (Go.sizeOf t) = some s := by
  unfold tsize at hs
  split at hs
  ·rename_i i hi
   cases hs
   unfold Go.sizeOf
   simp [typeInfo, pr_bind, pr_program, hi, pr_pure]
  ·cases hs
 simp only [part, pr_bind, pr_isAgg' h, Option.bind_some, if_true, h2, hv, pr_pure]
end
section
variable {P : Program}
end
section
variable {P : Program} {m n : Nat} {e : En} {σ σ1 : List Ob} {s : St} {fn : Func} {r : AV} {rs : List AV}
inductive LRes (P : Program) (n : Nat) (e : En) (σ : List Ob) : List ResultVar → List AV → Prop
 | nil : LRes P n e σ [] []
 | tmp {t : Tmp} {v : AV} {l : List ResultVar} {vs : List AV} (h : lo n e (.tmp t) = some v) (k : LRes P n e σ l vs) : LRes P n e σ (.tmp t :: l) (v :: vs)
 | cell {a : Tmp} {t : TypeId} {p v : AV} {l : List ResultVar} {vs : List AV} (h : lo n e (.tmp a) = some p) (hl : aload P σ t p = some v) (k : LRes P n e σ l vs) : LRes P n e σ (.cell a t :: l) (v :: vs)
theorem lresN : LRes P n e σ [] [] := .nil
theorem lresT {t : Tmp} {v : AV} {l : List ResultVar} {vs : List AV} (h : lo n e (.tmp t) = some v) (k : LRes P n e σ l vs) : LRes P n e σ (.tmp t :: l) (v :: vs) := .tmp h k
theorem lresC {a : Tmp} {t : TypeId} {p v : AV} {l : List ResultVar} {vs : List AV} (h : lo n e (.tmp a) = some p) (hl : aload P σ t p = some v) (k : LRes P n e σ l vs) : LRes P n e σ (.cell a t :: l) (v :: vs) := .cell h hl k
theorem LRes.res {l : List ResultVar} (h : LRes P n e σ l rs) : resultsOf P ⟨mk n e, σ⟩ l = some rs := by
 induction h with
 | nil => rfl
 | tmp h k ih =>
  have h' := lo_opd h
  simp only [opd] at h'
  simp only [resultsOf, h', ih]
 | cell h hl k ih =>
  have h' := lo_opd h
  simp only [opd] at h'
  simp only [resultsOf, h', hl, ih]
theorem finR (hk : Wk m s ⟨mk n e, σ1⟩) (hr : LRes P n e σ1 fn.results.toList rs) (ho : oneOr rs = r) : ∃ s1, Wk m s s1 ∧ Fin P fn r σ1 .ret s1 := ⟨_, hk, .inr rfl, rs, hr.res, ho, rfl⟩
theorem finN (hk : Wk m s ⟨mk n e, σ1⟩) (hr : LRes P n e σ1 fn.results.toList rs) (ho : oneOr rs = r) : ∃ s1, Wk m s s1 ∧ Fin P fn r σ1 .normal s1 := ⟨_, hk, .inl rfl, rs, hr.res, ho, rfl⟩
theorem frz_full {α : Type} {f : α → D} {id sz len : Nat} {xs : List α} {wr : Bool} (hl : len = xs.length) (h : σ[id]? = some (.row sz (xs.map f) wr)) {cap : Option Nat} : Lv.frz σ (.slc id sz 0 len cap) = some (eL sz f xs, σ.set id (.row sz (xs.map f) false)) := by
 subst hl
 simp only [Lv.frz, h, List.length_map, Nat.zero_add, Nat.le_refl, and_self, if_true, List.drop_zero]
 rw [List.take_of_length_le (by simp)]
theorem frzs_nil : Lv.frzs σ [] = some ([], σ) := rfl
theorem frzs_d {x : D} {l : List AV} {ys : List D} (h : x.isAgg = false) (k : Lv.frzs σ l = some (ys, σ1)) : Lv.frzs σ (.d x :: l) = some (x :: ys, σ1) := by
 simp only [Lv.frzs, Lv.frz, h, Bool.false_eq_true, if_false, k]
theorem frzs_slc {x : AV} {y : D} {σ2 : List Ob} {l : List AV} {ys : List D} (h : Lv.frz σ x = some (y, σ1)) (k : Lv.frzs σ1 l = some (ys, σ2)) : Lv.frzs σ (x :: l) = some (y :: ys, σ2) := by
 simp only [Lv.frzs, h, k]
end
end Lv
