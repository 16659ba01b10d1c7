/- Operations, one by one. -/
import Derived.Test.YtddopjhkmkoicaaGreatDoorGwEnv
/- Operations, one by one. -/
namespace Lv
open Go
set_option linter.unusedVariables false
set_option linter.unusedSimpArgs false
set_option linter.unusedSectionVars false
variable [BaseTab]
def AV.isUndef : AV → Bool
 | .undef => true
 | _ => false
theorem optOf_lo {n : Nat} {e : En} {x : Option Operand} {v : Option AV} (h : (match x with | none => some none | some y => match lo n e y with | some v => some (some v) | none => none) = some v) : optOf (mk n e) x = some v := by
 cases x with
 | none => exact h
 | some y =>
  simp only at h
  split at h
  ·rename_i v' hv; simp only [optOf, lo_opd hv]; exact h
  ·cases h
def loo (n : Nat) (e : En) : Option Operand → Option (Option AV)
 | none => some none
 | some y => match lo n e y with
  | some v => some (some v)
  | none => none
theorem loo_opt {n : Nat} {e : En} {x : Option Operand} {v : Option AV} (h : loo n e x = some v) : optOf (mk n e) x = some v := optOf_lo (by cases x <;> exact h)
section
variable {P : Program} {o : Oper} {n : Nat} {e : En} {σ σ' : List Ob} {v a b c : AV} {t : TypeId} {x y : Operand}
theorem A_move (ho : o.op = .move x) (hx : lo n e x = some v) : ∀ call, aop P call (mk n e) σ o = some (v, σ) := by
 intro call; simp only [aop, ho, lo_opd hx]
theorem A_assign (ho : o.op = .assign x) (hx : lo n e x = some v) : ∀ call, aop P call (mk n e) σ o = some (v, σ) := by
 intro call; simp only [aop, ho, lo_opd hx]
theorem A_pickT {z : Operand} (ho : o.op = .pick z x y) (hz : lo n e z = some (.d (.bool true))) (hx : lo n e x = some v) : ∀ call, aop P call (mk n e) σ o = some (v, σ) := by
 intro call; simp only [aop, ho, lo_opd hz, if_true, lo_opd hx]
theorem A_pickF {z : Operand} (ho : o.op = .pick z x y) (hz : lo n e z = some (.d (.bool false))) (hy : lo n e y = some v) : ∀ call, aop P call (mk n e) σ o = some (v, σ) := by
 intro call; simp only [aop, ho, lo_opd hz, Bool.false_eq_true, if_false, lo_opd hy]
theorem A_alloc {k : Nat} {z : D} (ho : o.op = .alloc t) (hz : zeroOf P t = some z) (hk : σ.length = k) (hσ : σ ++ [.box (.d z)] = σ') : ∀ call, aop P call (mk n e) σ o = some (.ref k 0 0, σ') := by
 intro call; simp only [aop, ho, hz, hk, hσ]
theorem A_box {k : Nat} (ho : o.op = .box t x) (hx : lo n e x = some v) (hv : v.isUndef = false) (hk : σ.length = k) (hσ : σ ++ [.box v] = σ') : ∀ call, aop P call (mk n e) σ o = some (.ref k 0 0, σ') := by
 intro call
 simp only [aop, ho, lo_opd hx]
 cases v <;> first | (simp [AV.isUndef] at hv; done) | simp [hk, hσ]
theorem A_build {ps : Array (Nat × Operand)} {parts : List (Nat × AV)} (ho : o.op = .build t ps) (hp : lops n e ps.toList = some parts) (hb : abuild P t parts = some v) : ∀ call, aop P call (mk n e) σ o = some (v, σ) := by
 intro call; simp only [aop, ho, lops_parts hp, hb]
theorem A_buildSlice {len : Nat} {ps : Array (Nat × Operand)} {parts : List (Nat × AV)} (ho : o.op = .buildSlice t len ps) (hp : lops n e ps.toList = some parts) (hb : abuildSlice P σ t len parts = some (v, σ')) : ∀ call, aop P call (mk n e) σ o = some (v, σ') := by
 intro call; simp only [aop, ho, lops_parts hp, hb]
theorem A_load (ho : o.op = .load t x) (hx : lo n e x = some a) (hl : aload P σ t a = some v) : ∀ call, aop P call (mk n e) σ o = some (v, σ) := by
 intro call; simp only [aop, ho, lo_opd hx, hl]
theorem A_store (ho : o.op = .store t x y) (hx : lo n e x = some a) (hy : lo n e y = some b) (hs : astore P σ t a b = some σ') : ∀ call, aop P call (mk n e) σ o = some (.tuple [], σ') := by
 intro call; simp only [aop, ho, lo_opd hx, lo_opd hy, hs]
theorem A_nilRef {id idx off : Nat} (ho : o.op = .nilCheck x) (hx : lo n e x = some (.ref id idx off)) : ∀ call, aop P call (mk n e) σ o = some (.ref id idx off, σ) := by
 intro call; simp only [aop, ho, lo_opd hx]
theorem A_bin {op : BinOp} {t' : TypeId} (ho : o.op = .binOp op t x y t') (hx : lo n e x = some a) (hy : lo n e y = some b) (hb : ∀ X Y, abinOp P op t X Y a b = some v) : ∀ call, aop P call (mk n e) σ o = some (v, σ) := by
 intro call; simp only [aop, ho, lo_opd hx, lo_opd hy, hb]
theorem A_un {op : UnOp} {w : Value} (ho : o.op = .unOp op t x) (hx : lo n e x = some a) (hw : a.val = some w) (hb : byPr P (Op.unary op w) = some v) : ∀ call, aop P call (mk n e) σ o = some (v, σ) := by
 intro call; simp only [aop, ho, lo_opd hx, hw, hb]
theorem A_conv {t' : TypeId} (ho : o.op = .convert t t' x) (hx : lo n e x = some a) (hb : aconvert P σ t t' a = some (v, σ')) : ∀ call, aop P call (mk n e) σ o = some (v, σ') := by
 intro call; simp only [aop, ho, lo_opd hx, hb]
theorem A_fieldAddr {f : Nat} (ho : o.op = .fieldAddr t x f) (hx : lo n e x = some a) (hb : afieldAddr P t f a = some v) : ∀ call, aop P call (mk n e) σ o = some (v, σ) := by
 intro call; simp only [aop, ho, lo_opd hx, hb]
theorem A_field {f : Nat} (ho : o.op = .field t x f) (hx : lo n e x = some a) (hb : afield P t f a = some v) : ∀ call, aop P call (mk n e) σ o = some (v, σ) := by
 intro call; simp only [aop, ho, lo_opd hx, hb]
theorem A_indexAddr (ho : o.op = .indexAddr t x y) (hx : lo n e x = some a) (hy : lo n e y = some b) (hb : aindexAddr P t a b = some v) : ∀ call, aop P call (mk n e) σ o = some (v, σ) := by
 intro call; simp only [aop, ho, lo_opd hx, lo_opd hy, hb]
theorem A_index {u w : Value} (ho : o.op = .index t x y) (hx : lo n e x = some a) (hy : lo n e y = some b) (hu : a.val = some u) (hw : b.val = some w) (hb : byPr P (Instr.index t u w) = some v) : ∀ call, aop P call (mk n e) σ o = some (v, σ) := by
 intro call; simp only [aop, ho, lo_opd hx, lo_opd hy, hu, hw, hb]
theorem A_slice {lo' hi' mx' : Option Operand} {l h k : Option AV} (ho : o.op = .slice t x lo' hi' mx') (hx : lo n e x = some a) (hl : loo n e lo' = some l) (hh : loo n e hi' = some h) (hm : loo n e mx' = some k) (hb : aslice P t a l h k = some v) : ∀ call, aop P call (mk n e) σ o = some (v, σ) := by
 intro call; simp only [aop, ho, lo_opd hx, loo_opt hl, loo_opt hh, loo_opt hm, hb]
theorem A_makeSlice (ho : o.op = .makeSlice t x y) (hx : lo n e x = some a) (hy : lo n e y = some b) (hb : amakeSlice P σ t a b = some (v, σ')) : ∀ call, aop P call (mk n e) σ o = some (v, σ') := by
 intro call; simp only [aop, ho, lo_opd hx, lo_opd hy, hb]
theorem A_makeFunc {f : Fn} {first caps : Array Operand} {xs ys : List AV} (ho : o.op = .makeFunc f first caps) (hx : los n e first.toList = some xs) (hy : los n e caps.toList = some ys) : ∀ call, aop P call (mk n e) σ o = some (.fn f xs ys, σ) := by
 intro call; simp only [aop, ho, los_opds hx, los_opds hy]
theorem A_extract {i : Nat} {vs : List AV} (ho : o.op = .extract x i) (hx : lo n e x = some (.tuple vs)) (hv : vs[i]? = some v) : ∀ call, aop P call (mk n e) σ o = some (v, σ) := by
 intro call; simp only [aop, ho, lo_opd hx, hv]
theorem A_len {cl : Call} (ho : o.op = .call cl) (hb : cl.callee = .builtin .len) (ht : cl.argTypes[0]? = some t) (hx : los n e cl.args.toList = some [a]) (hl : alen P t a = some v) : ∀ call, aop P call (mk n e) σ o = some (v, σ) := by
 intro call; simp only [aop, ho, los_opds hx, hb, acall, ht, hl]
theorem A_append {cl : Call} {t2 : TypeId} (ho : o.op = .call cl) (hb : cl.callee = .builtin .append) (ht : cl.argTypes[0]? = some t) (ht2 : cl.argTypes[1]? = some t2) (hx : los n e cl.args.toList = some [a, b]) (hn : byCount P t2 = false) (hl : aappend P σ t a b = some (v, σ')) : ∀ call, aop P call (mk n e) σ o = some (v, σ') := by
 intro call; simp only [aop, ho, los_opds hx, hb, acall, ht, ht2, hn, Bool.false_eq_true, if_false, hl]
end
abbrev eI (n : Int) : D := .int .i64 n
abbrev eU8 (x : UInt8) : D := .int .u8 (x.toNat : Int)
abbrev eU16 (x : UInt16) : D := .int .u16 (x.toNat : Int)
abbrev eU32 (x : UInt32) : D := .int .u32 (x.toNat : Int)
abbrev eU64 (x : UInt64) : D := .int .u64 (x.toNat : Int)
abbrev eB (b : Bool) : D := .bool b
abbrev eS (s : List UInt8) : D := .str ⟨s.toArray⟩
abbrev w64 (n : Int) : Int := IntKind.i64.wrap n
section
variable {P : Program} {σ : List Ob} {t : TypeId} {s : Nat} {g : Bool}
theorem ld_box {id off : Nat} {x v : AV} (hs : tsize P t = some s) (hg : tagg P t = some g) (ho : σ[id]? = some (.box x)) (hv : ofCells g s ((x.cells.drop off).take s) = some v) : aload P σ t (.ref id 0 off) = some v := by
 simp only [aload, hs, hg, ho, if_true, hv]
theorem ld_row {id idx sz : Nat} {xs : List D} {wr : Bool} {x : D} {v : AV} (hs : tsize P t = some s) (hg : tagg P t = some g) (ho : σ[id]? = some (.row sz xs wr)) (hx : xs[idx]? = some x) {off : Nat} (hv : ofCells g s (((x.cells.map AV.d).drop off).take s) = some v) : aload P σ t (.ref id idx off) = some v := by
 simp only [aload, hs, hg, ho, hx, hv]
theorem ld_rop {cs : List D} {v : AV} (hs : tsize P t = some s) (hg : tagg P t = some g) (hv : ofCells g s ((cs.map AV.d).take s) = some v) : aload P σ t (.rop cs) = some v := by
 simp only [aload, hs, hg, hv]
theorem map_get {α : Type} {f : α → D} {xs : List α} {i : Nat} {x : α} (h : xs[i]? = some x) : (xs.map f)[i]? = some (f x) := by simp [h]
def FO (P : Program) (t : TypeId) (f : Nat) (ty off : Nat) : Prop := (fieldOf P t f).map (fun d => (d.type, d.offset)) = some (ty, off)
theorem FO.get {f ty off : Nat} (h : FO P t f ty off) : ∃ fd, fieldOf P t f = some fd ∧ fd.type = ty ∧ fd.offset = off := by
 unfold FO at h
 cases hf : fieldOf P t f with
 | none => rw [hf] at h; cases h
 | some d => rw [hf] at h; simp at h; exact ⟨d, rfl, h.1, h.2⟩
theorem fa_ref {id idx off f ty fo : Nat} (hf : FO P t f ty fo) (hs : tsize P ty = some (s + 1)) {k : Nat} (hk : off + fo = k) : afieldAddr P t f (.ref id idx off) = some (.ref id idx k) := by
 obtain ⟨fd, h1, rfl, rfl⟩ := hf.get
 simp only [afieldAddr, h1, hs, hk]; rfl
theorem fa_rop {f ty fo : Nat} {cs ds : List D} (hf : FO P t f ty fo) (hs : tsize P ty = some (s + 1)) (hd : cs.drop fo = ds) : afieldAddr P t f (.rop cs) = some (.rop ds) := by
 obtain ⟨fd, h1, rfl, rfl⟩ := hf.get
 simp only [afieldAddr, h1, hs, hd]; rfl
theorem fd_agg {f ty fo : Nat} {x v : AV} (hf : FO P t f ty fo) (hs : tsize P ty = some s) (hg : tagg P ty = some g) (hx : x.isAgg = true) (hv : ofCells g s ((x.cells.drop fo).take s) = some v) : afield P t f x = some v := by
 obtain ⟨fd, h1, rfl, rfl⟩ := hf.get
 simp only [afield, h1, hs, hg, hx, if_true, hv]
theorem ia_slc {el : TypeId} {id off len : Nat} {cap : Option Nat} {i : Int} (hu : P.underlying t = some (.slice el)) (hs : tsize P el = some s) (hi : 0 ≤ i ∧ i < (len : Int)) : aindexAddr P t (.slc id s off len cap) (.d (eI i)) = some (.ref id (off + i.toNat) 0) := by
 simp only [aindexAddr, hu, hs, hi.1, hi.2, and_self, if_true]
theorem ia_lst {el : TypeId} {xs : List D} {i : Int} {y : D} (hu : P.underlying t = some (.slice el)) (hs : tsize P el = some s) (hi : 0 ≤ i) (hy : xs[i.toNat]? = some y) : aindexAddr P t (.d (.lst s xs)) (.d (eI i)) = some (.rop y.cells) := by
 simp only [aindexAddr, hu, hs, hi, and_self, if_true, hy]
theorem len_slc {el : TypeId} {id sz off len : Nat} {cap : Option Nat} (hu : P.underlying t = some (.slice el)) : alen P t (.slc id sz off len cap) = some (.d (eI len)) := by simp only [alen, hu]
theorem len_lst {el : TypeId} {sz : Nat} {α : Type} {f : α → D} {xs : List α} (hu : P.underlying t = some (.slice el)) : alen P t (.d (.lst sz (xs.map f))) = some (.d (eI xs.length)) := by simp only [alen, hu, List.length_map]
theorem len_str {s : List UInt8} (hu : P.underlying t = some .string) : alen P t (.d (eS s)) = some (.d (eI s.length)) := by simp only [alen, hu]; rfl
end
end Lv
