/- Operations, one by one. -/
import Derived.Test.YtddopjhkmkoicaaGreatDoorGwEnv
/- Operations, one by one. -/
namespace Lv
open Go
set_option linter.unusedVariables false
set_option linter.unusedSimpArgs false
set_option linter.unusedSectionVars false
variable [BaseTab]
def AV.KH : AV → Bool
 | .undef => true
 | _ => false
theorem UU {n : Nat} {e : En} {x : Option Operand} {v : Option AV} (h : (match x with | none => some none | some y => match lo n e y with | some v => some (some v) | none => none) = some v) : vM (mk n e) x = some v := by
 cases x with
 | none => exact h
 | some y =>
  simp only at h
  split at h
  ·rename_i v' hv; simp only [vM, dO hv]; exact h
  ·cases h
def loo (n : Nat) (e : En) : Option Operand → Option (Option AV)
 | none => some none
 | some y => match lo n e y with
  | some v => some (some v)
  | none => none
theorem KD {n : Nat} {e : En} {x : Option Operand} {v : Option AV} (h : loo n e x = some v) : vM (mk n e) x = some v := UU (by cases x <;> exact h)
section
variable {P : Program} {o : Oper} {n : Nat} {e : En} {σ σ' : List Ob} {v a b c : AV} {t : TypeId} {x y : Operand}
theorem ac9 (ho : o.op = .move x) (hx : lo n e x = some v) : ∀ call, kH P call (mk n e) σ o = some (v, σ) := by
 intro call; simp only [kH, ho, dO hx]
theorem Wx (ho : o.op = .assign x) (hx : lo n e x = some v) : ∀ call, kH P call (mk n e) σ o = some (v, σ) := by
 intro call; simp only [kH, ho, dO hx]
theorem Yq {z : Operand} (ho : o.op = .pick z x y) (hz : lo n e z = some (.d (.bool true))) (hx : lo n e x = some v) : ∀ call, kH P call (mk n e) σ o = some (v, σ) := by
 intro call; simp only [kH, ho, dO hz, if_true, dO hx]
theorem Yr {z : Operand} (ho : o.op = .pick z x y) (hz : lo n e z = some (.d (.bool false))) (hy : lo n e y = some v) : ∀ call, kH P call (mk n e) σ o = some (v, σ) := by
 intro call; simp only [kH, ho, dO hz, Bool.false_eq_true, if_false, dO hy]
theorem Yw {k : Nat} {z : D} (ho : o.op = .alloc t) (hz : zeroOf P t = some z) (hk : σ.length = k) (hσ : σ ++ [.box (.d z)] = σ') : ∀ call, kH P call (mk n e) σ o = some (.ref k 0 0, σ') := by
 intro call; simp only [kH, ho, hz, hk, hσ]
theorem aiC {k : Nat} (ho : o.op = .box t x) (hx : lo n e x = some v) (hv : v.KH = false) (hk : σ.length = k) (hσ : σ ++ [.box v] = σ') : ∀ call, kH P call (mk n e) σ o = some (.ref k 0 0, σ') := by
 intro call
 simp only [kH, ho, dO hx]
 cases v <;> first | (simp [AV.KH] at hv; done) | simp [hk, hσ]
theorem Yv {ps : Array (Nat × Operand)} {parts : List (Nat × AV)} (ho : o.op = .build t ps) (hp : OT n e ps.toList = some parts) (hb : eX P t parts = some v) : ∀ call, kH P call (mk n e) σ o = some (v, σ) := by
 intro call; simp only [kH, ho, Ar hp, hb]
theorem Lh {len : Nat} {ps : Array (Nat × Operand)} {parts : List (Nat × AV)} (ho : o.op = .buildSlice t len ps) (hp : OT n e ps.toList = some parts) (hb : iX P σ t len parts = some (v, σ')) : ∀ call, kH P call (mk n e) σ o = some (v, σ') := by
 intro call; simp only [kH, ho, Ar hp, hb]
theorem ada (ho : o.op = .load t x) (hx : lo n e x = some a) (hl : oJ P σ t a = some v) : ∀ call, kH P call (mk n e) σ o = some (v, σ) := by
 intro call; simp only [kH, ho, dO hx, hl]
theorem Yo (ho : o.op = .store t x y) (hx : lo n e x = some a) (hy : lo n e y = some b) (hs : jQ P σ t a b = some σ') : ∀ call, kH P call (mk n e) σ o = some (.tuple [], σ') := by
 intro call; simp only [kH, ho, dO hx, dO hy, hs]
theorem Wv {id idx off : Nat} (ho : o.op = .nilCheck x) (hx : lo n e x = some (.ref id idx off)) : ∀ call, kH P call (mk n e) σ o = some (.ref id idx off, σ) := by
 intro call; simp only [kH, ho, dO hx]
theorem aiD {op : BinOp} {t' : TypeId} (ho : o.op = .binOp op t x y t') (hx : lo n e x = some a) (hy : lo n e y = some b) (hb : ∀ X Y, bC P op t X Y a b = some v) : ∀ call, kH P call (mk n e) σ o = some (v, σ) := by
 intro call; simp only [kH, ho, dO hx, dO hy, hb]
theorem aiA {op : UnOp} {w : Value} (ho : o.op = .unOp op t x) (hx : lo n e x = some a) (hw : a.val = some w) (hb : vY P (Op.unary op w) = some v) : ∀ call, kH P call (mk n e) σ o = some (v, σ) := by
 intro call; simp only [kH, ho, dO hx, hw, hb]
theorem Ww {t' : TypeId} (ho : o.op = .convert t t' x) (hx : lo n e x = some a) (hb : dR P σ t t' a = some (v, σ')) : ∀ call, kH P call (mk n e) σ o = some (v, σ') := by
 intro call; simp only [kH, ho, dO hx, hb]
theorem EJ {f : Nat} (ho : o.op = .fieldAddr t x f) (hx : lo n e x = some a) (hb : kT P t f a = some v) : ∀ call, kH P call (mk n e) σ o = some (v, σ) := by
 intro call; simp only [kH, ho, dO hx, hb]
theorem Yu {f : Nat} (ho : o.op = .field t x f) (hx : lo n e x = some a) (hb : D9 P t f a = some v) : ∀ call, kH P call (mk n e) σ o = some (v, σ) := by
 intro call; simp only [kH, ho, dO hx, hb]
theorem y8 (ho : o.op = .indexAddr t x y) (hx : lo n e x = some a) (hy : lo n e y = some b) (hb : kS P t a b = some v) : ∀ call, kH P call (mk n e) σ o = some (v, σ) := by
 intro call; simp only [kH, ho, dO hx, dO hy, hb]
theorem Yt {u w : Value} (ho : o.op = .index t x y) (hx : lo n e x = some a) (hy : lo n e y = some b) (hu : a.val = some u) (hw : b.val = some w) (hb : vY P (Instr.index t u w) = some v) : ∀ call, kH P call (mk n e) σ o = some (v, σ) := by
 intro call; simp only [kH, ho, dO hx, dO hy, hu, hw, hb]
theorem Yp {lo' hi' mx' : Option Operand} {l h k : Option AV} (ho : o.op = .slice t x lo' hi' mx') (hx : lo n e x = some a) (hl : loo n e lo' = some l) (hh : loo n e hi' = some h) (hm : loo n e mx' = some k) (hb : aslice P t a l h k = some v) : ∀ call, kH P call (mk n e) σ o = some (v, σ) := by
 intro call; simp only [kH, ho, dO hx, KD hl, KD hh, KD hm, hb]
theorem NU (ho : o.op = .makeSlice t x y) (hx : lo n e x = some a) (hy : lo n e y = some b) (hb : iM P σ t a b = some (v, σ')) : ∀ call, kH P call (mk n e) σ o = some (v, σ') := by
 intro call; simp only [kH, ho, dO hx, dO hy, hb]
theorem P5 {f : Fn} {first caps : Array Operand} {xs ys : List AV} (ho : o.op = .makeFunc f first caps) (hx : los n e first.toList = some xs) (hy : los n e caps.toList = some ys) : ∀ call, kH P call (mk n e) σ o = some (.fn f xs ys, σ) := by
 intro call; simp only [kH, ho, mH hx, mH hy]
theorem SQ {i : Nat} {vs : List AV} (ho : o.op = .extract x i) (hx : lo n e x = some (.tuple vs)) (hv : vs[i]? = some v) : ∀ call, kH P call (mk n e) σ o = some (v, σ) := by
 intro call; simp only [kH, ho, dO hx, hv]
theorem aiB {cl : Call} (ho : o.op = .call cl) (hb : cl.callee = .builtin .len) (ht : cl.argTypes[0]? = some t) (hx : los n e cl.args.toList = some [a]) (hl : D6 P t a = some v) : ∀ call, kH P call (mk n e) σ o = some (v, σ) := by
 intro call; simp only [kH, ho, mH hx, hb, ow, ht, hl]
theorem Wy {cl : Call} {t2 : TypeId} (ho : o.op = .call cl) (hb : cl.callee = .builtin .append) (ht : cl.argTypes[0]? = some t) (ht2 : cl.argTypes[1]? = some t2) (hx : los n e cl.args.toList = some [a, b]) (hn : iW P t2 = false) (hl : jk P σ t a b = some (v, σ')) : ∀ call, kH P call (mk n e) σ o = some (v, σ') := by
 intro call; simp only [kH, ho, mH hx, hb, ow, ht, ht2, hn, Bool.false_eq_true, if_false, hl]
end
abbrev eI (n : Int) : D := .int .i64 n
abbrev bR (x : UInt8) : D := .int .u8 (x.toNat : Int)
abbrev Pp (x : UInt16) : D := .int .u16 (x.toNat : Int)
abbrev RG (x : UInt32) : D := .int .u32 (x.toNat : Int)
abbrev eU64 (x : UInt64) : D := .int .u64 (x.toNat : Int)
abbrev eB (b : Bool) : D := .bool b
abbrev eS (s : List UInt8) : D := .str ⟨s.toArray⟩
abbrev bD (n : Int) : Int := IntKind.i64.wrap n
section
variable {P : Program} {σ : List Ob} {t : TypeId} {s : Nat} {g : Bool}
theorem aj {id off : Nat} {x v : AV} (hs : bU P t = some s) (hg : iH P t = some g) (ho : σ[id]? = some (.box x)) (hv : mK g s ((x.cells.drop off).take s) = some v) : oJ P σ t (.ref id 0 off) = some v := by
 simp only [oJ, hs, hg, ho, if_true, hv]
theorem gH {id idx sz : Nat} {xs : List D} {wr : Bool} {x : D} {v : AV} (hs : bU P t = some s) (hg : iH P t = some g) (ho : σ[id]? = some (.row sz xs wr)) (hx : xs[idx]? = some x) {off : Nat} (hv : mK g s (((x.cells.map AV.d).drop off).take s) = some v) : oJ P σ t (.ref id idx off) = some v := by
 simp only [oJ, hs, hg, ho, hx, hv]
theorem bK {cs : List D} {v : AV} (hs : bU P t = some s) (hg : iH P t = some g) (hv : mK g s ((cs.map AV.d).take s) = some v) : oJ P σ t (.rop cs) = some v := by
 simp only [oJ, hs, hg, hv]
theorem aT {α : Type} {f : α → D} {xs : List α} {i : Nat} {x : α} (h : xs[i]? = some x) : (xs.map f)[i]? = some (f x) := by simp [h]
def FO (P : Program) (t : TypeId) (f : Nat) (ty off : Nat) : Prop := (q8 P t f).map (fun d => (d.type, d.offset)) = some (ty, off)
theorem FO.get {f ty off : Nat} (h : FO P t f ty off) : ∃ fd, q8 P t f = some fd ∧ fd.type = ty ∧ fd.offset = off := by
 unfold FO at h
 cases hf : q8 P t f with
 | none => rw [hf] at h; cases h
 | some d => rw [hf] at h; simp at h; exact ⟨d, rfl, h.1, h.2⟩
theorem acD {id idx off f ty fo : Nat} (hf : FO P t f ty fo) (hs : bU P ty = some (s + 1)) {k : Nat} (hk : off + fo = k) : kT P t f (.ref id idx off) = some (.ref id idx k) := by
 obtain ⟨fd, h1, rfl, rfl⟩ := hf.get
 simp only [kT, h1, hs, hk]; rfl
theorem acC {f ty fo : Nat} {cs ds : List D} (hf : FO P t f ty fo) (hs : bU P ty = some (s + 1)) (hd : cs.drop fo = ds) : kT P t f (.rop cs) = some (.rop ds) := by
 obtain ⟨fd, h1, rfl, rfl⟩ := hf.get
 simp only [kT, h1, hs, hd]; rfl
theorem acB {f ty fo : Nat} {x v : AV} (hf : FO P t f ty fo) (hs : bU P ty = some s) (hg : iH P ty = some g) (hx : x.isAgg = true) (hv : mK g s ((x.cells.drop fo).take s) = some v) : D9 P t f x = some v := by
 obtain ⟨fd, h1, rfl, rfl⟩ := hf.get
 simp only [D9, h1, hs, hg, hx, if_true, hv]
theorem U3 {el : TypeId} {id off len : Nat} {cap : Option Nat} {i : Int} (hu : P.underlying t = some (.slice el)) (hs : bU P el = some s) (hi : 0 ≤ i ∧ i < (len : Int)) : kS P t (.slc id s off len cap) (.d (eI i)) = some (.ref id (off + i.toNat) 0) := by
 simp only [kS, hu, hs, hi.1, hi.2, and_self, if_true]
theorem abC {el : TypeId} {xs : List D} {i : Int} {y : D} (hu : P.underlying t = some (.slice el)) (hs : bU P el = some s) (hi : 0 ≤ i) (hy : xs[i.toNat]? = some y) : kS P t (.d (.xI s xs)) (.d (eI i)) = some (.rop y.cells) := by
 simp only [kS, hu, hs, hi, and_self, if_true, hy]
theorem dS {el : TypeId} {id sz off len : Nat} {cap : Option Nat} (hu : P.underlying t = some (.slice el)) : D6 P t (.slc id sz off len cap) = some (.d (eI len)) := by simp only [D6, hu]
theorem aZ {el : TypeId} {sz : Nat} {α : Type} {f : α → D} {xs : List α} (hu : P.underlying t = some (.slice el)) : D6 P t (.d (.xI sz (xs.map f))) = some (.d (eI xs.length)) := by simp only [D6, hu, List.length_map]
theorem len_nil {el : TypeId} (hu : P.underlying t = some (.slice el)) : D6 P t (.d .aA) = some (.d (eI 0)) := by simp only [D6, hu]
theorem fK {s : List UInt8} (hu : P.underlying t = some .string) : D6 P t (.d (eS s)) = some (.d (eI s.length)) := by simp only [D6, hu]; rfl
end
end Lv
