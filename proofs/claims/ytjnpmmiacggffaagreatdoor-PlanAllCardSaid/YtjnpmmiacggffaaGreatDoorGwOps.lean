/- Operations, one by one. -/
import Derived.Test.YtjnpmmiacggffaaGreatDoorGwEnv
/- Operations, one by one. -/
namespace Lv
open Go
set_option linter.unusedVariables false
set_option linter.unusedSimpArgs false
set_option linter.unusedSectionVars false
variable [bJ]
def AV.Np : AV → Bool
 | .undef => true
 | _ => false
theorem Wt {n : Nat} {e : En} {x : Option Operand} {v : Option AV} (h : (match x with | none => some none | some y => match lo n e y with | some v => some (some v) | none => none) = some v) : xw (mk n e) x = some v := by
 cases x with
 | none => exact h
 | some y =>
  simp only at h
  split at h
  ·rename_i v' hv; simp only [xw, dZ hv]; exact h
  ·cases h
def loo (n : Nat) (e : En) : Option Operand → Option (Option AV)
 | none => some none
 | some y => match lo n e y with
  | some v => some (some v)
  | none => none
theorem Nj {n : Nat} {e : En} {x : Option Operand} {v : Option AV} (h : loo n e x = some v) : xw (mk n e) x = some v := Wt (by cases x <;> exact h)
section
variable {P : Program} {o : Oper} {n : Nat} {e : En} {σ σ' : List Ob} {v a b c : AV} {t : TypeId} {x y : Operand}
theorem afX (ho : o.op = .move x) (hx : lo n e x = some v) : ∀ call, lD P call (mk n e) σ o = some (v, σ) := by
 intro call; simp only [lD, ho, dZ hx]
theorem Yv (ho : o.op = .assign x) (hx : lo n e x = some v) : ∀ call, lD P call (mk n e) σ o = some (v, σ) := by
 intro call; simp only [lD, ho, dZ hx]
theorem aai {z : Operand} (ho : o.op = .pick z x y) (hz : lo n e z = some (.d (.bool true))) (hx : lo n e x = some v) : ∀ call, lD P call (mk n e) σ o = some (v, σ) := by
 intro call; simp only [lD, ho, dZ hz, if_true, dZ hx]
theorem aaj {z : Operand} (ho : o.op = .pick z x y) (hz : lo n e z = some (.d (.bool false))) (hy : lo n e y = some v) : ∀ call, lD P call (mk n e) σ o = some (v, σ) := by
 intro call; simp only [lD, ho, dZ hz, Bool.false_eq_true, if_false, dZ hy]
theorem aam {k : Nat} {z : D} (ho : o.op = .alloc t) (hz : zeroOf P t = some z) (hk : σ.length = k) (hσ : σ ++ [.box (.d z)] = σ') : ∀ call, lD P call (mk n e) σ o = some (.ref k 0 0, σ') := by
 intro call; simp only [lD, ho, hz, hk, hσ]
theorem akw {k : Nat} (ho : o.op = .box t x) (hx : lo n e x = some v) (hv : v.Np = false) (hk : σ.length = k) (hσ : σ ++ [.box v] = σ') : ∀ call, lD P call (mk n e) σ o = some (.ref k 0 0, σ') := by
 intro call
 simp only [lD, ho, dZ hx]
 cases v <;> first | (simp [AV.Np] at hv; done) | simp [hk, hσ]
theorem aal {ps : Array (Nat × Operand)} {parts : List (Nat × AV)} (ho : o.op = .build t ps) (hp : Ra n e ps.toList = some parts) (hb : gY P t parts = some v) : ∀ call, lD P call (mk n e) σ o = some (v, σ) := by
 intro call; simp only [lD, ho, Dh hp, hb]
theorem Oo {len : Nat} {ps : Array (Nat × Operand)} {parts : List (Nat × AV)} (ho : o.op = .buildSlice t len ps) (hp : Ra n e ps.toList = some parts) (hb : jG P σ t len parts = some (v, σ')) : ∀ call, lD P call (mk n e) σ o = some (v, σ') := by
 intro call; simp only [lD, ho, Dh hp, hb]
theorem afY (ho : o.op = .load t x) (hx : lo n e x = some a) (hl : qc P σ t a = some v) : ∀ call, lD P call (mk n e) σ o = some (v, σ) := by
 intro call; simp only [lD, ho, dZ hx, hl]
theorem aag (ho : o.op = .store t x y) (hx : lo n e x = some a) (hy : lo n e y = some b) (hs : qK P σ t a b = some σ') : ∀ call, lD P call (mk n e) σ o = some (.tuple [], σ') := by
 intro call; simp only [lD, ho, dZ hx, dZ hy, hs]
theorem Yt {id idx off : Nat} (ho : o.op = .nilCheck x) (hx : lo n e x = some (.ref id idx off)) : ∀ call, lD P call (mk n e) σ o = some (.ref id idx off, σ) := by
 intro call; simp only [lD, ho, dZ hx]
theorem akx {op : BinOp} {t' : TypeId} (ho : o.op = .binOp op t x y t') (hx : lo n e x = some a) (hy : lo n e y = some b) (hb : ∀ X Y, cK P op t X Y a b = some v) : ∀ call, lD P call (mk n e) σ o = some (v, σ) := by
 intro call; simp only [lD, ho, dZ hx, dZ hy, hb]
theorem aks {op : UnOp} {w : Value} (ho : o.op = .unOp op t x) (hx : lo n e x = some a) (hw : a.val = some w) (hb : pq P (Op.unary op w) = some v) : ∀ call, lD P call (mk n e) σ o = some (v, σ) := by
 intro call; simp only [lD, ho, dZ hx, hw, hb]
theorem Yu {t' : TypeId} (ho : o.op = .convert t t' x) (hx : lo n e x = some a) (hb : gG P σ t t' a = some (v, σ')) : ∀ call, lD P call (mk n e) σ o = some (v, σ') := by
 intro call; simp only [lD, ho, dZ hx, hb]
theorem GL {f : Nat} (ho : o.op = .fieldAddr t x f) (hx : lo n e x = some a) (hb : mU P t f a = some v) : ∀ call, lD P call (mk n e) σ o = some (v, σ) := by
 intro call; simp only [lD, ho, dZ hx, hb]
theorem Bg (ho : o.op = .indexAddr t x y) (hx : lo n e x = some a) (hy : lo n e y = some b) (hb : mR P t a b = some v) : ∀ call, lD P call (mk n e) σ o = some (v, σ) := by
 intro call; simp only [lD, ho, dZ hx, dZ hy, hb]
theorem aak {u w : Value} (ho : o.op = .index t x y) (hx : lo n e x = some a) (hy : lo n e y = some b) (hu : a.val = some u) (hw : b.val = some w) (hb : pq P (Instr.index t u w) = some v) : ∀ call, lD P call (mk n e) σ o = some (v, σ) := by
 intro call; simp only [lD, ho, dZ hx, dZ hy, hu, hw, hb]
theorem aah {lo' hi' mx' : Option Operand} {l h k : Option AV} (ho : o.op = .slice t x lo' hi' mx') (hx : lo n e x = some a) (hl : loo n e lo' = some l) (hh : loo n e hi' = some h) (hm : loo n e mx' = some k) (hb : aslice P t a l h k = some v) : ∀ call, lD P call (mk n e) σ o = some (v, σ) := by
 intro call; simp only [lD, ho, dZ hx, Nj hl, Nj hh, Nj hm, hb]
theorem Qs (ho : o.op = .makeSlice t x y) (hx : lo n e x = some a) (hy : lo n e y = some b) (hb : jk P σ t a b = some (v, σ')) : ∀ call, lD P call (mk n e) σ o = some (v, σ') := by
 intro call; simp only [lD, ho, dZ hx, dZ hy, hb]
theorem RP {f : Fn} {first caps : Array Operand} {xs ys : List AV} (ho : o.op = .makeFunc f first caps) (hx : los n e first.toList = some xs) (hy : los n e caps.toList = some ys) : ∀ call, lD P call (mk n e) σ o = some (.fn f xs ys, σ) := by
 intro call; simp only [lD, ho, lu hx, lu hy]
theorem U9 {i : Nat} {vs : List AV} (ho : o.op = .extract x i) (hx : lo n e x = some (.tuple vs)) (hv : vs[i]? = some v) : ∀ call, lD P call (mk n e) σ o = some (v, σ) := by
 intro call; simp only [lD, ho, dZ hx, hv]
theorem akv {cl : Call} (ho : o.op = .call cl) (hb : cl.callee = .builtin .len) (ht : cl.argTypes[0]? = some t) (hx : los n e cl.args.toList = some [a]) (hl : Gb P t a = some v) : ∀ call, lD P call (mk n e) σ o = some (v, σ) := by
 intro call; simp only [lD, ho, lu hx, hb, nU, ht, hl]
theorem Yw {cl : Call} {t2 : TypeId} (ho : o.op = .call cl) (hb : cl.callee = .builtin .append) (ht : cl.argTypes[0]? = some t) (ht2 : cl.argTypes[1]? = some t2) (hx : los n e cl.args.toList = some [a, b]) (hn : kQ P t2 = false) (hl : iM P σ t a b = some (v, σ')) : ∀ call, lD P call (mk n e) σ o = some (v, σ') := by
 intro call; simp only [lD, ho, lu hx, hb, nU, ht, ht2, hn, Bool.false_eq_true, if_false, hl]
theorem aku {cl : Call} {vs : List AV} {us : List Value} (ho : o.op = .call cl) (hb : cl.callee = .builtin .max) (hx : los n e cl.args.toList = some vs) (hu : nD vs = some us) (hl : pq P (Builtin.max_ cl.argTypes 0 us.toArray) = some v) : ∀ call, lD P call (mk n e) σ o = some (v, σ) := by
 intro call; simp only [lD, ho, lu hx, hb, nU, hu, hl]
theorem akt {cl : Call} {vs : List AV} {us : List Value} (ho : o.op = .call cl) (hb : cl.callee = .builtin .min) (hx : los n e cl.args.toList = some vs) (hu : nD vs = some us) (hl : pq P (Builtin.min_ cl.argTypes 0 us.toArray) = some v) : ∀ call, lD P call (mk n e) σ o = some (v, σ) := by
 intro call; simp only [lD, ho, lu hx, hb, nU, hu, hl]
end
abbrev eI (n : Int) : D := .int .i64 n
abbrev gH (x : UInt8) : D := .int .u8 (x.toNat : Int)
abbrev Ut (x : UInt16) : D := .int .u16 (x.toNat : Int)
abbrev Us (x : UInt32) : D := .int .u32 (x.toNat : Int)
abbrev jM (x : UInt64) : D := .int .u64 (x.toNat : Int)
abbrev eB (b : Bool) : D := .bool b
abbrev eS (s : List UInt8) : D := .str ⟨s.toArray⟩
abbrev bF (n : Int) : Int := IntKind.i64.wrap n
section
variable {P : Program} {σ : List Ob} {t : TypeId} {s : Nat} {g : Bool}
theorem ah {id off : Nat} {x v : AV} (hs : dM P t = some s) (hg : ko P t = some g) (ho : σ[id]? = some (.box x)) (hv : qP g s ((x.cells.drop off).take s) = some v) : qc P σ t (.ref id 0 off) = some v := by
 simp only [qc, hs, hg, ho, if_true, hv]
theorem jr {id idx sz : Nat} {xs : List D} {wr : Bool} {x : D} {v : AV} (hs : dM P t = some s) (hg : ko P t = some g) (ho : σ[id]? = some (.row sz xs wr)) (hx : xs[idx]? = some x) {off : Nat} (hv : qP g s (((x.cells.map AV.d).drop off).take s) = some v) : qc P σ t (.ref id idx off) = some v := by
 simp only [qc, hs, hg, ho, hx, hv]
theorem bN {cs : List D} {v : AV} (hs : dM P t = some s) (hg : ko P t = some g) (hv : qP g s ((cs.map AV.d).take s) = some v) : qc P σ t (.rop cs) = some v := by
 simp only [qc, hs, hg, hv]
theorem aY {α : Type} {f : α → D} {xs : List α} {i : Nat} {x : α} (h : xs[i]? = some x) : (xs.map f)[i]? = some (f x) := by simp [h]
def FO (P : Program) (t : TypeId) (f : Nat) (ty off : Nat) : Prop := (sS P t f).map (fun d => (d.type, d.offset)) = some (ty, off)
theorem FO.get {f ty off : Nat} (h : FO P t f ty off) : ∃ fd, sS P t f = some fd ∧ fd.type = ty ∧ fd.offset = off := by
 unfold FO at h
 cases hf : sS P t f with
 | none => rw [hf] at h; cases h
 | some d => rw [hf] at h; simp at h; exact ⟨d, rfl, h.1, h.2⟩
theorem afm {id idx off f ty fo : Nat} (hf : FO P t f ty fo) (hs : dM P ty = some (s + 1)) {k : Nat} (hk : off + fo = k) : mU P t f (.ref id idx off) = some (.ref id idx k) := by
 obtain ⟨fd, h1, rfl, rfl⟩ := hf.get
 simp only [mU, h1, hs, hk]; rfl
theorem afl {f ty fo : Nat} {cs ds : List D} (hf : FO P t f ty fo) (hs : dM P ty = some (s + 1)) (hd : cs.drop fo = ds) : mU P t f (.rop cs) = some (.rop ds) := by
 obtain ⟨fd, h1, rfl, rfl⟩ := hf.get
 simp only [mU, h1, hs, hd]; rfl
theorem WE {el : TypeId} {id off len : Nat} {cap : Option Nat} {i : Int} (hu : P.underlying t = some (.slice el)) (hs : dM P el = some s) (hi : 0 ≤ i ∧ i < (len : Int)) : mR P t (.slc id s off len cap) (.d (eI i)) = some (.ref id (off + i.toNat) 0) := by
 simp only [mR, hu, hs, hi.1, hi.2, and_self, if_true]
theorem adW {el : TypeId} {xs : List D} {i : Int} {y : D} (hu : P.underlying t = some (.slice el)) (hs : dM P el = some s) (hi : 0 ≤ i) (hy : xs[i.toNat]? = some y) : mR P t (.d (.zF s xs)) (.d (eI i)) = some (.rop y.cells) := by
 simp only [mR, hu, hs, hi, and_self, if_true, hy]
theorem dP {el : TypeId} {id sz off len : Nat} {cap : Option Nat} (hu : P.underlying t = some (.slice el)) : Gb P t (.slc id sz off len cap) = some (.d (eI len)) := by simp only [Gb, hu]
theorem bC {el : TypeId} {sz : Nat} {α : Type} {f : α → D} {xs : List α} (hu : P.underlying t = some (.slice el)) : Gb P t (.d (.zF sz (xs.map f))) = some (.d (eI xs.length)) := by simp only [Gb, hu, List.length_map]
theorem len_nil {el : TypeId} (hu : P.underlying t = some (.slice el)) : Gb P t (.d .dn) = some (.d (eI 0)) := by simp only [Gb, hu]
theorem ny {s : List UInt8} (hu : P.underlying t = some .string) : Gb P t (.d (eS s)) = some (.d (eI s.length)) := by simp only [Gb, hu]; rfl
end
end Lv
