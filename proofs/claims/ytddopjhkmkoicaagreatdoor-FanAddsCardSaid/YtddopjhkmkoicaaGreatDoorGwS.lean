/- Short words for printed walks. -/
import Derived.Test.YtddopjhkmkoicaaGreatDoorGwFrz
/- Short words for printed walks. -/
namespace Lv
open Go
set_option linter.unusedVariables false
set_option linter.unusedSimpArgs false
set_option linter.unusedSectionVars false
variable [BaseTab]
def lkq : En → Nat → Option AV
 | [], _ => none
 | (j, v) :: r, i => bif Nat.beq j i then some v else lkq r i
theorem U2 : ∀ {e : En} {i : Nat} {v : AV}, lkq e i = some v → lk e i = v
 | [], _, _, h => by cases h
 | (j, x) :: r, i, v, h => by
  simp only [lkq] at h
  simp only [lk]
  cases hb : Nat.beq j i with
  | true => rw [hb] at h; exact Option.some.inj h
  | false => rw [hb] at h; exact U2 h
def lq (n : Nat) (e : En) : Operand → Option AV
 | .tmp t => bif Nat.blt t n then lkq e t else none
 | .const v => match lW v with
  | some x => some (.d x)
  | none => none
 | .func f => some (.fn (.func f) [] [])
 | .global _ => none
theorem eY {n : Nat} {e : En} {x : Operand} {v : AV} (h : lq n e x = some v) : lo n e x = some v := by
 cases x with
 | tmp t =>
  simp only [lq] at h
  simp only [lo]
  cases hb : Nat.blt t n with
  | true => rw [hb] at h; simp only [cond_true] at h ⊢; rw [U2 h]
  | false => rw [hb] at h; cases h
 | const v' => exact h
 | func f => exact h
 | global g => cases h
def Tc (n : Nat) (e : En) : List Operand → Option (List AV)
 | [] => some []
 | x :: r => match lq n e x, Tc n e r with
  | some v, some vs => some (v :: vs)
  | _, _ => none
theorem pO {n : Nat} {e : En} : ∀ {l : List Operand} {vs : List AV}, Tc n e l = some vs → los n e l = some vs
 | [], vs, h => h
 | x :: r, vs, h => by
  simp only [Tc] at h
  split at h
  ·rename_i v vs' h1 h2
   simp only [los, eY h1, pO h2]
   exact h
  ·cases h
def lqp (n : Nat) (e : En) : List (Nat × Operand) → Option (List (Nat × AV))
 | [] => some []
 | (i, x) :: r => match lq n e x, lqp n e r with
  | some v, some vs => some ((i, v) :: vs)
  | _, _ => none
theorem GX {n : Nat} {e : En} : ∀ {l : List (Nat × Operand)} {vs : List (Nat × AV)}, lqp n e l = some vs → OT n e l = some vs
 | [], vs, h => h
 | (i, x) :: r, vs, h => by
  simp only [lqp] at h
  split at h
  ·rename_i v vs' h1 h2
   simp only [OT, eY h1, GX h2]
   exact h
  ·cases h
def lqo (n : Nat) (e : En) : Option Operand → Option (Option AV)
 | none => some none
 | some y => match lq n e y with
  | some v => some (some v)
  | none => none
theorem Kz {n : Nat} {e : En} {x : Option Operand} {v : Option AV} (h : lqo n e x = some v) : loo n e x = some v := by
 cases x with
 | none => exact h
 | some y =>
  simp only [lqo] at h
  split at h
  ·rename_i v' hv; simp only [loo, eY hv]; exact h
  ·cases h
def Ga : List Ob → Nat → Ob → Option (List Ob)
 | [], _, _ => none
 | _ :: r, 0, o => some (o :: r)
 | x :: r, i + 1, o => match Ga r i o with
  | some l => some (x :: l)
  | none => none
theorem nM : ∀ {σ : List Ob} {i : Nat} {o : Ob} {l : List Ob}, Ga σ i o = some l → σ.set i o = l
 | [], _, _, _, h => by cases h
 | x :: r, 0, o, l, h => Option.some.inj h
 | x :: r, i + 1, o, l, h => by
  simp only [Ga] at h
  split at h
  ·rename_i l' hl; cases h; rw [List.set_cons_succ, nM hl]
  ·cases h
def Rc : List Ob → Ob → Nat → Option (List Ob)
 | [], o, 0 => some [o]
 | x :: r, o, k + 1 => match Rc r o k with
  | some l => some (x :: l)
  | none => none
 | _, _, _ => none
theorem nL : ∀ {σ : List Ob} {o : Ob} {k : Nat} {l : List Ob}, Rc σ o k = some l → σ.length = k ∧ σ ++ [o] = l
 | [], o, 0, l, h => by simp only [Rc, Option.some.injEq] at h; exact ⟨rfl, by simp [h]⟩
 | [], o, k + 1, l, h => by simp [Rc] at h
 | x :: r, o, 0, l, h => by simp [Rc] at h
 | x :: r, o, k + 1, l, h => by
  simp only [Rc] at h
  split at h
  ·rename_i l' hl; cases h; obtain ⟨h1, h2⟩ := nL hl; exact ⟨by simp [h1], by simp [h2]⟩
  ·cases h
def mvq (σ : List Ob) (i : Nat) (o : Ob) (k : Nat) : Option (List Ob) := match Ga σ i .dead with
 | some l => Rc l o k
 | none => none
theorem UZ {σ l : List Ob} {i k : Nat} {o : Ob} (h : mvq σ i o k = some l) : σ.length = k ∧ σ.set i .dead ++ [o] = l := by
 unfold mvq at h
 split at h
 ·rename_i l' hl
  have e := nM hl
  obtain ⟨h1, h2⟩ := nL h
  subst e
  exact ⟨by simpa using h1, h2⟩
 ·cases h
section
variable {P : Program} {m : Nat} {n : Nat} {e : En} {σ σ' : List Ob} {v a b : AV} {t : TypeId} {x y : Operand}
def Yl (P : Program) (n : Nat) (e : En) (σ : List Ob) (op : Op) (v : AV) (σ' : List Ob) : Prop := ∃ v0, (∀ (o : Oper), o.op = op → ∀ call, kH P call (mk n e) σ o = some (v0, σ')) ∧ AW v0 v
theorem Yl.of {op : Op} (h : ∀ (o : Oper), o.op = op → ∀ call, kH P call (mk n e) σ o = some (v, σ')) : Yl P n e σ op v σ' := ⟨v, h, AW.refl v⟩
theorem Yl.w {op : Op} {v' : AV} (h : ∀ (o : Oper), o.op = op → ∀ call, kH P call (mk n e) σ o = some (v, σ')) (k : AW v v') : Yl P n e σ op v' σ' := ⟨v, h, k⟩
theorem mv (hx : lq n e x = some v) : Yl P n e σ (.move x) v σ := .of fun o ho => ac9 ho (eY hx)
theorem ig (hx : lq n e x = some v) : Yl P n e σ (.assign x) v σ := .of fun o ho => Wx ho (eY hx)
theorem pkt {z : Operand} (hz : lq n e z = some (.d (.bool true))) (hx : lq n e x = some v) : Yl P n e σ (.pick z x y) v σ := .of fun o ho => Yq ho (eY hz) (eY hx)
theorem dB {z : Operand} (hz : lq n e z = some (.d (.bool false))) (hy : lq n e y = some v) : Yl P n e σ (.pick z x y) v σ := .of fun o ho => Yr ho (eY hz) (eY hy)
theorem qV {k : Nat} {z : D} (hz : zeroOf P t = some z) (hσ : Rc σ (.box (.d z)) k = some σ') : Yl P n e σ (.alloc t) (.ref k 0 0) σ' := .of fun o ho => Yw ho hz (nL hσ).1 (nL hσ).2
theorem nH {k : Nat} (hx : lq n e x = some v) (hv : v.KH = false) (hσ : Rc σ (.box v) k = some σ') : Yl P n e σ (.box t x) (.ref k 0 0) σ' := .of fun o ho => aiC ho (eY hx) hv (nL hσ).1 (nL hσ).2
theorem l8 {ps : Array (Nat × Operand)} {parts : List (Nat × AV)} (hp : lqp n e ps.toList = some parts) (hb : eX P t parts = some v) : Yl P n e σ (.build t ps) v σ := .of fun o ho => Yv ho (GX hp) hb
theorem tH {len : Nat} {ps : Array (Nat × Operand)} {parts : List (Nat × AV)} {el : TypeId} {sz DX k : Nat} {z : D} {ds : List D} {off l' : Nat} (hp : lqp n e ps.toList = some parts) (un : P.underlying t = some (.slice el)) (E : EI P el sz DX z) (hl : Nat.ble (len * sz) 16777216 = true) (hn : parts.length = len)
  (ha : jR σ sz 0 parts = some (ds, σ)) (ho' : 0 = off) (hl' : len = l') (hσ : Rc σ (.row sz ds true) k = some σ') : Yl P n e σ (.buildSlice t len ps) (.slc k sz off l' none) σ' :=
 .w (fun o ho => Lh ho (GX hp) (bsl un E (Nat.le_of_ble_eq_true hl) hn ha (nL hσ).1 (nL hσ).2)) (AW.aeG ho' hl')
theorem aS (hx : lq n e x = some a) (hl : oJ P σ t a = some v) : Yl P n e σ (.load t x) v σ := .of fun o ho => ada ho (eY hx) hl
theorem fJ (hx : lq n e x = some a) (hy : lq n e y = some b) (hs : jQ P σ t a b = some σ') : Yl P n e σ (.store t x y) (.tuple []) σ' := .of fun o ho => Yo ho (eY hx) (eY hy) hs
theorem gJ {id idx off : Nat} (hx : lq n e x = some (.ref id idx off)) : Yl P n e σ (.nilCheck x) (.ref id idx off) σ := .of fun o ho => Wv ho (eY hx)
theorem bi {op : BinOp} {t' : TypeId} (hx : lq n e x = some a) (hy : lq n e y = some b) (hb : ∀ X Y, bC P op t X Y a b = some v) : Yl P n e σ (.binOp op t x y t') v σ := .of fun o ho => aiD ho (eY hx) (eY hy) hb
theorem uo {op : UnOp} {w : Value} (hx : lq n e x = some a) (hw : a.val = some w) (hb : vY P (Op.unary op w) = some v) : Yl P n e σ (.unOp op t x) v σ := .of fun o ho => aiA ho (eY hx) hw hb
theorem nt {b : Bool} (hx : lq n e x = some (.d (eB b))) : Yl P n e σ (.unOp .not t x) (.d (eB (!b))) σ := .of fun o ho => aiA ho (eY hx) rfl rfl
theorem tF {t' : TypeId} (hx : lq n e x = some a) (hb : dR P σ t t' a = some (v, σ')) : Yl P n e σ (.convert t t' x) v σ' := .of fun o ho => Ww ho (eY hx) hb
theorem cvs {t' el : TypeId} {s : List UInt8} {k : Nat} (hx : lq n e x = some (.d (eS s))) (u : P.underlying t = some .string) (u' : P.underlying t' = some (.slice el)) (u2 : P.underlying el = some (.int .u8)) (ts : bU P el = some 1) (hσ : Rc σ (.row 1 (s.map bR) true) k = some σ') : Yl P n e σ (.convert t t' x) (.slc k 1 0 s.length none) σ' :=
 .of fun o ho => Ww ho (eY hx) (KX u u' u2 ts (nL hσ).1 (nL hσ).2)
theorem far {f id idx off k ty fo s : Nat} (hx : lq n e x = some (.ref id idx off)) (hf : FO P t f ty fo) (hs : bU P ty = some (s + 1)) (hk : Nat.beq (off + fo) k = true) : Yl P n e σ (.fieldAddr t x f) (.ref id idx k) σ :=
 .of fun o ho => EJ ho (eY hx) (acD hf hs (Nat.eq_of_beq_eq_true hk))
def drq : List D → Nat → Option (List D)
 | l, 0 => some l
 | [], _ + 1 => none
 | _ :: r, k + 1 => drq r k
theorem VI : ∀ {l : List D} {k : Nat} {r : List D}, drq l k = some r → l.drop k = r
 | l, 0, r, h => by simp only [drq, Option.some.injEq] at h; simp [h]
 | [], k + 1, r, h => by cases h
 | x :: l, k + 1, r, h => by simp only [drq] at h; rw [List.drop_succ_cons]; exact VI h
theorem fap {f ty fo s : Nat} {cs ds : List D} (hx : lq n e x = some (.rop cs)) (hf : FO P t f ty fo) (hs : bU P ty = some (s + 1)) (hd : drq cs fo = some ds) : Yl P n e σ (.fieldAddr t x f) (.rop ds) σ :=
 .of fun o ho => EJ ho (eY hx) (acC hf hs (VI hd))
theorem fld {f ty fo s : Nat} {g : Bool} (hx : lq n e x = some a) (hf : FO P t f ty fo) (hs : bU P ty = some s) (hg : iH P ty = some g) (ha : a.isAgg = true) (hv : mK g s ((a.cells.drop fo).take s) = some v) : Yl P n e σ (.field t x f) v σ :=
 .of fun o ho => Yu ho (eY hx) (acB hf hs hg ha hv)
theorem ias {el : TypeId} {id s off len : Nat} {cap : Option Nat} {i : Int} (hx : lq n e x = some (.slc id s off len cap)) (hy : lq n e y = some (.d (eI i))) (hu : P.underlying t = some (.slice el)) (hs : bU P el = some s) (hi : 0 ≤ i ∧ i < (len : Int)) : Yl P n e σ (.indexAddr t x y) (.ref id (off + i.toNat) 0) σ :=
 .of fun o ho => y8 ho (eY hx) (eY hy) (U3 hu hs hi)
theorem CB {el : TypeId} {id s len : Nat} {cap : Option Nat} {i : Int} (hx : lq n e x = some (.slc id s 0 len cap)) (hy : lq n e y = some (.d (eI i))) (hu : P.underlying t = some (.slice el)) (hs : bU P el = some s) (hi : 0 ≤ i ∧ i < (len : Int)) : Yl P n e σ (.indexAddr t x y) (.ref id i.toNat 0) σ :=
 .w (fun o ho => y8 ho (eY hx) (eY hy) (U3 hu hs hi)) (AW.alG (Nat.zero_add _))
def acJ : D → Option (List D)
 | .agg cs => some cs
 | x => some [x]
theorem X9 {d : D} {cs : List D} (h : acJ d = some cs) : d.cells = cs := by
 cases d <;> simp only [acJ, Option.some.injEq] at h <;> exact h
theorem j4 {el : TypeId} {s : Nat} {xs : List D} {i : Int} {d : D} {cs : List D} (hx : lq n e x = some (.d (.xI s xs))) (hy : lq n e y = some (.d (eI i))) (hu : P.underlying t = some (.slice el)) (hs : bU P el = some s) (hi : 0 ≤ i) (hd : xs[i.toNat]? = some d) (hc : acJ d = some cs) : Yl P n e σ (.indexAddr t x y) (.rop cs) σ :=
 .of fun o ho => y8 ho (eY hx) (eY hy) (X9 hc ▸ abC hu hs hi hd)
theorem ixs {u w : Value} (hx : lq n e x = some a) (hy : lq n e y = some b) (hu : a.val = some u) (hw : b.val = some w) (hb : vY P (Instr.index t u w) = some v) : Yl P n e σ (.index t x y) v σ :=
 .of fun o ho => Yt ho (eY hx) (eY hy) hu hw hb
theorem SV {lo' hi' mx' : Option Operand} {l h k : Option AV} (hx : lq n e x = some a) (hl : lqo n e lo' = some l) (hh : lqo n e hi' = some h) (hm : lqo n e mx' = some k) (hb : aslice P t a l h k = some v) : Yl P n e σ (.slice t x lo' hi' mx') v σ :=
 .of fun o ho => Yp ho (eY hx) (Kz hl) (Kz hh) (Kz hm) hb
theorem mks {el : TypeId} {sz DX k : Nat} {z : D} {α : Type} {f : α → D} {n' : Int} {u : α} (hx : lq n e x = some (.d (eI n'))) (hy : lq n e y = some (.d (eI n'))) (un : P.underlying t = some (.slice el)) (E : EI P el sz DX z) (hv : f u = z) (hn : 0 ≤ n' ∧ n' * DX ≤ 70368744177664 ∧ n' ≤ 70368744177664)
  (hσ : Rc σ (.row sz ((List.replicate n'.toNat u).map f) true) k = some σ') : Yl P n e σ (.makeSlice t x y) (.slc k sz 0 (List.replicate n'.toNat u).length none) σ' :=
 .w (fun o ho => NU ho (eY hx) (eY hy) (afn un E hv hn.1 hn.2 (nL hσ).1 (nL hσ).2)) (AW.aeG rfl rfl)
theorem mkf {f : Fn} {first caps : Array Operand} {xs ys : List AV} (hx : Tc n e first.toList = some xs) (hy : Tc n e caps.toList = some ys) : Yl P n e σ (.makeFunc f first caps) (.fn f xs ys) σ := .of fun o ho => P5 ho (pO hx) (pO hy)
theorem ext {i : Nat} {vs : List AV} (hx : lq n e x = some (.tuple vs)) (hv : vs[i]? = some v) : Yl P n e σ (.extract x i) v σ := .of fun o ho => SQ ho (eY hx) hv
theorem len {cl : Call} (hb : cl.callee = .builtin .len) (ht : cl.argTypes[0]? = some t) (hx : Tc n e cl.args.toList = some [a]) (hl : D6 P t a = some v) : Yl P n e σ (.call cl) v σ := .of fun o ho => aiB ho hb ht (pO hx) hl
theorem app {cl : Call} {t2 : TypeId} (hb : cl.callee = .builtin .append) (ht : cl.argTypes[0]? = some t) (ht2 : cl.argTypes[1]? = some t2) (hx : Tc n e cl.args.toList = some [a, b]) (hn : iW P t2 = false) (hl : jk P σ t a b = some (v, σ')) : Yl P n e σ (.call cl) v σ' :=
 .of fun o ho => Wy ho hb ht ht2 (pO hx) hn hl
section
variable {el : TypeId} {sz DX k id len off : Nat} {z : D} {α : Type} {f : α → D} {xs ys : List α} {w : AV}
theorem aF (hl : len = xs.length) (un : P.underlying t = some (.slice el)) (E : EI P el sz DX z) (h : σ[id]? = some (.row sz (xs.map f) true)) (hx : elems σ sz w = some (ys.map f)) (hr : (xs.length + ys.length) * DX ≤ room) (hσ : mvq σ id (.row sz ((xs ++ ys).map f) true) k = some σ') :
  jk P σ t (.slc id sz 0 len none) w = some (.slc k sz 0 (xs ++ ys).length none, σ') := ac8 hl un E h hx hr (UZ hσ).1 (UZ hσ).2
theorem aN (un : P.underlying t = some (.slice el)) (E : EI P el sz DX z) (hx : elems σ sz w = some (ys.map f)) (hr : ys.length * DX ≤ room) (hσ : Rc σ (.row sz (ys.map f) true) k = some σ') :
  jk P σ t (.d .aA) w = some (.slc k sz 0 ys.length none, σ') := aix un E hx hr (nL hσ).1 (nL hσ).2
theorem sB {s : Nat} {c d d' : AV} (hs : bU P t = some s) (hl : d.cells.length = s) (h1 : d.cells.all AV.one = true) (h : σ[id]? = some (.box c)) (hx : c.isAgg = true) (ho : Nat.ble (off + s) c.cells.length = true) (hd : yM (over c.cells off d.cells) = d') (hσ : Ga σ id (.box d') = some σ') : jQ P σ t (.ref id 0 off) d = some σ' :=
 aa2 hs rfl hl h1 h hx (Nat.le_of_ble_eq_true ho) (by rw [hd]; exact nM hσ)
theorem sC {c d : AV} (hs : bU P t = some 1) (hy : d.cells = [d]) (h1 : d.one = true) (h : σ[id]? = some (.box c)) (hx : c.isAgg = false) (hc : c.cells.length = 1) (hσ : Ga σ id (.box d) = some σ') : jQ P σ t (.ref id 0 0) d = some σ' :=
 Xj hs hy h1 h hx hc (nM hσ)
theorem sR {idx sz : Nat} {y : D} {v : α} {o : α} (hs : bU P t = some 1) (hy : f v = y) (hc : y.cells = [y]) (ha : y.isAgg = false) (h : σ[id]? = some (.row sz (xs.map f) true)) (hx : xs[idx]? = some o) (hoc : (f o).isAgg = false) (hσ : Ga σ id (.row sz ((xs.set idx v).map f) true) = some σ') : jQ P σ t (.ref id idx 0) (.d y) = some σ' :=
 Xi hs hy hc ha h hx hoc (nM hσ)
theorem sF {idx s sz : Nat} {y : AV} {ds : List D} {v : α} {o : α} (hs : bU P t = some s) (hl : y.cells.length = s) (h1 : y.cells.all AV.one = true) (h : σ[id]? = some (.row sz (xs.map f) true)) (hfr : Lv.jN σ y.cells = some (ds, σ)) (hx : xs[idx]? = some o) (hoc : (f o).isAgg = true) (hof : Nat.ble (off + s) (f o).cells.length = true)
  (hv : D.agg (over (f o).cells off ds) = f v) (hσ : Ga σ id (.row sz ((xs.set idx v).map f) true) = some σ') : jQ P σ t (.ref id idx off) y = some σ' :=
 Xh hs rfl hl h1 h hfr hx hoc (Nat.le_of_ble_eq_true hof) hv (nM hσ)
theorem fF {len : Nat} {wr : Bool} {cap : Option Nat} (hl : len = xs.length) (h : σ[id]? = some (.row sz (xs.map f) wr)) (hσ : Ga σ id (.row sz (xs.map f) false) = some σ') : Lv.lX σ (.slc id sz 0 len cap) = some (eL sz f xs, σ') := by
 rw [Vx hl h, nM hσ]
end
variable {ops : Array Oper} {l : List Oper} {d : Option Nat} {dd : Nat} {op : Op} {ty : TypeId} {pos : String} {af : Array Edge} {g : Option (Nat × Bool)}
theorem wf : Wanted ops n e ⟨d, op, ty, pos, af, none⟩ true := Wanted.free rfl
theorem wb {j t : Nat} {w b c : Bool} (h1 : (ops[j]?).bind (·.dst) = some t) (h2 : lq n e (.tmp t) = some (.d (.bool b))) (h3 : (b == w) = c) : Wanted ops n e ⟨d, op, ty, pos, af, some (j, w)⟩ c := Wanted.by rfl h1 (eY h2) h3
theorem wo {j t : Nat} {w : Bool} (h1 : (ops[j]?).bind (·.dst) = some t) (h2 : lq n e (.tmp t) = some (.tuple [])) : Wanted ops n e ⟨d, op, ty, pos, af, some (j, w)⟩ false := Wanted.out rfl h1 (eY h2)
theorem g1 {Q : St → Prop} (hw : Wanted ops n e ⟨some dd, op, ty, pos, af, g⟩ true) (ha : Yl P n e σ op v σ') (k : SO P m ops l ⟨mk n ((dd, v) :: e), σ'⟩ Q) : SO P m ops (⟨some dd, op, ty, pos, af, g⟩ :: l) ⟨mk n e, σ⟩ Q := by
 obtain ⟨v0, h1, h2⟩ := ha
 exact SO.opW hw rfl (h1 _ rfl) h2 k
theorem g0 {Q : St → Prop} (hw : Wanted ops n e ⟨none, op, ty, pos, af, g⟩ true) (ha : Yl P n e σ op v σ') (k : SO P m ops l ⟨mk n e, σ'⟩ Q) : SO P m ops (⟨none, op, ty, pos, af, g⟩ :: l) ⟨mk n e, σ⟩ Q := by
 obtain ⟨v0, h1, h2⟩ := ha
 exact SO.op0 hw rfl (h1 _ rfl) k
theorem s1 {Q : St → Prop} (ha : Yl P n e σ op v σ') (k : SO P m ops l ⟨mk n ((dd, v) :: e), σ'⟩ Q) : SO P m ops (⟨some dd, op, ty, pos, af, none⟩ :: l) ⟨mk n e, σ⟩ Q := g1 wf ha k
theorem s0 {Q : St → Prop} (ha : Yl P n e σ op v σ') (k : SO P m ops l ⟨mk n e, σ'⟩ Q) : SO P m ops (⟨none, op, ty, pos, af, none⟩ :: l) ⟨mk n e, σ⟩ Q := g0 wf ha k
theorem k1 {Q : St → Prop} (hw : Wanted ops n e ⟨some dd, op, ty, pos, af, g⟩ false) (k : SO P m ops l ⟨mk n ((dd, .tuple []) :: e), σ⟩ Q) : SO P m ops (⟨some dd, op, ty, pos, af, g⟩ :: l) ⟨mk n e, σ⟩ Q := SO.skip hw rfl k
theorem k0 {Q : St → Prop} (hw : Wanted ops n e ⟨none, op, ty, pos, af, g⟩ false) (k : SO P m ops l ⟨mk n e, σ⟩ Q) : SO P m ops (⟨none, op, ty, pos, af, g⟩ :: l) ⟨mk n e, σ⟩ Q := SO.aeH hw rfl k
variable {acc : List (List Nat × Bool)} {R : St → List (List Nat × Bool) → Prop}
theorem u1 (mk' : List Nat × Bool) (hw : Wanted ops n e ⟨some dd, op, ty, pos, af, g⟩ true) (ha : Yl P n e σ op v σ') (hm : marked (mk n e) σ σ' ⟨some dd, op, ty, pos, af, g⟩ = mk') (k : ST P ops l ⟨mk n ((dd, v) :: e), σ'⟩ (mk' :: acc) R) : ST P ops (⟨some dd, op, ty, pos, af, g⟩ :: l) ⟨mk n e, σ⟩ acc R := by
 obtain ⟨v0, h1, h2⟩ := ha
 exact ST.opW hw rfl (h1 _ rfl) h2 hm k
theorem u0 (mk' : List Nat × Bool) (hw : Wanted ops n e ⟨none, op, ty, pos, af, g⟩ true) (ha : Yl P n e σ op v σ') (hm : marked (mk n e) σ σ' ⟨none, op, ty, pos, af, g⟩ = mk') (k : ST P ops l ⟨mk n e, σ'⟩ (mk' :: acc) R) : ST P ops (⟨none, op, ty, pos, af, g⟩ :: l) ⟨mk n e, σ⟩ acc R := by
 obtain ⟨v0, h1, h2⟩ := ha
 exact ST.op0 hw rfl (h1 _ rfl) hm k
theorem t1 (mk' : List Nat × Bool) (ha : Yl P n e σ op v σ') (hm : marked (mk n e) σ σ' ⟨some dd, op, ty, pos, af, none⟩ = mk') (k : ST P ops l ⟨mk n ((dd, v) :: e), σ'⟩ (mk' :: acc) R) : ST P ops (⟨some dd, op, ty, pos, af, none⟩ :: l) ⟨mk n e, σ⟩ acc R := u1 mk' wf ha hm k
theorem t0 (mk' : List Nat × Bool) (ha : Yl P n e σ op v σ') (hm : marked (mk n e) σ σ' ⟨none, op, ty, pos, af, none⟩ = mk') (k : ST P ops l ⟨mk n e, σ'⟩ (mk' :: acc) R) : ST P ops (⟨none, op, ty, pos, af, none⟩ :: l) ⟨mk n e, σ⟩ acc R := u0 mk' wf ha hm k
theorem j1 (hw : Wanted ops n e ⟨some dd, op, ty, pos, af, g⟩ false) (k : ST P ops l ⟨mk n ((dd, .tuple []) :: e), σ⟩ (([], false) :: acc) R) : ST P ops (⟨some dd, op, ty, pos, af, g⟩ :: l) ⟨mk n e, σ⟩ acc R := ST.skip hw rfl k
def wtq (ops : Array Oper) (n : Nat) (e : En) (j : Nat) (w : Bool) : Option Bool :=
 match (ops[j]?).bind (·.dst) with
 | some t => match lq n e (.tmp t) with
  | some (.d (.bool b)) => some (b == w)
  | some (.tuple []) => some false
  | _ => none
 | none => none
theorem ww {j : Nat} {w c : Bool} (h : wtq ops n e j w = some c) : Wanted ops n e ⟨d, op, ty, pos, af, some (j, w)⟩ c := by
 unfold wtq at h
 split at h
 ·rename_i t ht
  split at h
  ·rename_i b hb
   exact wb ht hb (Option.some.inj h)
  ·rename_i hb
   cases h
   exact wo ht hb
  ·cases h
 ·cases h
theorem kw {Q : St → Prop} {j : Nat} {w : Bool} (h : wtq ops n e j w = some false) (k : SO P m ops l ⟨mk n ((dd, .tuple []) :: e), σ⟩ Q) : SO P m ops (⟨some dd, op, ty, pos, af, some (j, w)⟩ :: l) ⟨mk n e, σ⟩ Q := k1 (ww h) k
theorem jw {j : Nat} {w : Bool} (h : wtq ops n e j w = some false) (k : ST P ops l ⟨mk n ((dd, .tuple []) :: e), σ⟩ (([], false) :: acc) R) : ST P ops (⟨some dd, op, ty, pos, af, some (j, w)⟩ :: l) ⟨mk n e, σ⟩ acc R := j1 (ww h) k
theorem gw {Q : St → Prop} {j : Nat} {w : Bool} (h : wtq ops n e j w = some true) (ha : Yl P n e σ op v σ') (k : SO P m ops l ⟨mk n ((dd, v) :: e), σ'⟩ Q) : SO P m ops (⟨some dd, op, ty, pos, af, some (j, w)⟩ :: l) ⟨mk n e, σ⟩ Q := g1 (ww h) ha k
theorem sm {Q : St → Prop} (h : lq n e x = some v) (k : SO P m ops l ⟨mk n ((dd, v) :: e), σ⟩ Q) : SO P m ops (⟨some dd, .move x, ty, pos, af, none⟩ :: l) ⟨mk n e, σ⟩ Q := s1 (mv h) k
theorem sa {Q : St → Prop} (h : lq n e x = some v) (k : SO P m ops l ⟨mk n ((dd, v) :: e), σ⟩ Q) : SO P m ops (⟨some dd, .assign x, ty, pos, af, none⟩ :: l) ⟨mk n e, σ⟩ Q := s1 (ig h) k
theorem c0 {Q : St → Prop} {c : Call} {fo : Operand} {f : FuncId} {args : List AV} {r : AV} (hc : aL P f args [] r []) (hw : Wanted ops n e ⟨some dd, .call c, ty, pos, af, g⟩ true) (hargs : Tc n e c.args.toList = some args) (iV : c.callee = .value fo)
  (hfo : lq n e fo = some (.fn (.func f) [] [])) (hcb : callable P f = true) (hi : kg args = []) (hre : ∀ h, zW h args = some args) (hr : ∀ h, r.re h = some r)
  (k : SO P m ops l ⟨mk n ((dd, r) :: e), σ⟩ Q) : SO P m ops (⟨some dd, .call c, ty, pos, af, g⟩ :: l) ⟨mk n e, σ⟩ Q :=
 SO.VP hw rfl rfl (pO hargs) iV (eY hfo) hcb hi hre hr hc k
theorem Lj {c : Call} {fo : Operand} {f : FuncId} {args : List AV} {r : AV} (hc : aL P f args [] r []) (hw : Wanted ops n e ⟨some dd, .call c, ty, pos, af, g⟩ true) (hargs : Tc n e c.args.toList = some args) (iV : c.callee = .value fo)
  (hfo : lq n e fo = some (.fn (.func f) [] [])) (hcb : callable P f = true) (hi : kg args = []) (hre : ∀ h, zW h args = some args) (hr : ∀ h, r.re h = some r)
  (k : ST P ops l ⟨mk n ((dd, r) :: e), σ⟩ (([], true) :: acc) R) : ST P ops (⟨some dd, .call c, ty, pos, af, g⟩ :: l) ⟨mk n e, σ⟩ acc R :=
 ST.VP hw rfl rfl (pO hargs) iV (eY hfo) hcb hi hre hr hc k
theorem sp {β : Type} {w1 w2 z : β} {b : Bool} {Q : St → Prop} (h : (bif b then w1 else w2) = z) (ht : w1 = z → SO P m ops l ⟨mk n ((dd, .d (.bool true)) :: e), σ⟩ Q) (hf : w2 = z → SO P m ops l ⟨mk n ((dd, .d (.bool false)) :: e), σ⟩ Q) : SO P m ops l ⟨mk n ((dd, .d (.bool b)) :: e), σ⟩ Q := by
 cases b with
 | true => exact ht h
 | false => exact hf h
theorem tp {β : Type} {w1 w2 z : β} {b : Bool} (h : (bif b then w1 else w2) = z) (ht : w1 = z → ST P ops l ⟨mk n ((dd, .d (.bool true)) :: e), σ⟩ acc R) (hf : w2 = z → ST P ops l ⟨mk n ((dd, .d (.bool false)) :: e), σ⟩ acc R) : ST P ops l ⟨mk n ((dd, .d (.bool b)) :: e), σ⟩ acc R := by
 cases b with
 | true => exact ht h
 | false => exact hf h
variable {A B : Code} {Q : Ex → St → Prop} {s : St}
theorem cB {β : Type} {w1 w2 z : β} {b : Bool} {c : Operand} (h : (bif b then w1 else w2) = z) (hc : lq n e c = some (.d (.bool b))) (h1 : w1 = z → SC P m A ⟨mk n e, σ⟩ Q) (h2 : w2 = z → SC P m B ⟨mk n e, σ⟩ Q) : SC P m (.cond c A B) ⟨mk n e, σ⟩ Q :=
 SC.ahE (eY hc) (fun hb => h1 (ct hb h)) (fun hb => h2 (cf hb h))
theorem cT {c : Operand} (hc : lq n e c = some (.d (.bool true))) (h : SC P m A ⟨mk n e, σ⟩ Q) : SC P m (.cond c A B) ⟨mk n e, σ⟩ Q := SC.ahC (eY hc) h
theorem cF {c : Operand} (hc : lq n e c = some (.d (.bool false))) (h : SC P m B ⟨mk n e, σ⟩ Q) : SC P m (.cond c A B) ⟨mk n e, σ⟩ Q := SC.ahD (eY hc) h
def Sq (P : Program) (m : Nat) (B : Code) (Q : Ex → St → Prop) (e : Ex) (s : St) : Prop := match e with
 | .normal => SC P m B s Q
 | e => Q e s
theorem sq (h : SC P m A s (Sq P m B Q)) : SC P m (.seq A B) s Q := SC.seq (h.mono fun e s q => by cases e <;> exact q)
theorem sk (h : SC P m B s Q) : SC P m .skip s (Sq P m B Q) := SC.skip h
theorem lb {i : Nat} (h : SC P m B s Q) : SC P m (.label i) s (Sq P m B Q) := SC.label h
theorem sr {id : Nat} (h : SO P m ops ops.toList s (fun s' => SC P m B s' Q)) : SC P m (.seq (.region id ops false) B) s Q := SC.seq (SC.region h)
theorem sn (h : SC P m B s Q) : SO P m ops [] s (fun s' => SC P m B s' Q) := SO.nil h
theorem sd {id : Nat} (hok : F6 P ops = true) (h : ST P ops ops.toList s [] (fun s' t => kK ops t = true ∧ SC P m B s' Q)) : SC P m (.seq (.region id ops true) B) s Q := sq (SC.draws hok h)
theorem tn (h1 : kK ops acc.reverse = true) (h : SC P m B s Q) : ST P ops [] s acc (fun s' t => kK ops t = true ∧ SC P m B s' Q) := ST.nil ⟨h1, h⟩
theorem si {α : Type} {x y : α} (h : some x = some y) : x = y := Option.some.inj h
theorem wq {e' : En} (h : e'.map (fun p => (p.1, lk e p.1)) = e') : Wk m ⟨mk n e, σ⟩ ⟨mk n e', σ⟩ := by
 refine Wk.env ?_
 have key : ∀ l : En, l.map (fun p => (p.1, lk e p.1)) = l → EW e l := by
  intro l
  induction l with
  | nil => intro _; exact trivial
  | cons p r ih =>
   intro h
   simp only [List.map_cons, List.cons.injEq] at h
   exact ⟨AW.of_eq (by rw [← h.1]), ih h.2⟩
 exact key e' h
theorem wc (ι roots : List Nat) {os : List Ob} {e' : En} (hcan : Lv.canon σ roots = some (ι, os)) (ht : ι.take m = List.range m) (he : e'.map (fun p => (lk e p.1).re (eD ι)) = e'.map (fun p => some p.2)) : Wk m ⟨mk n e, σ⟩ ⟨mk n e', os⟩ := by
 intro gX gQ w0 H0 ro μ w a hr
 refine ⟨ro, Ap μ ι, hr.canon hcan ht ⟨by rw [hr.env.size, gG, gG], fun i y v hy hv => ?_⟩⟩
 obtain ⟨hi, rfl⟩ := BX hy
 have key : ∀ l : En, l.map (fun p => (lk e p.1).re (eD ι)) = l.map (fun p => some p.2) → ∀ i, lk l i = .undef ∨ (lk e i).re (eD ι) = some (lk l i) := by
  intro l
  induction l with
  | nil => intro _ i; exact .inl rfl
  | cons p r ih =>
   intro h i
   simp only [List.map_cons, List.cons.injEq] at h
   obtain ⟨j, x⟩ := p
   simp only [lk]
   cases hb : Nat.beq j i with
   | true => have := Nat.eq_of_beq_eq_true hb; subst this; exact .inr h.1
   | false => exact ih h.2 i
 rcases key e' he i with h | h
 ·rw [h]; exact .undef v
 ·exact NG qm (hr.env.get i _ v (sj hi) hv) _ h
end
def ade : List Nat → List AV → Option En
 | [], [] => some []
 | i :: r, x :: l => match ade r l with
  | some e => some ((i, x) :: e)
  | none => none
 | _, _ => none
theorem fn0 {P : Program} {f : FuncId} {args : List AV} {σ σ' : List Ob} {r : AV} {fn : Func} {c : Code} {n : Nat} {e : En} (ι : List Nat) (hfn : P.funcs[f]? = some fn) (hbody : fn.body = some c) (hn : fn.ntmps = n) (hz : ade ι args = some e) (he : enum 0 args = e) (hl : Nat.ble args.length n = true)
  (h : SC P σ.length c ⟨mk n e, σ⟩ (fun e s => ∃ s1, Wk σ.length s s1 ∧ Fin P fn r σ' e s1)) : aL P f args σ r σ' := by
 subst hn
 subst he
 exact aL.of hfn hbody (SC.post (SC.wk (Wk.begin (Nat.le_of_ble_eq_true hl)) h) (fun _ _ h => h))
theorem UN {P : Program} {t : TypeId} {a b : UInt8} : ∀ X Y, bC P .add t X Y (.d (bR a)) (.d (bR b)) = some (.d (bR (a + b))) := fun X Y => V9 t X Y a b
theorem UK {P : Program} {t : TypeId} {a b : UInt8} : ∀ X Y, bC P .sub t X Y (.d (bR a)) (.d (bR b)) = some (.d (bR (a - b))) := fun X Y => VX t X Y a b
theorem Gw {P : Program} {t : TypeId} {a b : UInt8} : ∀ X Y, bC P .eql t X Y (.d (bR a)) (.d (bR b)) = some (.d (.bool (a == b))) := fun X Y => V8 t X Y a b
theorem yD {P : Program} {t : TypeId} {a b : UInt8} : ∀ X Y, bC P .neq t X Y (.d (bR a)) (.d (bR b)) = some (.d (.bool (a != b))) := fun X Y => VY t X Y a b
theorem yE {P : Program} {t : TypeId} {a b : UInt8} : ∀ X Y, bC P .lss t X Y (.d (bR a)) (.d (bR b)) = some (.d (.bool (decide (a < b)))) := fun X Y => VZ t X Y a b
theorem UL {P : Program} {t : TypeId} {a b : UInt8} : ∀ X Y, bC P .leq t X Y (.d (bR a)) (.d (bR b)) = some (.d (.bool (decide (a ≤ b)))) := fun X Y => V5 t X Y a b
theorem rX {P : Program} {t : TypeId} {a b : UInt8} : ∀ X Y, bC P .gtr t X Y (.d (bR a)) (.d (bR b)) = some (.d (.bool (decide (b < a)))) := fun X Y => V6 t X Y a b
theorem UM {P : Program} {t : TypeId} {a b : UInt8} : ∀ X Y, bC P .geq t X Y (.d (bR a)) (.d (bR b)) = some (.d (.bool (decide (b ≤ a)))) := fun X Y => V7 t X Y a b
theorem Jq {P : Program} {t : TypeId} {a b : UInt64} : ∀ X Y, bC P .add t X Y (.d (eU64 a)) (.d (eU64 b)) = some (.d (eU64 (a + b))) := fun X Y => RY t X Y a b
theorem Mq {P : Program} {t : TypeId} {a b : UInt64} : ∀ X Y, bC P .or t X Y (.d (eU64 a)) (.d (eU64 b)) = some (.d (eU64 (a ||| b))) := fun X Y => Wd t X Y a b
theorem Jo {P : Program} {t : TypeId} {a b : UInt64} : ∀ X Y, bC P .xor t X Y (.d (eU64 a)) (.d (eU64 b)) = some (.d (eU64 (a ^^^ b))) := fun X Y => RQ t X Y a b
theorem jo {P : Program} {t : TypeId} {a b : UInt64} : ∀ X Y, bC P .eql t X Y (.d (eU64 a)) (.d (eU64 b)) = some (.d (.bool (a == b))) := fun X Y => RX t X Y a b
theorem Jp {P : Program} {t : TypeId} {a b : UInt64} : ∀ X Y, bC P .neq t X Y (.d (eU64 a)) (.d (eU64 b)) = some (.d (.bool (a != b))) := fun X Y => RS t X Y a b
theorem Rn {P : Program} {t : TypeId} {a b : UInt64} : ∀ X Y, bC P .lss t X Y (.d (eU64 a)) (.d (eU64 b)) = some (.d (.bool (decide (a < b)))) := fun X Y => RU t X Y a b
theorem Rp {P : Program} {t : TypeId} {a b : UInt64} : ∀ X Y, bC P .leq t X Y (.d (eU64 a)) (.d (eU64 b)) = some (.d (.bool (decide (a ≤ b)))) := fun X Y => RV t X Y a b
theorem iC {P : Program} {t : TypeId} {a b : List UInt8} : ∀ X Y, bC P .eql t X Y (.d (eS a)) (.d (eS b)) = some (.d (.bool (a == b))) := fun X Y => R8 t X Y a b
theorem Jr {P : Program} {t : TypeId} {a b : List UInt8} : ∀ X Y, bC P .neq t X Y (.d (eS a)) (.d (eS b)) = some (.d (.bool (a != b))) := fun X Y => R4 t X Y a b
theorem Rq {P : Program} {t : TypeId} {a b : List UInt8} : ∀ X Y, bC P .leq t X Y (.d (eS a)) (.d (eS b)) = some (.d (.bool (Qo a b || a == b))) := fun X Y => R5 t X Y a b
theorem Rs {P : Program} {t : TypeId} {a b : List UInt8} : ∀ X Y, bC P .gtr t X Y (.d (eS a)) (.d (eS b)) = some (.d (.bool !(Qo a b || a == b))) := fun X Y => R6 t X Y a b
theorem Rt {P : Program} {t : TypeId} {a b : List UInt8} : ∀ X Y, bC P .geq t X Y (.d (eS a)) (.d (eS b)) = some (.d (.bool !(Qo a b))) := fun X Y => R7 t X Y a b
theorem aP {P : Program} {t : TypeId} {a b : Int} : ∀ X Y, bC P .eql t X Y (.d (eI a)) (.d (eI b)) = some (.d (eB (a == b))) := fun X Y => Sr t X Y a b
theorem bA {P : Program} {t : TypeId} {a b : Int} : ∀ X Y, bC P .neq t X Y (.d (eI a)) (.d (eI b)) = some (.d (eB (a != b))) := fun X Y => Sg t X Y a b
theorem aQ {P : Program} {t : TypeId} {a b : Int} : ∀ X Y, bC P .lss t X Y (.d (eI a)) (.d (eI b)) = some (.d (eB (decide (a < b)))) := fun X Y => Sj t X Y a b
theorem rE {P : Program} {t : TypeId} {a b : Int} : ∀ X Y, bC P .leq t X Y (.d (eI a)) (.d (eI b)) = some (.d (eB (decide (a ≤ b)))) := fun X Y => Sk t X Y a b
theorem bP {P : Program} {t : TypeId} {a b : Int} : ∀ X Y, bC P .gtr t X Y (.d (eI a)) (.d (eI b)) = some (.d (eB (decide (a > b)))) := fun X Y => Sl t X Y a b
theorem dU {P : Program} {t : TypeId} {a b : Int} : ∀ X Y, bC P .geq t X Y (.d (eI a)) (.d (eI b)) = some (.d (eB (decide (a ≥ b)))) := fun X Y => Sn t X Y a b
theorem aR {P : Program} {t : TypeId} {a b : Int} : ∀ X Y, bC P .add t X Y (.d (eI a)) (.d (eI b)) = some (.d (eI (bD (a + b)))) := fun X Y => Sv t X Y a b
theorem fD {P : Program} {t : TypeId} {a b : Int} : ∀ X Y, bC P .sub t X Y (.d (eI a)) (.d (eI b)) = some (.d (eI (bD (a - b)))) := fun X Y => R9 t X Y a b
theorem rD {P : Program} {t : TypeId} {a b : Int} : ∀ X Y, bC P .mul t X Y (.d (eI a)) (.d (eI b)) = some (.d (eI (bD (a * b)))) := fun X Y => Si t X Y a b
def orI (a b : Int) : Int := IntKind.i64.wrap ((BitVec.ofInt 64 a ||| BitVec.ofInt 64 b).toNat : Int)
theorem UO {P : Program} {t : TypeId} {a b : Int} : ∀ X Y, bC P .or t X Y (.d (eI a)) (.d (eI b)) = some (.d (eI (orI a b))) := fun X Y => rfl
theorem fro {m : Nat} {env : List AV} {σ σ' : List Ob} (i : Nat) {sz : Nat} {xs : List D} {wr : Bool} (h : σ[i]? = some (.row sz xs wr)) (hs : Ga σ i (.row sz xs false) = some σ') : Wk m ⟨env, σ⟩ ⟨env, σ'⟩ := by
 have hs' := nM hs
 subst hs'
 intro gX gQ w0 H0 ro μ w a hr
 have hz : ∃ ro', Good ro' μ w (upd (hp σ) i (.row sz xs false)) ∧ Ext ro μ w (hp σ) ro' μ w (upd (hp σ) i (.row sz xs false)) := by
  cases hm : μ i with
  | none => obtain ⟨g1, g2⟩ := hr.good.phantom hm (o := .row sz xs false) (by simp); exact ⟨ro, g1, g2⟩
  | some L => obtain ⟨ro', g1, g2, _⟩ := hr.good.freeze (dI h) hm; exact ⟨ro', g1, g2⟩
 obtain ⟨ro', g', x'⟩ := hz
 rw [← ng (bE h)] at g' x'
 exact ⟨ro', μ, g', hr.env.mono x'.mR x'.GI, fun id L hL => by have := hr.dom id L hL; simpa using this, hr.defers, hr.ext.trans x'.WA, hr.keep, by have := hr.hm; simpa using this⟩
def Wj : List Ob → List Ob → Option (List Ob)
 | [], os => some os
 | x :: r, os => match Wj r os with
  | some l => some (x :: l)
  | none => none
theorem QE : ∀ {a b l : List Ob}, Wj a b = some l → a ++ b = l
 | [], b, l, h => by simp only [Wj, Option.some.injEq] at h; simp [h]
 | x :: r, b, l, h => by
  simp only [Wj] at h
  split at h
  ·rename_i l' hl; cases h; rw [List.cons_append, QE hl]
  ·cases h
def XI : List Ob → List Nat → List Ob → Option (List Ob)
 | σ, [], os => Wj σ os
 | σ, i :: r, o :: os => match Ga σ i o with
  | some σ1 => XI σ1 r os
  | none => none
 | _, _ :: _, [] => none
theorem GJ : ∀ {ι : List Nat} {σ os l : List Ob}, XI σ ι os = some l → jd σ ι (os.take ι.length) ++ os.drop ι.length = l ∧ ι.length ≤ os.length
 | [], σ, os, l, h => by
  simp only [XI] at h
  exact ⟨by simpa [jd] using QE h, Nat.zero_le _⟩
 | i :: r, σ, [], l, h => by simp [XI] at h
 | i :: r, σ, o :: os, l, h => by
  simp only [XI] at h
  split at h
  ·rename_i σ1 hs
   obtain ⟨h1, h2⟩ := GJ h
   have := nM hs
   subst this
   refine ⟨?_, by simpa using h2⟩
   simpa [jd] using h1
  ·cases h
def WE (κ : List Nat) (j : Nat) : Option Nat := κ[j]?
theorem KY {ι ν : List Nat} {n k : Nat} (h : List.range' n (k - ι.length) = ν) (hl : Nat.ble ι.length k = true) : jf ι n k = WE (ι ++ ν) := by
 subst h
 funext j
 have hl := Nat.le_of_ble_eq_true hl
 unfold jf WE
 by_cases h1 : j < ι.length
 ·rw [if_pos h1, List.getElem?_append_left h1]
 ·rw [if_neg h1, List.getElem?_append_right (by omega)]
  by_cases h2 : j < k
  ·rw [if_pos h2, List.getElem?_eq_getElem (by simp; omega)]
   simp
  ·rw [if_neg h2, List.getElem?_eq_none (by simp; omega)]
section
variable {P : Program} {m : Nat} {n : Nat} {e : En} {σ σ' : List Ob} {ops : Array Oper} {l : List Oper} {dd : Nat} {ty : TypeId} {pos : String} {af : Array Edge} {g : Option (Nat × Bool)}
theorem cq {Q : St → Prop} {c : Call} {fo : Operand} {f : FuncId} {args first caps args' : List AV} (ι ν : List Nat) {κ : List Nat} {lT σ2 os : List Ob} {r r' : AV} (hc : aL P f args' lT r' σ2) (hw : Wanted ops n e ⟨some dd, .call c, ty, pos, af, g⟩ true) (hargs : Tc n e c.args.toList = some args) (iV : c.callee = .value fo)
  (hfo : lq n e fo = some (.fn (.func f) first caps)) (hcb : callable P f = true) (hcan : canon σ (kg (first ++ args ++ caps)) = some (ι, lT)) (hre : zW (eD ι) (first ++ args ++ caps) = some args')
  (hν : List.range' σ.length (σ2.length - ι.length) = ν) (hl : Nat.ble ι.length σ2.length = true) (hκ : ι ++ ν = κ) (hr : r'.re (WE κ) = some r) (hos : oF (WE κ) σ2 = some os) (hσ : XI σ ι os = some σ')
  (k : SO P m ops l ⟨mk n ((dd, r) :: e), σ'⟩ Q) : SO P m ops (⟨some dd, .call c, ty, pos, af, g⟩ :: l) ⟨mk n e, σ⟩ Q := by
 subst hκ
 rw [← KY hν hl] at hr hos
 obtain ⟨h1, h2⟩ := GJ hσ
 exact SO.call hw rfl rfl (pO hargs) iV (eY hfo) hcb hcan hre hc hr hos h2 h1 k
variable {acc : List (List Nat × Bool)} {R : St → List (List Nat × Bool) → Prop}
theorem tq {c : Call} {fo : Operand} {f : FuncId} {args first caps args' : List AV} (ι ν : List Nat) (mk' : List Nat × Bool) {κ : List Nat} {lT σ2 os : List Ob} {r r' : AV} (hc : aL P f args' lT r' σ2) (hw : Wanted ops n e ⟨some dd, .call c, ty, pos, af, g⟩ true) (hargs : Tc n e c.args.toList = some args) (iV : c.callee = .value fo)
  (hfo : lq n e fo = some (.fn (.func f) first caps)) (hcb : callable P f = true) (hcan : canon σ (kg (first ++ args ++ caps)) = some (ι, lT)) (hre : zW (eD ι) (first ++ args ++ caps) = some args')
  (hν : List.range' σ.length (σ2.length - ι.length) = ν) (hl : Nat.ble ι.length σ2.length = true) (hκ : ι ++ ν = κ) (hr : r'.re (WE κ) = some r) (hos : oF (WE κ) σ2 = some os) (hσ : XI σ ι os = some σ') (hm : marked (mk n e) σ σ' ⟨some dd, .call c, ty, pos, af, g⟩ = mk')
  (k : ST P ops l ⟨mk n ((dd, r) :: e), σ'⟩ (mk' :: acc) R) : ST P ops (⟨some dd, .call c, ty, pos, af, g⟩ :: l) ⟨mk n e, σ⟩ acc R := by
 subst hκ
 rw [← KY hν hl] at hr hos
 obtain ⟨h1, h2⟩ := GJ hσ
 exact ST.call hw rfl rfl (pO hargs) iV (eY hfo) hcb hcan hre hc hr hos h2 h1 hm k
theorem tqr {c : Call} {fo : Operand} {f : FuncId} {args first caps args' : List AV} (ι : List Nat) (is : List Nat) {lT σ2 os : List Ob} {r r' : AV} (hc : aL P f args' lT r' σ2) (hw : Wanted ops n e ⟨some dd, .call c, ty, pos, af, g⟩ true) (hargs : Tc n e c.args.toList = some args) (iV : c.callee = .value fo)
  (hfo : lq n e fo = some (.fn (.func f) first caps)) (hcb : callable P f = true) (hcan : canon σ (kg (first ++ args ++ caps)) = some (ι, lT)) (hre : zW (eD ι) (first ++ args ++ caps) = some args')
  (hν : List.range' σ.length (σ2.length - ι.length) = []) (hl : Nat.ble ι.length σ2.length = true) (hr : r'.re (WE ι) = some r) (hos : oF (WE ι) σ2 = some os) (hσ : XI σ ι os = some σ) (hm : (marked (mk n e) σ σ ⟨some dd, .call c, ty, pos, af, g⟩).1 = is)
  (k : ST P ops l ⟨mk n ((dd, r) :: e), σ⟩ ((is, false) :: acc) R) : ST P ops (⟨some dd, .call c, ty, pos, af, g⟩ :: l) ⟨mk n e, σ⟩ acc R := by
 have e0 : ι = ι ++ [] := by simp
 rw [e0] at hr hos
 rw [← KY hν hl] at hr hos
 obtain ⟨h1, h2⟩ := GJ hσ
 exact ST.aiq hw rfl rfl (pO hargs) iV (eY hfo) hcb hcan hre hc hr hos h2 h1 hm k
theorem fq {f : FuncId} {args args' : List AV} {κ : List Nat} {lT σ2 os : List Ob} (ι ν : List Nat) {r r' : AV} (hc : aL P f args' lT r' σ2) (hcan : canon σ (kg args) = some (ι, lT)) (hre : zW (eD ι) args = some args')
  (hν : List.range' σ.length (σ2.length - ι.length) = ν) (hl : Nat.ble ι.length σ2.length = true) (hκ : ι ++ ν = κ) (hr : r'.re (WE κ) = some r) (hos : oF (WE κ) σ2 = some os) (hσ : XI σ ι os = some σ') : aL P f args σ r σ' := by
 subst hκ
 rw [← KY hν hl] at hr hos
 obtain ⟨h1, h2⟩ := GJ hσ
 exact aL.frame hcan hre hc hr hos h2 h1
end
end Lv
