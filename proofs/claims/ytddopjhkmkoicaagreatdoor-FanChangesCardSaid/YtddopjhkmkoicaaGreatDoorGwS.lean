/- Short words for printed walks. -/
import Derived.Test.YtddopjhkmkoicaaGreatDoorGwFrz
/- Short words for printed walks. -/
namespace Lv
open Go
set_option linter.unusedVariables false
set_option linter.unusedSimpArgs false
set_option linter.unusedSectionVars false
variable [BaseTab]
def lkq : En → Nat → Option AV
 | [], _ => none
 | (j, v) :: r, i => bif Nat.beq j i then some v else lkq r i
theorem lkq_lk : ∀ {e : En} {i : Nat} {v : AV}, lkq e i = some v → lk e i = v
 | [], _, _, h => by cases h
 | (j, x) :: r, i, v, h => by
  simp only [lkq] at h
  simp only [lk]
  cases hb : Nat.beq j i with
  | true => rw [hb] at h; exact Option.some.inj h
  | false => rw [hb] at h; exact lkq_lk h
def lq (n : Nat) (e : En) : Operand → Option AV
 | .tmp t => bif Nat.blt t n then lkq e t else none
 | .const v => match ofVal v with
  | some x => some (.d x)
  | none => none
 | .func f => some (.fn (.func f) [] [])
 | .global _ => none
theorem lq_lo {n : Nat} {e : En} {x : Operand} {v : AV} (h : lq n e x = some v) : lo n e x = some v := by
 cases x with
 | tmp t =>
  simp only [lq] at h
  simp only [lo]
  cases hb : Nat.blt t n with
  | true => rw [hb] at h; simp only [cond_true] at h ⊢; rw [lkq_lk h]
  | false => rw [hb] at h; cases h
 | const v' => exact h
 | func f => exact h
 | global g => cases h
def lqs (n : Nat) (e : En) : List Operand → Option (List AV)
 | [] => some []
 | x :: r => match lq n e x, lqs n e r with
  | some v, some vs => some (v :: vs)
  | _, _ => none
theorem lqs_los {n : Nat} {e : En} : ∀ {l : List Operand} {vs : List AV}, lqs n e l = some vs → los n e l = some vs
 | [], vs, h => h
 | x :: r, vs, h => by
  simp only [lqs] at h
  split at h
  ·rename_i v vs' h1 h2
   simp only [los, lq_lo h1, lqs_los h2]
   exact h
  ·cases h
def lqp (n : Nat) (e : En) : List (Nat × Operand) → Option (List (Nat × AV))
 | [] => some []
 | (i, x) :: r => match lq n e x, lqp n e r with
  | some v, some vs => some ((i, v) :: vs)
  | _, _ => none
theorem lqp_lops {n : Nat} {e : En} : ∀ {l : List (Nat × Operand)} {vs : List (Nat × AV)}, lqp n e l = some vs → lops n e l = some vs
 | [], vs, h => h
 | (i, x) :: r, vs, h => by
  simp only [lqp] at h
  split at h
  ·rename_i v vs' h1 h2
   simp only [lops, lq_lo h1, lqp_lops h2]
   exact h
  ·cases h
def lqo (n : Nat) (e : En) : Option Operand → Option (Option AV)
 | none => some none
 | some y => match lq n e y with
  | some v => some (some v)
  | none => none
theorem lqo_loo {n : Nat} {e : En} {x : Option Operand} {v : Option AV} (h : lqo n e x = some v) : loo n e x = some v := by
 cases x with
 | none => exact h
 | some y =>
  simp only [lqo] at h
  split at h
  ·rename_i v' hv; simp only [loo, lq_lo hv]; exact h
  ·cases h
def setO : List Ob → Nat → Ob → Option (List Ob)
 | [], _, _ => none
 | _ :: r, 0, o => some (o :: r)
 | x :: r, i + 1, o => match setO r i o with
  | some l => some (x :: l)
  | none => none
theorem setO_set : ∀ {σ : List Ob} {i : Nat} {o : Ob} {l : List Ob}, setO σ i o = some l → σ.set i o = l
 | [], _, _, _, h => by cases h
 | x :: r, 0, o, l, h => Option.some.inj h
 | x :: r, i + 1, o, l, h => by
  simp only [setO] at h
  split at h
  ·rename_i l' hl; cases h; rw [List.set_cons_succ, setO_set hl]
  ·cases h
def snq : List Ob → Ob → Nat → Option (List Ob)
 | [], o, 0 => some [o]
 | x :: r, o, k + 1 => match snq r o k with
  | some l => some (x :: l)
  | none => none
 | _, _, _ => none
theorem snq_eq : ∀ {σ : List Ob} {o : Ob} {k : Nat} {l : List Ob}, snq σ o k = some l → σ.length = k ∧ σ ++ [o] = l
 | [], o, 0, l, h => by simp only [snq, Option.some.injEq] at h; exact ⟨rfl, by simp [h]⟩
 | [], o, k + 1, l, h => by simp [snq] at h
 | x :: r, o, 0, l, h => by simp [snq] at h
 | x :: r, o, k + 1, l, h => by
  simp only [snq] at h
  split at h
  ·rename_i l' hl; cases h; obtain ⟨h1, h2⟩ := snq_eq hl; exact ⟨by simp [h1], by simp [h2]⟩
  ·cases h
def mvq (σ : List Ob) (i : Nat) (o : Ob) (k : Nat) : Option (List Ob) := match setO σ i .dead with
 | some l => snq l o k
 | none => none
theorem mvq_eq {σ l : List Ob} {i k : Nat} {o : Ob} (h : mvq σ i o k = some l) : σ.length = k ∧ σ.set i .dead ++ [o] = l := by
 unfold mvq at h
 split at h
 ·rename_i l' hl
  have e := setO_set hl
  obtain ⟨h1, h2⟩ := snq_eq h
  subst e
  exact ⟨by simpa using h1, h2⟩
 ·cases h
section
variable {P : Program} {m : Nat} {n : Nat} {e : En} {σ σ' : List Ob} {v a b : AV} {t : TypeId} {x y : Operand}
def Yl (P : Program) (n : Nat) (e : En) (σ : List Ob) (op : Op) (v : AV) (σ' : List Ob) : Prop := ∃ v0, (∀ (o : Oper), o.op = op → ∀ call, aop P call (mk n e) σ o = some (v0, σ')) ∧ AW v0 v
theorem Yl.of {op : Op} (h : ∀ (o : Oper), o.op = op → ∀ call, aop P call (mk n e) σ o = some (v, σ')) : Yl P n e σ op v σ' := ⟨v, h, AW.refl v⟩
theorem Yl.w {op : Op} {v' : AV} (h : ∀ (o : Oper), o.op = op → ∀ call, aop P call (mk n e) σ o = some (v, σ')) (k : AW v v') : Yl P n e σ op v' σ' := ⟨v, h, k⟩
theorem mv (hx : lq n e x = some v) : Yl P n e σ (.move x) v σ := .of fun o ho => A_move ho (lq_lo hx)
theorem asg (hx : lq n e x = some v) : Yl P n e σ (.assign x) v σ := .of fun o ho => A_assign ho (lq_lo hx)
theorem pkt {z : Operand} (hz : lq n e z = some (.d (.bool true))) (hx : lq n e x = some v) : Yl P n e σ (.pick z x y) v σ := .of fun o ho => A_pickT ho (lq_lo hz) (lq_lo hx)
theorem pkf {z : Operand} (hz : lq n e z = some (.d (.bool false))) (hy : lq n e y = some v) : Yl P n e σ (.pick z x y) v σ := .of fun o ho => A_pickF ho (lq_lo hz) (lq_lo hy)
theorem alo {k : Nat} {z : D} (hz : zeroOf P t = some z) (hσ : snq σ (.box (.d z)) k = some σ') : Yl P n e σ (.alloc t) (.ref k 0 0) σ' := .of fun o ho => A_alloc ho hz (snq_eq hσ).1 (snq_eq hσ).2
theorem bxo {k : Nat} (hx : lq n e x = some v) (hv : v.isUndef = false) (hσ : snq σ (.box v) k = some σ') : Yl P n e σ (.box t x) (.ref k 0 0) σ' := .of fun o ho => A_box ho (lq_lo hx) hv (snq_eq hσ).1 (snq_eq hσ).2
theorem bld {ps : Array (Nat × Operand)} {parts : List (Nat × AV)} (hp : lqp n e ps.toList = some parts) (hb : abuild P t parts = some v) : Yl P n e σ (.build t ps) v σ := .of fun o ho => A_build ho (lqp_lops hp) hb
theorem bsn {len : Nat} {ps : Array (Nat × Operand)} {parts : List (Nat × AV)} {el : TypeId} {sz by_ k : Nat} {z : D} {ds : List D} {off l' : Nat} (hp : lqp n e ps.toList = some parts) (un : P.underlying t = some (.slice el)) (E : EI P el sz by_ z) (hl : Nat.ble (len * sz) 16777216 = true) (hn : parts.length = len)
  (ha : aparts σ sz 0 parts = some (ds, σ)) (ho' : 0 = off) (hl' : len = l') (hσ : snq σ (.row sz ds true) k = some σ') : Yl P n e σ (.buildSlice t len ps) (.slc k sz off l' none) σ' :=
 .w (fun o ho => A_buildSlice ho (lqp_lops hp) (bsl un E (Nat.le_of_ble_eq_true hl) hn ha (snq_eq hσ).1 (snq_eq hσ).2)) (AW.slcc ho' hl')
theorem lod (hx : lq n e x = some a) (hl : aload P σ t a = some v) : Yl P n e σ (.load t x) v σ := .of fun o ho => A_load ho (lq_lo hx) hl
theorem sto (hx : lq n e x = some a) (hy : lq n e y = some b) (hs : astore P σ t a b = some σ') : Yl P n e σ (.store t x y) (.tuple []) σ' := .of fun o ho => A_store ho (lq_lo hx) (lq_lo hy) hs
theorem nkr {id idx off : Nat} (hx : lq n e x = some (.ref id idx off)) : Yl P n e σ (.nilCheck x) (.ref id idx off) σ := .of fun o ho => A_nilRef ho (lq_lo hx)
theorem bi {op : BinOp} {t' : TypeId} (hx : lq n e x = some a) (hy : lq n e y = some b) (hb : ∀ X Y, abinOp P op t X Y a b = some v) : Yl P n e σ (.binOp op t x y t') v σ := .of fun o ho => A_bin ho (lq_lo hx) (lq_lo hy) hb
theorem uo {op : UnOp} {w : Value} (hx : lq n e x = some a) (hw : a.val = some w) (hb : byPr P (Op.unary op w) = some v) : Yl P n e σ (.unOp op t x) v σ := .of fun o ho => A_un ho (lq_lo hx) hw hb
theorem nt {b : Bool} (hx : lq n e x = some (.d (eB b))) : Yl P n e σ (.unOp .not t x) (.d (eB (!b))) σ := .of fun o ho => A_un ho (lq_lo hx) rfl rfl
theorem cvo {t' : TypeId} (hx : lq n e x = some a) (hb : aconvert P σ t t' a = some (v, σ')) : Yl P n e σ (.convert t t' x) v σ' := .of fun o ho => A_conv ho (lq_lo hx) hb
theorem cvs {t' el : TypeId} {s : List UInt8} {k : Nat} (hx : lq n e x = some (.d (eS s))) (u : P.underlying t = some .string) (u' : P.underlying t' = some (.slice el)) (u2 : P.underlying el = some (.int .u8)) (ts : tsize P el = some 1) (hσ : snq σ (.row 1 (s.map eU8) true) k = some σ') : Yl P n e σ (.convert t t' x) (.slc k 1 0 s.length none) σ' :=
 .of fun o ho => A_conv ho (lq_lo hx) (cv_str_bytes u u' u2 ts (snq_eq hσ).1 (snq_eq hσ).2)
theorem far {f id idx off k ty fo s : Nat} (hx : lq n e x = some (.ref id idx off)) (hf : FO P t f ty fo) (hs : tsize P ty = some (s + 1)) (hk : Nat.beq (off + fo) k = true) : Yl P n e σ (.fieldAddr t x f) (.ref id idx k) σ :=
 .of fun o ho => A_fieldAddr ho (lq_lo hx) (fa_ref hf hs (Nat.eq_of_beq_eq_true hk))
def drq : List D → Nat → Option (List D)
 | l, 0 => some l
 | [], _ + 1 => none
 | _ :: r, k + 1 => drq r k
theorem drq_eq : ∀ {l : List D} {k : Nat} {r : List D}, drq l k = some r → l.drop k = r
 | l, 0, r, h => by simp only [drq, Option.some.injEq] at h; simp [h]
 | [], k + 1, r, h => by cases h
 | x :: l, k + 1, r, h => by simp only [drq] at h; rw [List.drop_succ_cons]; exact drq_eq h
theorem fap {f ty fo s : Nat} {cs ds : List D} (hx : lq n e x = some (.rop cs)) (hf : FO P t f ty fo) (hs : tsize P ty = some (s + 1)) (hd : drq cs fo = some ds) : Yl P n e σ (.fieldAddr t x f) (.rop ds) σ :=
 .of fun o ho => A_fieldAddr ho (lq_lo hx) (fa_rop hf hs (drq_eq hd))
theorem fld {f ty fo s : Nat} {g : Bool} (hx : lq n e x = some a) (hf : FO P t f ty fo) (hs : tsize P ty = some s) (hg : tagg P ty = some g) (ha : a.isAgg = true) (hv : ofCells g s ((a.cells.drop fo).take s) = some v) : Yl P n e σ (.field t x f) v σ :=
 .of fun o ho => A_field ho (lq_lo hx) (fd_agg hf hs hg ha hv)
theorem iaz {el : TypeId} {id s len : Nat} {cap : Option Nat} {i : Int} (hx : lq n e x = some (.slc id s 0 len cap)) (hy : lq n e y = some (.d (eI i))) (hu : P.underlying t = some (.slice el)) (hs : tsize P el = some s) (hi : 0 ≤ i ∧ i < (len : Int)) : Yl P n e σ (.indexAddr t x y) (.ref id i.toNat 0) σ :=
 .w (fun o ho => A_indexAddr ho (lq_lo hx) (lq_lo hy) (ia_slc hu hs hi)) (AW.refz (Nat.zero_add _))
def celq : D → Option (List D)
 | .agg cs => some cs
 | x => some [x]
theorem celq_eq {d : D} {cs : List D} (h : celq d = some cs) : d.cells = cs := by
 cases d <;> simp only [celq, Option.some.injEq] at h <;> exact h
theorem ial {el : TypeId} {s : Nat} {xs : List D} {i : Int} {d : D} {cs : List D} (hx : lq n e x = some (.d (.lst s xs))) (hy : lq n e y = some (.d (eI i))) (hu : P.underlying t = some (.slice el)) (hs : tsize P el = some s) (hi : 0 ≤ i) (hd : xs[i.toNat]? = some d) (hc : celq d = some cs) : Yl P n e σ (.indexAddr t x y) (.rop cs) σ :=
 .of fun o ho => A_indexAddr ho (lq_lo hx) (lq_lo hy) (celq_eq hc ▸ ia_lst hu hs hi hd)
theorem ixs {u w : Value} (hx : lq n e x = some a) (hy : lq n e y = some b) (hu : a.val = some u) (hw : b.val = some w) (hb : byPr P (Instr.index t u w) = some v) : Yl P n e σ (.index t x y) v σ :=
 .of fun o ho => A_index ho (lq_lo hx) (lq_lo hy) hu hw hb
theorem slo {lo' hi' mx' : Option Operand} {l h k : Option AV} (hx : lq n e x = some a) (hl : lqo n e lo' = some l) (hh : lqo n e hi' = some h) (hm : lqo n e mx' = some k) (hb : aslice P t a l h k = some v) : Yl P n e σ (.slice t x lo' hi' mx') v σ :=
 .of fun o ho => A_slice ho (lq_lo hx) (lqo_loo hl) (lqo_loo hh) (lqo_loo hm) hb
theorem mks {el : TypeId} {sz by_ k : Nat} {z : D} {α : Type} {f : α → D} {n' : Int} {u : α} (hx : lq n e x = some (.d (eI n'))) (hy : lq n e y = some (.d (eI n'))) (un : P.underlying t = some (.slice el)) (E : EI P el sz by_ z) (hv : f u = z) (hn : 0 ≤ n' ∧ n' * by_ ≤ 70368744177664 ∧ n' ≤ 70368744177664)
  (hσ : snq σ (.row sz ((List.replicate n'.toNat u).map f) true) k = some σ') : Yl P n e σ (.makeSlice t x y) (.slc k sz 0 (List.replicate n'.toNat u).length none) σ' :=
 .w (fun o ho => A_makeSlice ho (lq_lo hx) (lq_lo hy) (mkSlc un E hv hn.1 hn.2 (snq_eq hσ).1 (snq_eq hσ).2)) (AW.slcc rfl rfl)
theorem mkf {f : Fn} {first caps : Array Operand} {xs ys : List AV} (hx : lqs n e first.toList = some xs) (hy : lqs n e caps.toList = some ys) : Yl P n e σ (.makeFunc f first caps) (.fn f xs ys) σ := .of fun o ho => A_makeFunc ho (lqs_los hx) (lqs_los hy)
theorem ext {i : Nat} {vs : List AV} (hx : lq n e x = some (.tuple vs)) (hv : vs[i]? = some v) : Yl P n e σ (.extract x i) v σ := .of fun o ho => A_extract ho (lq_lo hx) hv
theorem len {cl : Call} (hb : cl.callee = .builtin .len) (ht : cl.argTypes[0]? = some t) (hx : lqs n e cl.args.toList = some [a]) (hl : alen P t a = some v) : Yl P n e σ (.call cl) v σ := .of fun o ho => A_len ho hb ht (lqs_los hx) hl
theorem app {cl : Call} {t2 : TypeId} (hb : cl.callee = .builtin .append) (ht : cl.argTypes[0]? = some t) (ht2 : cl.argTypes[1]? = some t2) (hx : lqs n e cl.args.toList = some [a, b]) (hn : byCount P t2 = false) (hl : aappend P σ t a b = some (v, σ')) : Yl P n e σ (.call cl) v σ' :=
 .of fun o ho => A_append ho hb ht ht2 (lqs_los hx) hn hl
section
variable {el : TypeId} {sz by_ k id len off : Nat} {z : D} {α : Type} {f : α → D} {xs ys : List α} {w : AV}
theorem aF (hl : len = xs.length) (un : P.underlying t = some (.slice el)) (E : EI P el sz by_ z) (h : σ[id]? = some (.row sz (xs.map f) true)) (hx : elems σ sz w = some (ys.map f)) (hr : (xs.length + ys.length) * by_ ≤ room) (hσ : mvq σ id (.row sz ((xs ++ ys).map f) true) k = some σ') :
  aappend P σ t (.slc id sz 0 len none) w = some (.slc k sz 0 (xs ++ ys).length none, σ') := ApFull hl un E h hx hr (mvq_eq hσ).1 (mvq_eq hσ).2
theorem aN (un : P.underlying t = some (.slice el)) (E : EI P el sz by_ z) (hx : elems σ sz w = some (ys.map f)) (hr : ys.length * by_ ≤ room) (hσ : snq σ (.row sz (ys.map f) true) k = some σ') :
  aappend P σ t (.d .nils) w = some (.slc k sz 0 ys.length none, σ') := apNil un E hx hr (snq_eq hσ).1 (snq_eq hσ).2
theorem sB {s : Nat} {c d d' : AV} (hs : tsize P t = some s) (hl : d.cells.length = s) (h1 : d.cells.all AV.one = true) (h : σ[id]? = some (.box c)) (hx : c.isAgg = true) (ho : Nat.ble (off + s) c.cells.length = true) (hd : mkAgg (over c.cells off d.cells) = d') (hσ : setO σ id (.box d') = some σ') : astore P σ t (.ref id 0 off) d = some σ' :=
 st_box hs rfl hl h1 h hx (Nat.le_of_ble_eq_true ho) (by rw [hd]; exact setO_set hσ)
theorem sR {idx sz : Nat} {y : D} {v : α} {o : α} (hs : tsize P t = some 1) (hy : f v = y) (hc : y.cells = [y]) (ha : y.isAgg = false) (h : σ[id]? = some (.row sz (xs.map f) true)) (hx : xs[idx]? = some o) (hoc : (f o).isAgg = false) (hσ : setO σ id (.row sz ((xs.set idx v).map f) true) = some σ') : astore P σ t (.ref id idx 0) (.d y) = some σ' :=
 st_row1 hs hy hc ha h hx hoc (setO_set hσ)
theorem fF {len : Nat} {wr : Bool} {cap : Option Nat} (hl : len = xs.length) (h : σ[id]? = some (.row sz (xs.map f) wr)) (hσ : setO σ id (.row sz (xs.map f) false) = some σ') : Lv.frz σ (.slc id sz 0 len cap) = some (eL sz f xs, σ') := by
 rw [frz_full hl h, setO_set hσ]
end
variable {ops : Array Oper} {l : List Oper} {d : Option Nat} {dd : Nat} {op : Op} {ty : TypeId} {pos : String} {af : Array Edge} {g : Option (Nat × Bool)}
theorem wf : Wanted ops n e ⟨d, op, ty, pos, af, none⟩ true := Wanted.free rfl
theorem wb {j t : Nat} {w b c : Bool} (h1 : (ops[j]?).bind (·.dst) = some t) (h2 : lq n e (.tmp t) = some (.d (.bool b))) (h3 : (b == w) = c) : Wanted ops n e ⟨d, op, ty, pos, af, some (j, w)⟩ c := Wanted.by rfl h1 (lq_lo h2) h3
theorem wo {j t : Nat} {w : Bool} (h1 : (ops[j]?).bind (·.dst) = some t) (h2 : lq n e (.tmp t) = some (.tuple [])) : Wanted ops n e ⟨d, op, ty, pos, af, some (j, w)⟩ false := Wanted.out rfl h1 (lq_lo h2)
theorem g1 {Q : St → Prop} (hw : Wanted ops n e ⟨some dd, op, ty, pos, af, g⟩ true) (ha : Yl P n e σ op v σ') (k : SO P m ops l ⟨mk n ((dd, v) :: e), σ'⟩ Q) : SO P m ops (⟨some dd, op, ty, pos, af, g⟩ :: l) ⟨mk n e, σ⟩ Q := by
 obtain ⟨v0, h1, h2⟩ := ha
 exact SO.opW hw rfl (h1 _ rfl) h2 k
theorem g0 {Q : St → Prop} (hw : Wanted ops n e ⟨none, op, ty, pos, af, g⟩ true) (ha : Yl P n e σ op v σ') (k : SO P m ops l ⟨mk n e, σ'⟩ Q) : SO P m ops (⟨none, op, ty, pos, af, g⟩ :: l) ⟨mk n e, σ⟩ Q := by
 obtain ⟨v0, h1, h2⟩ := ha
 exact SO.op0 hw rfl (h1 _ rfl) k
theorem s1 {Q : St → Prop} (ha : Yl P n e σ op v σ') (k : SO P m ops l ⟨mk n ((dd, v) :: e), σ'⟩ Q) : SO P m ops (⟨some dd, op, ty, pos, af, none⟩ :: l) ⟨mk n e, σ⟩ Q := g1 wf ha k
theorem s0 {Q : St → Prop} (ha : Yl P n e σ op v σ') (k : SO P m ops l ⟨mk n e, σ'⟩ Q) : SO P m ops (⟨none, op, ty, pos, af, none⟩ :: l) ⟨mk n e, σ⟩ Q := g0 wf ha k
theorem k1 {Q : St → Prop} (hw : Wanted ops n e ⟨some dd, op, ty, pos, af, g⟩ false) (k : SO P m ops l ⟨mk n ((dd, .tuple []) :: e), σ⟩ Q) : SO P m ops (⟨some dd, op, ty, pos, af, g⟩ :: l) ⟨mk n e, σ⟩ Q := SO.skip hw rfl k
theorem k0 {Q : St → Prop} (hw : Wanted ops n e ⟨none, op, ty, pos, af, g⟩ false) (k : SO P m ops l ⟨mk n e, σ⟩ Q) : SO P m ops (⟨none, op, ty, pos, af, g⟩ :: l) ⟨mk n e, σ⟩ Q := SO.skip0 hw rfl k
variable {acc : List (List Nat × Bool)} {R : St → List (List Nat × Bool) → Prop}
theorem u1 (mk' : List Nat × Bool) (hw : Wanted ops n e ⟨some dd, op, ty, pos, af, g⟩ true) (ha : Yl P n e σ op v σ') (hm : marked (mk n e) σ σ' ⟨some dd, op, ty, pos, af, g⟩ = mk') (k : ST P ops l ⟨mk n ((dd, v) :: e), σ'⟩ (mk' :: acc) R) : ST P ops (⟨some dd, op, ty, pos, af, g⟩ :: l) ⟨mk n e, σ⟩ acc R := by
 obtain ⟨v0, h1, h2⟩ := ha
 exact ST.opW hw rfl (h1 _ rfl) h2 hm k
theorem u0 (mk' : List Nat × Bool) (hw : Wanted ops n e ⟨none, op, ty, pos, af, g⟩ true) (ha : Yl P n e σ op v σ') (hm : marked (mk n e) σ σ' ⟨none, op, ty, pos, af, g⟩ = mk') (k : ST P ops l ⟨mk n e, σ'⟩ (mk' :: acc) R) : ST P ops (⟨none, op, ty, pos, af, g⟩ :: l) ⟨mk n e, σ⟩ acc R := by
 obtain ⟨v0, h1, h2⟩ := ha
 exact ST.op0 hw rfl (h1 _ rfl) hm k
theorem t1 (mk' : List Nat × Bool) (ha : Yl P n e σ op v σ') (hm : marked (mk n e) σ σ' ⟨some dd, op, ty, pos, af, none⟩ = mk') (k : ST P ops l ⟨mk n ((dd, v) :: e), σ'⟩ (mk' :: acc) R) : ST P ops (⟨some dd, op, ty, pos, af, none⟩ :: l) ⟨mk n e, σ⟩ acc R := u1 mk' wf ha hm k
theorem t0 (mk' : List Nat × Bool) (ha : Yl P n e σ op v σ') (hm : marked (mk n e) σ σ' ⟨none, op, ty, pos, af, none⟩ = mk') (k : ST P ops l ⟨mk n e, σ'⟩ (mk' :: acc) R) : ST P ops (⟨none, op, ty, pos, af, none⟩ :: l) ⟨mk n e, σ⟩ acc R := u0 mk' wf ha hm k
theorem j1 (hw : Wanted ops n e ⟨some dd, op, ty, pos, af, g⟩ false) (k : ST P ops l ⟨mk n ((dd, .tuple []) :: e), σ⟩ (([], false) :: acc) R) : ST P ops (⟨some dd, op, ty, pos, af, g⟩ :: l) ⟨mk n e, σ⟩ acc R := ST.skip hw rfl k
def wtq (ops : Array Oper) (n : Nat) (e : En) (j : Nat) (w : Bool) : Option Bool :=
 match (ops[j]?).bind (·.dst) with
 | some t => match lq n e (.tmp t) with
  | some (.d (.bool b)) => some (b == w)
  | some (.tuple []) => some false
  | _ => none
 | none => none
theorem ww {j : Nat} {w c : Bool} (h : wtq ops n e j w = some c) : Wanted ops n e ⟨d, op, ty, pos, af, some (j, w)⟩ c := by
 unfold wtq at h
 split at h
 ·rename_i t ht
  split at h
  ·rename_i b hb
   exact wb ht hb (Option.some.inj h)
  ·rename_i hb
   cases h
   exact wo ht hb
  ·cases h
 ·cases h
theorem kw {Q : St → Prop} {j : Nat} {w : Bool} (h : wtq ops n e j w = some false) (k : SO P m ops l ⟨mk n ((dd, .tuple []) :: e), σ⟩ Q) : SO P m ops (⟨some dd, op, ty, pos, af, some (j, w)⟩ :: l) ⟨mk n e, σ⟩ Q := k1 (ww h) k
theorem jw {j : Nat} {w : Bool} (h : wtq ops n e j w = some false) (k : ST P ops l ⟨mk n ((dd, .tuple []) :: e), σ⟩ (([], false) :: acc) R) : ST P ops (⟨some dd, op, ty, pos, af, some (j, w)⟩ :: l) ⟨mk n e, σ⟩ acc R := j1 (ww h) k
theorem gw {Q : St → Prop} {j : Nat} {w : Bool} (h : wtq ops n e j w = some true) (ha : Yl P n e σ op v σ') (k : SO P m ops l ⟨mk n ((dd, v) :: e), σ'⟩ Q) : SO P m ops (⟨some dd, op, ty, pos, af, some (j, w)⟩ :: l) ⟨mk n e, σ⟩ Q := g1 (ww h) ha k
theorem sm {Q : St → Prop} (h : lq n e x = some v) (k : SO P m ops l ⟨mk n ((dd, v) :: e), σ⟩ Q) : SO P m ops (⟨some dd, .move x, ty, pos, af, none⟩ :: l) ⟨mk n e, σ⟩ Q := s1 (mv h) k
theorem sa {Q : St → Prop} (h : lq n e x = some v) (k : SO P m ops l ⟨mk n ((dd, v) :: e), σ⟩ Q) : SO P m ops (⟨some dd, .assign x, ty, pos, af, none⟩ :: l) ⟨mk n e, σ⟩ Q := s1 (asg h) k
theorem c0 {Q : St → Prop} {c : Call} {fo : Operand} {f : FuncId} {args : List AV} {r : AV} (hc : CallAt P f args [] r []) (hw : Wanted ops n e ⟨some dd, .call c, ty, pos, af, g⟩ true) (hargs : lqs n e c.args.toList = some args) (hcal : c.callee = .value fo)
  (hfo : lq n e fo = some (.fn (.func f) [] [])) (hcb : callable P f = true) (hi : idsL args = []) (hre : ∀ h, reL h args = some args) (hr : ∀ h, r.re h = some r)
  (k : SO P m ops l ⟨mk n ((dd, r) :: e), σ⟩ Q) : SO P m ops (⟨some dd, .call c, ty, pos, af, g⟩ :: l) ⟨mk n e, σ⟩ Q :=
 SO.call0 hw rfl rfl (lqs_los hargs) hcal (lq_lo hfo) hcb hi hre hr hc k
theorem tc0 {c : Call} {fo : Operand} {f : FuncId} {args : List AV} {r : AV} (hc : CallAt P f args [] r []) (hw : Wanted ops n e ⟨some dd, .call c, ty, pos, af, g⟩ true) (hargs : lqs n e c.args.toList = some args) (hcal : c.callee = .value fo)
  (hfo : lq n e fo = some (.fn (.func f) [] [])) (hcb : callable P f = true) (hi : idsL args = []) (hre : ∀ h, reL h args = some args) (hr : ∀ h, r.re h = some r)
  (k : ST P ops l ⟨mk n ((dd, r) :: e), σ⟩ (([], true) :: acc) R) : ST P ops (⟨some dd, .call c, ty, pos, af, g⟩ :: l) ⟨mk n e, σ⟩ acc R :=
 ST.call0 hw rfl rfl (lqs_los hargs) hcal (lq_lo hfo) hcb hi hre hr hc k
theorem sp {β : Type} {w1 w2 z : β} {b : Bool} {Q : St → Prop} (h : (bif b then w1 else w2) = z) (ht : w1 = z → SO P m ops l ⟨mk n ((dd, .d (.bool true)) :: e), σ⟩ Q) (hf : w2 = z → SO P m ops l ⟨mk n ((dd, .d (.bool false)) :: e), σ⟩ Q) : SO P m ops l ⟨mk n ((dd, .d (.bool b)) :: e), σ⟩ Q := by
 cases b with
 | true => exact ht h
 | false => exact hf h
theorem tp {β : Type} {w1 w2 z : β} {b : Bool} (h : (bif b then w1 else w2) = z) (ht : w1 = z → ST P ops l ⟨mk n ((dd, .d (.bool true)) :: e), σ⟩ acc R) (hf : w2 = z → ST P ops l ⟨mk n ((dd, .d (.bool false)) :: e), σ⟩ acc R) : ST P ops l ⟨mk n ((dd, .d (.bool b)) :: e), σ⟩ acc R := by
 cases b with
 | true => exact ht h
 | false => exact hf h
variable {A B : Code} {Q : Ex → St → Prop} {s : St}
theorem cB {β : Type} {w1 w2 z : β} {b : Bool} {c : Operand} (h : (bif b then w1 else w2) = z) (hc : lq n e c = some (.d (.bool b))) (h1 : w1 = z → SC P m A ⟨mk n e, σ⟩ Q) (h2 : w2 = z → SC P m B ⟨mk n e, σ⟩ Q) : SC P m (.cond c A B) ⟨mk n e, σ⟩ Q :=
 SC.condB (lq_lo hc) (fun hb => h1 (ct hb h)) (fun hb => h2 (cf hb h))
theorem cT {c : Operand} (hc : lq n e c = some (.d (.bool true))) (h : SC P m A ⟨mk n e, σ⟩ Q) : SC P m (.cond c A B) ⟨mk n e, σ⟩ Q := SC.condT (lq_lo hc) h
theorem cF {c : Operand} (hc : lq n e c = some (.d (.bool false))) (h : SC P m B ⟨mk n e, σ⟩ Q) : SC P m (.cond c A B) ⟨mk n e, σ⟩ Q := SC.condF (lq_lo hc) h
def Sq (P : Program) (m : Nat) (B : Code) (Q : Ex → St → Prop) (e : Ex) (s : St) : Prop := match e with
 | .normal => SC P m B s Q
 | e => Q e s
theorem sq (h : SC P m A s (Sq P m B Q)) : SC P m (.seq A B) s Q := SC.seq (h.mono fun e s q => by cases e <;> exact q)
theorem sk (h : SC P m B s Q) : SC P m .skip s (Sq P m B Q) := SC.skip h
theorem lb {i : Nat} (h : SC P m B s Q) : SC P m (.label i) s (Sq P m B Q) := SC.label h
theorem sr {id : Nat} (h : SO P m ops ops.toList s (fun s' => SC P m B s' Q)) : SC P m (.seq (.region id ops false) B) s Q := SC.seq (SC.region h)
theorem sn (h : SC P m B s Q) : SO P m ops [] s (fun s' => SC P m B s' Q) := SO.nil h
theorem sd {id : Nat} (hok : textOk P ops = true) (h : ST P ops ops.toList s [] (fun s' t => unorderedOk ops t = true ∧ SC P m B s' Q)) : SC P m (.seq (.region id ops true) B) s Q := sq (SC.draws hok h)
theorem tn (h1 : unorderedOk ops acc.reverse = true) (h : SC P m B s Q) : ST P ops [] s acc (fun s' t => unorderedOk ops t = true ∧ SC P m B s' Q) := ST.nil ⟨h1, h⟩
theorem si {α : Type} {x y : α} (h : some x = some y) : x = y := Option.some.inj h
theorem wq {e' : En} (h : e'.map (fun p => (p.1, lk e p.1)) = e') : Wk m ⟨mk n e, σ⟩ ⟨mk n e', σ⟩ := by
 refine Wk.env ?_
 have key : ∀ l : En, l.map (fun p => (p.1, lk e p.1)) = l → EW e l := by
  intro l
  induction l with
  | nil => intro _; exact trivial
  | cons p r ih =>
   intro h
   simp only [List.map_cons, List.cons.injEq] at h
   exact ⟨AW.of_eq (by rw [← h.1]), ih h.2⟩
 exact key e' h
theorem wc (ι roots : List Nat) {os : List Ob} {e' : En} (hcan : Lv.canon σ roots = some (ι, os)) (ht : ι.take m = List.range m) (he : e'.map (fun p => (lk e p.1).re (numberIn ι)) = e'.map (fun p => some p.2)) : Wk m ⟨mk n e, σ⟩ ⟨mk n e', os⟩ := by
 intro ro0 μ0 w0 H0 ro μ w a hr
 refine ⟨ro, muIn μ ι, hr.canon hcan ht ⟨by rw [hr.env.size, mk_length, mk_length], fun i y v hy hv => ?_⟩⟩
 obtain ⟨hi, rfl⟩ := mk_get' hy
 have key : ∀ l : En, l.map (fun p => (lk e p.1).re (numberIn ι)) = l.map (fun p => some p.2) → ∀ i, lk l i = .undef ∨ (lk e i).re (numberIn ι) = some (lk l i) := by
  intro l
  induction l with
  | nil => intro _ i; exact .inl rfl
  | cons p r ih =>
   intro h i
   simp only [List.map_cons, List.cons.injEq] at h
   obtain ⟨j, x⟩ := p
   simp only [lk]
   cases hb : Nat.beq j i with
   | true => have := Nat.eq_of_beq_eq_true hb; subst this; exact .inr h.1
   | false => exact ih h.2 i
 rcases key e' he i with h | h
 ·rw [h]; exact .undef v
 ·exact VR_re muIn_num (hr.env.get i _ v (mk_get hi) hv) _ h
end
def zipq : List Nat → List AV → Option En
 | [], [] => some []
 | i :: r, x :: l => match zipq r l with
  | some e => some ((i, x) :: e)
  | none => none
 | _, _ => none
theorem fn0 {P : Program} {f : FuncId} {args : List AV} {σ σ' : List Ob} {r : AV} {fn : Func} {c : Code} {n : Nat} {e : En} (ι : List Nat) (hfn : P.funcs[f]? = some fn) (hbody : fn.body = some c) (hn : fn.ntmps = n) (hz : zipq ι args = some e) (he : enum 0 args = e) (hl : Nat.ble args.length n = true)
  (h : SC P σ.length c ⟨mk n e, σ⟩ (fun e s => ∃ s1, Wk σ.length s s1 ∧ Fin P fn r σ' e s1)) : CallAt P f args σ r σ' := by
 subst hn
 subst he
 exact CallAt.of hfn hbody (SC.post (SC.wk (Wk.begin (Nat.le_of_ble_eq_true hl)) h) (fun _ _ h => h))
theorem q_u8_add {P : Program} {t : TypeId} {a b : UInt8} : ∀ X Y, abinOp P .add t X Y (.d (eU8 a)) (.d (eU8 b)) = some (.d (eU8 (a + b))) := fun X Y => b_u8_add t X Y a b
theorem q_u8_sub {P : Program} {t : TypeId} {a b : UInt8} : ∀ X Y, abinOp P .sub t X Y (.d (eU8 a)) (.d (eU8 b)) = some (.d (eU8 (a - b))) := fun X Y => b_u8_sub t X Y a b
theorem q_u8_eql {P : Program} {t : TypeId} {a b : UInt8} : ∀ X Y, abinOp P .eql t X Y (.d (eU8 a)) (.d (eU8 b)) = some (.d (.bool (a == b))) := fun X Y => b_u8_eql t X Y a b
theorem q_u8_neq {P : Program} {t : TypeId} {a b : UInt8} : ∀ X Y, abinOp P .neq t X Y (.d (eU8 a)) (.d (eU8 b)) = some (.d (.bool (a != b))) := fun X Y => b_u8_neq t X Y a b
theorem q_u8_lss {P : Program} {t : TypeId} {a b : UInt8} : ∀ X Y, abinOp P .lss t X Y (.d (eU8 a)) (.d (eU8 b)) = some (.d (.bool (decide (a < b)))) := fun X Y => b_u8_lss t X Y a b
theorem q_u8_leq {P : Program} {t : TypeId} {a b : UInt8} : ∀ X Y, abinOp P .leq t X Y (.d (eU8 a)) (.d (eU8 b)) = some (.d (.bool (decide (a ≤ b)))) := fun X Y => b_u8_leq t X Y a b
theorem q_u8_gtr {P : Program} {t : TypeId} {a b : UInt8} : ∀ X Y, abinOp P .gtr t X Y (.d (eU8 a)) (.d (eU8 b)) = some (.d (.bool (decide (b < a)))) := fun X Y => b_u8_gtr t X Y a b
theorem q_u8_geq {P : Program} {t : TypeId} {a b : UInt8} : ∀ X Y, abinOp P .geq t X Y (.d (eU8 a)) (.d (eU8 b)) = some (.d (.bool (decide (b ≤ a)))) := fun X Y => b_u8_geq t X Y a b
theorem q_u64_xor {P : Program} {t : TypeId} {a b : UInt64} : ∀ X Y, abinOp P .xor t X Y (.d (eU64 a)) (.d (eU64 b)) = some (.d (eU64 (a ^^^ b))) := fun X Y => b_u64_xor t X Y a b
theorem q_u64_eql {P : Program} {t : TypeId} {a b : UInt64} : ∀ X Y, abinOp P .eql t X Y (.d (eU64 a)) (.d (eU64 b)) = some (.d (.bool (a == b))) := fun X Y => b_u64_eql t X Y a b
theorem q_u64_lss {P : Program} {t : TypeId} {a b : UInt64} : ∀ X Y, abinOp P .lss t X Y (.d (eU64 a)) (.d (eU64 b)) = some (.d (.bool (decide (a < b)))) := fun X Y => b_u64_lss t X Y a b
theorem q_u64_leq {P : Program} {t : TypeId} {a b : UInt64} : ∀ X Y, abinOp P .leq t X Y (.d (eU64 a)) (.d (eU64 b)) = some (.d (.bool (decide (a ≤ b)))) := fun X Y => b_u64_leq t X Y a b
theorem q_str_eql {P : Program} {t : TypeId} {a b : List UInt8} : ∀ X Y, abinOp P .eql t X Y (.d (eS a)) (.d (eS b)) = some (.d (.bool (a == b))) := fun X Y => b_str_eql t X Y a b
theorem q_str_neq {P : Program} {t : TypeId} {a b : List UInt8} : ∀ X Y, abinOp P .neq t X Y (.d (eS a)) (.d (eS b)) = some (.d (.bool (a != b))) := fun X Y => b_str_neq t X Y a b
theorem q_str_leq {P : Program} {t : TypeId} {a b : List UInt8} : ∀ X Y, abinOp P .leq t X Y (.d (eS a)) (.d (eS b)) = some (.d (.bool (ltS a b || a == b))) := fun X Y => b_str_leq t X Y a b
theorem q_i64_eql {P : Program} {t : TypeId} {a b : Int} : ∀ X Y, abinOp P .eql t X Y (.d (eI a)) (.d (eI b)) = some (.d (eB (a == b))) := fun X Y => b_i64_eql t X Y a b
theorem q_i64_neq {P : Program} {t : TypeId} {a b : Int} : ∀ X Y, abinOp P .neq t X Y (.d (eI a)) (.d (eI b)) = some (.d (eB (a != b))) := fun X Y => b_i64_neq t X Y a b
theorem q_i64_lss {P : Program} {t : TypeId} {a b : Int} : ∀ X Y, abinOp P .lss t X Y (.d (eI a)) (.d (eI b)) = some (.d (eB (decide (a < b)))) := fun X Y => b_i64_lss t X Y a b
theorem q_i64_leq {P : Program} {t : TypeId} {a b : Int} : ∀ X Y, abinOp P .leq t X Y (.d (eI a)) (.d (eI b)) = some (.d (eB (decide (a ≤ b)))) := fun X Y => b_i64_leq t X Y a b
theorem q_i64_gtr {P : Program} {t : TypeId} {a b : Int} : ∀ X Y, abinOp P .gtr t X Y (.d (eI a)) (.d (eI b)) = some (.d (eB (decide (a > b)))) := fun X Y => b_i64_gtr t X Y a b
theorem q_i64_geq {P : Program} {t : TypeId} {a b : Int} : ∀ X Y, abinOp P .geq t X Y (.d (eI a)) (.d (eI b)) = some (.d (eB (decide (a ≥ b)))) := fun X Y => b_i64_geq t X Y a b
theorem q_i64_add {P : Program} {t : TypeId} {a b : Int} : ∀ X Y, abinOp P .add t X Y (.d (eI a)) (.d (eI b)) = some (.d (eI (w64 (a + b)))) := fun X Y => b_i64_add t X Y a b
theorem q_i64_sub {P : Program} {t : TypeId} {a b : Int} : ∀ X Y, abinOp P .sub t X Y (.d (eI a)) (.d (eI b)) = some (.d (eI (w64 (a - b)))) := fun X Y => b_i64_sub t X Y a b
theorem q_i64_mul {P : Program} {t : TypeId} {a b : Int} : ∀ X Y, abinOp P .mul t X Y (.d (eI a)) (.d (eI b)) = some (.d (eI (w64 (a * b)))) := fun X Y => b_i64_mul t X Y a b
def appq : List Ob → List Ob → Option (List Ob)
 | [], os => some os
 | x :: r, os => match appq r os with
  | some l => some (x :: l)
  | none => none
theorem appq_eq : ∀ {a b l : List Ob}, appq a b = some l → a ++ b = l
 | [], b, l, h => by simp only [appq, Option.some.injEq] at h; simp [h]
 | x :: r, b, l, h => by
  simp only [appq] at h
  split at h
  ·rename_i l' hl; cases h; rw [List.cons_append, appq_eq hl]
  ·cases h
def mgq : List Ob → List Nat → List Ob → Option (List Ob)
 | σ, [], os => appq σ os
 | σ, i :: r, o :: os => match setO σ i o with
  | some σ1 => mgq σ1 r os
  | none => none
 | _, _ :: _, [] => none
theorem mgq_eq : ∀ {ι : List Nat} {σ os l : List Ob}, mgq σ ι os = some l → setAll σ ι (os.take ι.length) ++ os.drop ι.length = l ∧ ι.length ≤ os.length
 | [], σ, os, l, h => by
  simp only [mgq] at h
  exact ⟨by simpa [setAll] using appq_eq h, Nat.zero_le _⟩
 | i :: r, σ, [], l, h => by simp [mgq] at h
 | i :: r, σ, o :: os, l, h => by
  simp only [mgq] at h
  split at h
  ·rename_i σ1 hs
   obtain ⟨h1, h2⟩ := mgq_eq h
   have := setO_set hs
   subst this
   refine ⟨?_, by simpa using h2⟩
   simpa [setAll] using h1
  ·cases h
def bkq (κ : List Nat) (j : Nat) : Option Nat := κ[j]?
theorem bkq_eq {ι ν : List Nat} {n k : Nat} (h : List.range' n (k - ι.length) = ν) (hl : Nat.ble ι.length k = true) : backIn ι n k = bkq (ι ++ ν) := by
 subst h
 funext j
 have hl := Nat.le_of_ble_eq_true hl
 unfold backIn bkq
 by_cases h1 : j < ι.length
 ·rw [if_pos h1, List.getElem?_append_left h1]
 ·rw [if_neg h1, List.getElem?_append_right (by omega)]
  by_cases h2 : j < k
  ·rw [if_pos h2, List.getElem?_eq_getElem (by simp; omega)]
   simp
  ·rw [if_neg h2, List.getElem?_eq_none (by simp; omega)]
section
variable {P : Program} {m : Nat} {n : Nat} {e : En} {σ σ' : List Ob} {ops : Array Oper} {l : List Oper} {dd : Nat} {ty : TypeId} {pos : String} {af : Array Edge} {g : Option (Nat × Bool)}
theorem cq {Q : St → Prop} {c : Call} {fo : Operand} {f : FuncId} {args first caps args' : List AV} (ι ν : List Nat) {κ : List Nat} {σc σ2 os : List Ob} {r r' : AV} (hc : CallAt P f args' σc r' σ2) (hw : Wanted ops n e ⟨some dd, .call c, ty, pos, af, g⟩ true) (hargs : lqs n e c.args.toList = some args) (hcal : c.callee = .value fo)
  (hfo : lq n e fo = some (.fn (.func f) first caps)) (hcb : callable P f = true) (hcan : canon σ (idsL (first ++ args ++ caps)) = some (ι, σc)) (hre : reL (numberIn ι) (first ++ args ++ caps) = some args')
  (hν : List.range' σ.length (σ2.length - ι.length) = ν) (hl : Nat.ble ι.length σ2.length = true) (hκ : ι ++ ν = κ) (hr : r'.re (bkq κ) = some r) (hos : obsRe (bkq κ) σ2 = some os) (hσ : mgq σ ι os = some σ')
  (k : SO P m ops l ⟨mk n ((dd, r) :: e), σ'⟩ Q) : SO P m ops (⟨some dd, .call c, ty, pos, af, g⟩ :: l) ⟨mk n e, σ⟩ Q := by
 subst hκ
 rw [← bkq_eq hν hl] at hr hos
 obtain ⟨h1, h2⟩ := mgq_eq hσ
 exact SO.call hw rfl rfl (lqs_los hargs) hcal (lq_lo hfo) hcb hcan hre hc hr hos h2 h1 k
variable {acc : List (List Nat × Bool)} {R : St → List (List Nat × Bool) → Prop}
theorem tq {c : Call} {fo : Operand} {f : FuncId} {args first caps args' : List AV} (ι ν : List Nat) (mk' : List Nat × Bool) {κ : List Nat} {σc σ2 os : List Ob} {r r' : AV} (hc : CallAt P f args' σc r' σ2) (hw : Wanted ops n e ⟨some dd, .call c, ty, pos, af, g⟩ true) (hargs : lqs n e c.args.toList = some args) (hcal : c.callee = .value fo)
  (hfo : lq n e fo = some (.fn (.func f) first caps)) (hcb : callable P f = true) (hcan : canon σ (idsL (first ++ args ++ caps)) = some (ι, σc)) (hre : reL (numberIn ι) (first ++ args ++ caps) = some args')
  (hν : List.range' σ.length (σ2.length - ι.length) = ν) (hl : Nat.ble ι.length σ2.length = true) (hκ : ι ++ ν = κ) (hr : r'.re (bkq κ) = some r) (hos : obsRe (bkq κ) σ2 = some os) (hσ : mgq σ ι os = some σ') (hm : marked (mk n e) σ σ' ⟨some dd, .call c, ty, pos, af, g⟩ = mk')
  (k : ST P ops l ⟨mk n ((dd, r) :: e), σ'⟩ (mk' :: acc) R) : ST P ops (⟨some dd, .call c, ty, pos, af, g⟩ :: l) ⟨mk n e, σ⟩ acc R := by
 subst hκ
 rw [← bkq_eq hν hl] at hr hos
 obtain ⟨h1, h2⟩ := mgq_eq hσ
 exact ST.call hw rfl rfl (lqs_los hargs) hcal (lq_lo hfo) hcb hcan hre hc hr hos h2 h1 hm k
theorem fq {f : FuncId} {args args' : List AV} {κ : List Nat} {σc σ2 os : List Ob} (ι ν : List Nat) {r r' : AV} (hc : CallAt P f args' σc r' σ2) (hcan : canon σ (idsL args) = some (ι, σc)) (hre : reL (numberIn ι) args = some args')
  (hν : List.range' σ.length (σ2.length - ι.length) = ν) (hl : Nat.ble ι.length σ2.length = true) (hκ : ι ++ ν = κ) (hr : r'.re (bkq κ) = some r) (hos : obsRe (bkq κ) σ2 = some os) (hσ : mgq σ ι os = some σ') : CallAt P f args σ r σ' := by
 subst hκ
 rw [← bkq_eq hν hl] at hr hos
 obtain ⟨h1, h2⟩ := mgq_eq hσ
 exact CallAt.frame hcan hre hc hr hos h2 h1
end
end Lv
