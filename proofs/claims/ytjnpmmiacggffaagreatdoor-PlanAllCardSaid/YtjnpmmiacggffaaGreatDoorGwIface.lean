/- Values of interface types: made, asserted; their methods called. -/
import Derived.Test.YtjnpmmiacggffaaGreatDoorGwArr
/- Values of interface types: made, asserted; their methods called. -/
namespace Lv
open Go
set_option linter.unusedVariables false
set_option linter.unusedSimpArgs false
set_option linter.unusedSectionVars false
set_option maxRecDepth 100000
variable [bJ]
def Q7 (P : Program) (t : TypeId) : Bool := match P.underlying t with
 | some (.interface _) => false
 | some _ => true
 | none => false
theorem Wv {P : Program} {t : TypeId} (h : Q7 P t = true) : ∃ d, P.underlying t = some d ∧ ∀ ms, d ≠ .interface ms := by
 unfold Q7 at h
 split at h
 ·cases h
 ·rename_i d hd hu
  exact ⟨d, hu, fun ms e => hd ms e⟩
 ·cases h
section
variable {P : Program} {m n : Nat} {e : En} {σ σ' : List Ob} {t : TypeId} {x y z : Operand} {ops : Array Oper} {o : Oper} {l : List Oper}
theorem mki {v : AV} (hx : lq n e x = some v) (hn : Q7 P t = true) : Yl P n e σ (.makeInterface t x) (.iface t v) σ := by
 obtain ⟨d, hu, hd⟩ := Wv hn
 refine .of fun o ho call => ?_
 simp only [lD, ho, dZ (fC hx), hu]
 all_goals (cases d <;> first | rfl | exact absurd rfl (hd _))
theorem tya {v : AV} {xt : TypeId} (hx : lq n e x = some (.iface t v)) (hn : Q7 P t = true) : Yl P n e σ (.typeAssert x xt t false) v σ := by
 obtain ⟨d, hu, hd⟩ := Wv hn
 refine .of fun o ho call => ?_
 simp only [lD, ho, dZ (fC hx), hu]
 all_goals (cases d <;> first | simp | exact absurd rfl (hd _))
def Er (P : Program) (t : TypeId) (name : String) : Option (FuncId × Bool) :=
 match P.info? t with
 | some i => match i.methods.find? (·.name == name) with
  | some m => if m.path.isEmpty = true then m.func else none
  | none => none
 | none => none
theorem Q9 {name : String} {g : FuncId} {ptr : Bool} (h : Er P t name = some (g, ptr)) (k : Nat) (u rv : Value) (w : World) (hr : ∀ wr, (receiverAt t (.val u) ptr wr).run P w = .ok rv w) : (method (k + 1) t u name).run P w = .ok (g, rv) w := by
 unfold Er at h
 split at h
 ·rename_i i hi
  split at h
  ·rename_i m hm
   split at h
   ·rename_i hp
    have hp' : m.path.toList = [] := by
     have : m.path = #[] := by simpa using hp
     rw [this]
    have hti : (typeInfo t).run P w = .ok i w := by simp [typeInfo, hi]
    unfold method
    simp only [Sem.run_bind, hti, Result.andThen_ok, hm, hp', follow, Sem.run_pure, h, hr]
   ·cases h
  ·cases h
 ·cases h
def Gt (P : Program) (σ : List Ob) (t : TypeId) (v : AV) (ptr : Bool) : Option AV :=
 match P.underlying t with
 | some (.pointer el) => if ptr = true then some v else qc P σ el v
 | _ => none
theorem QS {v rv : AV} {ptr : Bool} {ro : Ro} {μ : Mu} {w : World} {u : Value} (g : Good ro μ w (hp σ)) (hv : VR ro μ v u) (h : Gt P σ t v ptr = some rv) : ∃ ru, VR ro μ rv ru ∧ ∀ wr, (receiverAt t (.val u) ptr wr).run P w = .ok ru w := by
 unfold Gt at h
 split at h
 ·rename_i el hu
  split at h
  ·rename_i hp
   subst hp
   obtain rfl := Option.some.inj h
   exact ⟨u, hv, fun wr => by simp only [receiverAt, Sem.run_bind, run_underlying hu, Result.andThen_ok, Place.get, Sem.run_pure]⟩
  ·rename_i hp
   have hp : ptr = false := by simpa using hp
   subst hp
   obtain ⟨r, p, rfl, h1, h2⟩ := Bb g hv h
   refine ⟨r, h2, fun wr => ?_⟩
   cases wr with
   | none => simp only [receiverAt, Sem.run_bind, run_underlying hu, Result.andThen_ok, Place.get, Sem.run_pure, asAddr, h1]
   | some nm =>
    have hk : (Builtin.ssaWrapNilChk_ #[t] t #[.pointer (some p), strVal "", strVal nm]).run P w = .ok (.pointer (some p)) w := rfl
    simp only [receiverAt, Sem.run_bind, run_underlying hu, Result.andThen_ok, Place.get, Sem.run_pure, hk, asAddr, h1]
 ·cases h
theorem SO.invoke {d : Nat} {Q : St → Prop} {c : Call} {xo : Operand} {name : String} {g : FuncId} {v rv : AV} {ptr : Bool} {args args' : List AV} {ι : List Nat} {lM σ2 os : List Ob} {r r' : AV} (hw : Wanted ops n e o true) (hd : o.dst = some d) (ho : o.op = .call c) (hargs : los n e c.args.toList = some args) (jd : c.callee = .invoke xo name)
  (hxo : lo n e xo = some (.iface t v)) (hm : Er P t name = some (g, ptr)) (hrv : Gt P σ t v ptr = some rv) (hcb : callable P g = true) (hcan : canon σ (kL (rv :: args)) = some (ι, lM)) (hre : Bo (fB ι) (rv :: args) = some args')
  (hc : aO P g args' lM r' σ2) (hr : r'.re (ji ι σ.length σ2.length) = some r) (hos : oN (ji ι σ.length σ2.length) σ2 = some os) (hle : ι.length ≤ os.length) (hσ : jq σ ι (os.take ι.length) ++ os.drop ι.length = σ')
  (k : SO P m ops l ⟨mk n ((d, r) :: e), σ'⟩ Q) : SO P m ops (o :: l) ⟨mk n e, σ⟩ Q := by
 intro iP iH w0 H0 ro μ w a j Z hl hrel hQ
 have h0 : ops[j]? = some o := by have := hl 0; simpa using this.symm
 have hl' : ∀ i, l[i]? = ops[j + 1 + i]? := fun i => by have := hl (i + 1); simp at this; rw [this]; congr 1; omega
 simp only [List.length_cons, List.range'_succ]
 rw [wpOps_cons]
 unfold wpOp
 simp only [h0]
 rw [qY hrel.env hw]
 simp only [if_true]
 refine .inl ?_
 have hs : single g args' lM r' σ2 g args' lM = some (r', σ2) := by unfold single; rw [if_pos ⟨rfl, rfl, rfl⟩]
 have hin : oF (single g args' lM r' σ2) g (rv :: args) σ = some (r, σ') := by
  simp only [oF, hcan, hre, hs, hr, hos, hle, if_true, hσ]
 have hxv := cu hrel.env (dZ hxo)
 obtain ⟨u, hu, hvu⟩ : ∃ u, a.eval xo = .iface t u ∧ VR ro μ v u := by
  generalize a.eval xo = q at hxv
  cases hxv with
  | iface _ _ u h => exact ⟨u, rfl, h⟩
 obtain ⟨ru, hru, hrun⟩ := QS hrel.good hvu hrv
 have hsa := jK hrel.env (lu hargs)
 have e0 : (c.args.toList.map a.eval).toArray = c.args.map a.eval := Array.ext' (by simp)
 rw [e0] at hsa
 have hall : oZ ro μ (rv :: args) (#[ru] ++ c.args.map a.eval) := mV (xs := [rv]) ⟨rfl, fun i y q hy hq => by
  match i with
  | 0 => simp at hy hq; subst hy; subst hq; exact hru
  | i + 1 => simp at hy⟩ hsa
 obtain ⟨hlen, JF⟩ := yP (wW hc) hin hrel.good (fun id hid _ => by
  cases hm : μ id with
  | none => rfl
  | some L => have h9 : id < σ.length := hrel.dom id L hm; omega) hall
 have ahV : (execOp a.eval o).run P w = .ok (.enter g (#[ru] ++ c.args.map a.eval)) w := by
  unfold callable at hcb
  split at hcb
  ·rename_i fn hfn
   simp only [Bool.and_eq_true, bne_iff_ne, ne_eq] at hcb
   have hbody : fn.body.isNone = false := by simpa using hcb.2
   obtain ⟨q, hq⟩ : ∃ q, P.types.size + Made.depth = q + 1 := ⟨P.types.size + Made.depth - 1, by
    have : 0 < Made.depth := by decide
    omega⟩
   have hmr := Q9 (P := P) hm q u ru w hrun
   have ex : (#[Value.iface t u] ++ c.args.map a.eval).extract 1 (#[Value.iface t u] ++ c.args.map a.eval).size = c.args.map a.eval := by
    apply Array.ext'
    simp
    rw [List.take_of_length_le (by simp)]
   have e1 : (#[Value.iface t u] ++ c.args.map a.eval)[0]? = some (.iface t u) := by
    rw [Array.getElem?_append_left (by show 0 < 1; omega)]; rfl
   simp only [execOp, ho, resolve, jd, hu, pure_bind, Go.invoke, e1, ex, callMethod, Sem.run_bind, run_program, Result.andThen_ok, hq, hmr, callFunc, hfn, beq_iff_eq, hcb.1, if_false, hbody, Bool.false_eq_true, Sem.run_pure]
  ·cases hcb
 unfold Oper.wp
 rw [ahV]
 simp only [Oper.upon]
 refine JF.mono ?_
 rintro e' w' ⟨v', ro', μ', rfl, k1, k2, k3, k4⟩
 have hop := hrel.op k1 k2 k3 k4 hlen o.dst
 rw [hd] at hop ⊢
 exact k iP iH w0 H0 ro' μ' w' _ (j + 1) Z hl' (by rw [← pV]; exact hop) hQ
theorem abl {el : TypeId} {v : AV} (un : P.underlying t = some (.pointer el)) : Gt P σ t v true = some v := by unfold Gt; rw [un]; rfl
theorem Gs {el : TypeId} {v rv : AV} (un : P.underlying t = some (.pointer el)) (h : qc P σ el v = some rv) : Gt P σ t v false = some rv := by unfold Gt; rw [un]; exact h
variable {dd : Nat} {ty : TypeId} {pos : String} {af : Array Edge} {gd : Option (Nat × Bool)}
theorem iq {Q : St → Prop} {c : Call} {xo : Operand} {name : String} {f : FuncId} {v rv : AV} {ptr : Bool} {args args' : List AV} (ι ν : List Nat) {κ : List Nat} {lM σ2 os : List Ob} {r r' : AV} (hc : aO P f args' lM r' σ2) (hw : Wanted ops n e ⟨some dd, .call c, ty, pos, af, gd⟩ true) (hargs : Qv n e c.args.toList = some args) (jd : c.callee = .invoke xo name)
  (hxo : lq n e xo = some (.iface t v)) (hm : Er P t name = some (f, ptr)) (hrv : Gt P σ t v ptr = some rv) (hcb : callable P f = true) (hcan : canon σ (kL (rv :: args)) = some (ι, lM)) (hre : Bo (fB ι) (rv :: args) = some args')
  (ZH : List.range' σ.length (σ2.length - ι.length) = ν) (hl : Nat.ble ι.length σ2.length = true) (hκ : ι ++ ν = κ) (hr : r'.re (Va κ) = some r) (hos : oN (Va κ) σ2 = some os) (hσ : YC σ ι os = some σ')
  (k : SO P m ops l ⟨mk n ((dd, r) :: e), σ'⟩ Q) : SO P m ops (⟨some dd, .call c, ty, pos, af, gd⟩ :: l) ⟨mk n e, σ⟩ Q := by
 subst hκ
 rw [← JZ ZH hl] at hr hos
 obtain ⟨h1, h2⟩ := FD hσ
 exact SO.invoke hw rfl rfl (lQ hargs) jd (fC hxo) hm hrv hcb hcan hre hc hr hos h2 h1 k
theorem SO.step {d : Nat} {v : AV} {Q : St → Prop} (hw : Wanted ops n e o true) (hd : o.dst = some d)
  (h : ∀ (a : Act) (ro : Ro) (μ : Mu) (w : World), oZ ro μ (Lv.mk n e) a.tmps → Good ro μ w (hp σ) → (∀ id L, μ id = some L → id < σ.length) → ∃ s, execOp a.eval o = (do pure (.value (← s))) ∧ Step P s ro μ w σ v σ')
  (k : SO P m ops l ⟨mk n ((d, v) :: e), σ'⟩ Q) : SO P m ops (o :: l) ⟨mk n e, σ⟩ Q := by
 intro iP iH w0 H0 ro μ w a j Z hl hrel hQ
 have h0 : ops[j]? = some o := by have := hl 0; simpa using this.symm
 have hl' : ∀ i, l[i]? = ops[j + 1 + i]? := fun i => by have := hl (i + 1); simp at this; rw [this]; congr 1; omega
 simp only [List.length_cons, List.range'_succ]
 rw [wpOps_cons]
 unfold wpOp
 simp only [h0]
 rw [qY hrel.env hw]
 simp only [if_true]
 refine .inl ?_
 obtain ⟨s, he, hs⟩ := h a ro μ w hrel.env hrel.good (fun id L hL => hrel.dom id L hL)
 refine jH he hs fun v' ro' μ' w' k1 k2 k3 k4 k5 => ?_
 have hop := hrel.op k1 k2 k3 k4 k5 o.dst
 rw [hd] at hop ⊢
 exact k iP iH w0 H0 ro' μ' w' _ (j + 1) Z hl' (by rw [← pV]; exact hop) hQ
theorem afI {Q : St → Prop} {c : Call} {xo : Operand} {el : TypeId} (un : P.underlying t = some (.slice el)) (hw : Wanted ops n e ⟨some dd, .call c, ty, pos, af, gd⟩ true) (hb : c.callee = .builtin .cap) (hargs : c.args = #[xo]) (hat : c.argTypes[0]? = some t) (hx : lq n e xo = some (.d .dn))
  (k : SO P m ops l ⟨mk n ((dd, .d (.int .i64 0)) :: e), σ⟩ Q) : SO P m ops (⟨some dd, .call c, ty, pos, af, gd⟩ :: l) ⟨mk n e, σ⟩ Q := by
 refine SO.step (d := dd) (v := .d (.int .i64 0)) (σ' := σ) hw rfl (fun a ro μ w he g hdom => ?_) k
 have hv := fI (cu he (dZ (fC hx))) rfl
 refine ⟨Builtin.cap_ c.argTypes ty #[a.eval xo], ?_, Step.still g ⟨.int .i64 0, by rw [hv]; simp [Builtin.cap_, hat, run_underlying un, goInt], .d _ _ (.int _ _)⟩⟩
 simp only [execOp, resolve, hb, pure_bind, Go.invoke, hargs, List.map_toArray, List.map_cons, List.map_nil]
 rfl
theorem IG {w : World} {at_ : Array TypeId} {ty t t2 e : TypeId} {i : TypeInfo} {ik : IntKind} {kk : Nat} {z : Value} (h0 : at_[0]? = some t) (h1 : at_[1]? = some t2) (hu : P.underlying t = some (.slice e)) (hi : P.info? e = some i) (hu2 : P.underlying t2 = some (.int ik))
  (hb : i.bytes ≠ 0) (hs : i.size ≠ 0) (hk : 0 < kk) (hroom : kk * i.bytes ≤ room) (hz : ∀ w, (zeroValue e).run P w = .ok z w) :
  ∃ q : Nat, kk ≤ q ∧ (Builtin.append_ at_ ty #[.slice none 0 0, .int .i64 (kk : Int)]).run P w = .ok (.slice (some ⟨w.heap.size, 0, none⟩) kk q) { oW w with heap := w.heap.push (.cells (#[] ++ Builtin.zeroCells z.cells kk ++ Builtin.zeroCells z.cells (q - kk)) e) } := by
 have hsz : ∀ w, (Go.sizeOf e).run P w = .ok i.size w := fun w => by simp [Go.sizeOf, typeInfo, hi]
 have hti : ∀ w, (typeInfo e).run P w = .ok i w := fun w => by simp [typeInfo, hi]
 have arM : kk < 9223372036854775808 := by
  have h1 : kk * 1 ≤ kk * i.bytes := Nat.mul_le_mul_left _ (by omega)
  have : room = 140737488355328 := rfl
  omega
 have hnext : ¬ (Builtin.nextslicecap (0 + kk) 0 * i.bytes > 2 ^ 48) := by
  have h1 := nextslicecap_le (n := 0 + kk) (c := 0) (by omega)
  have h2 : Builtin.nextslicecap (0 + kk) 0 * i.bytes ≤ 2 * (0 + kk) * i.bytes := Nat.mul_le_mul_right _ h1
  have h3 : 2 * (0 + kk) * i.bytes = 2 * (kk * i.bytes) := by rw [Nat.zero_add, Nat.mul_assoc]
  unfold room at hroom
  omega
 have hwrap : IntKind.i64.wrap (kk : Int) = (kk : Int) := by rw [IntKind.wrap_i64]; omega
 have hn0 : ¬ (IntKind.i64.wrap (kk : Int) < 0) := by rw [hwrap]; omega
 have hbig : ¬ (IntKind.i64.wrap (kk : Int) * (i.bytes : Int) > 2 ^ 48) := by
  rw [hwrap]
  have e : room = 140737488355328 := rfl
  rw [e] at hroom
  have : (kk : Int) * (i.bytes : Int) = ((kk * i.bytes : Nat) : Int) := (Int.natCast_mul _ _).symm
  rw [this]
  omega
 have hmax : ¬ (((0 + kk : Nat) : Int) > IntKind.i64.max ∧ (True ∨ i.bytes = 0)) := by
  have e : IntKind.i64.max = 9223372036854775807 := rfl
  rw [e]; omega
 have hns : ¬ (kk * i.size = 0) := Nat.mul_ne_zero (by omega) hs
 have hnc : ¬ (0 + kk ≤ 0) := by omega
 refine ⟨(Question.appendCap (0 + kk) 0 e).cut (w.tape w.drawn (.appendCap (0 + kk) 0 e)), by simp only [Question.cut]; omega, ?_⟩
 have hch : (choose (.appendCap (0 + kk) 0 e)).run P w = .ok ((Question.appendCap (0 + kk) 0 e).cut (w.tape w.drawn (.appendCap (0 + kk) 0 e))) (oW w) := rfl
 have hnr : ∀ cs : Array Value, (newRow e cs).run P (oW w) = .ok ⟨w.heap.size, 0, none⟩ { oW w with heap := w.heap.push (.cells cs e) } := fun cs => rfl
 rw [hwrap] at hn0 hbig
 rw [Nat.zero_add] at hnext hmax hnc hch
 have hai : ∀ w, (asInt (.int .i64 (kk : Int))).run P w = .ok (kk : Int) w := fun w => rfl
 have hfc : ∀ w, (Builtin.firstCells i.size 0 (.slice none 0 0)).run P w = .ok #[] w := fun w => rfl
 unfold Builtin.append_
 simp only [h0, h1, List.getElem?_toArray, List.getElem?_cons_zero, List.getElem?_cons_succ]
 simp only [Sem.run_bind, run_underlying hu, run_underlying hu2, hai, hfc, Result.andThen_ok, hsz, Sem.run_pure, if_true, hn0, hbig, if_false, hti, hwrap, Int.toNat_natCast, hnc, Bool.not_true, Bool.false_eq_true, hns, Sem.run_ite, hnext, hmax, hch, run_askRoom, hz, hnr, Nat.zero_add]
theorem aqJ {Q : St → Prop} {c : Call} {so xo : Operand} {el t2 : TypeId} {sz zG k : Nat} {zz : D} {z : Int} {ik : IntKind} (un : P.underlying t = some (.slice el)) (un2 : P.underlying t2 = some (.int ik)) (E : EI P el sz zG zz) (hz : 0 < z ∧ z * zG ≤ 140737488355328) (hw : Wanted ops n e ⟨some dd, .call c, ty, pos, af, gd⟩ true) (hb : c.callee = .builtin .append) (hargs : c.args = #[so, xo]) (h0 : c.argTypes[0]? = some t) (h1 : c.argTypes[1]? = some t2)
  (hs : lq n e so = some (.d .dn)) (hx : lq n e xo = some (.d (eI z))) (hσ : SE σ (.row sz [] true) k = some σ')
  (kn : SO P m ops l ⟨mk n ((dd, .slc k sz 0 z.toNat none) :: e), σ'⟩ Q) : SO P m ops (⟨some dd, .call c, ty, pos, af, gd⟩ :: l) ⟨mk n e, σ⟩ Q := by
 obtain ⟨q1, q2⟩ := nY hσ
 subst q2
 subst q1
 refine SO.step (d := dd) (v := .slc σ.length sz 0 z.toNat none) hw rfl (fun a ro μ w he g hdom => ?_) kn
 have hv := fI (cu he (dZ (fC hs))) rfl
 have hu := fI (cu he (dZ (fC hx))) rfl
 refine ⟨Builtin.append_ c.argTypes ty #[a.eval so, a.eval xo], ?_, ?_⟩
 ·simp only [execOp, resolve, hb, pure_bind, Go.invoke, hargs, List.map_toArray, List.map_cons, List.map_nil]
  rfl
 ·rw [hv, hu]
  obtain ⟨i, hi, hsz, hby⟩ := E.get
  obtain ⟨kk, rfl⟩ : ∃ kk : Nat, z = kk := ⟨z.toNat, by omega⟩
  obtain ⟨zv, hzv, hzd⟩ := qo E.zero ro w
  have WG : ∀ w, (zeroValue el).run P w = .ok zv w := by
   intro w'
   simp only [zeroValue, typeInfo, Sem.run_bind, run_program, Result.andThen_ok, hi, Sem.run_pure] at hzv ⊢
   cases hzz : i.zero with
   | none => simp [hzz] at hzv
   | some y => simp [hzz] at hzv ⊢; exact hzv
  have hzs : zv.cells.size = i.size := by
   have := (qd (μ := μ) (.d zz zv hzd) (by simp)).size
   rw [this, hsz, ← E.len]
   cases zz <;> simp [AV.cells, D.cells]
  have hroom : kk * i.bytes ≤ room := by
   have : (kk : Int) * (zG : Int) = ((kk * zG : Nat) : Int) := (Int.natCast_mul _ _).symm
   have h2 := hz.2
   rw [this] at h2
   rw [hby]
   have e : room = 140737488355328 := rfl
   rw [e]; omega
  obtain ⟨q, hq, hrun⟩ := IG (ty := ty) (w := w) h0 h1 un hi un2 (by rw [hby]; exact E.nz) (by rw [hsz]; exact E.pos) (by have := hz.1; omega) hroom WG
  rw [Array.append_assoc] at hrun
  have hnone : μ σ.length = none := by
   cases hm : μ σ.length with
   | none => rfl
   | some L => have := hdom _ L hm; omega
  refine Step.newRow (w' := { oW w with heap := w.heap.push (.cells (#[] ++ (Builtin.zeroCells zv.cells kk ++ Builtin.zeroCells zv.cells (q - kk))) el) }) (n := q) (C := #[]) (e := el) (q := q) g hnone (FC.nil ro sz) ?_ rfl (iV _) rfl rfl rfl hrun (by simpa using hq) (by simp) (by simp)
  rw [Array.size_append, jN, jN, hzs, hsz, ← Nat.add_mul]
  congr 1
  omega
end
end Lv
