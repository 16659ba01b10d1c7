/- Values of interface types: made, asserted; their methods called. -/
import Derived.Test.YtddopjhkmkoicaaGreatDoorGwArr
/- Values of interface types: made, asserted; their methods called. -/
namespace Lv
open Go
set_option linter.unusedVariables false
set_option linter.unusedSimpArgs false
set_option linter.unusedSectionVars false
set_option maxRecDepth 100000
variable [BaseTab]
section
variable {P : Program} {m n : Nat} {e : En} {σ σ' : List Ob} {t : TypeId} {x y z : Operand} {ops : Array Oper} {o : Oper} {l : List Oper}
def U1 (P : Program) (t : TypeId) (name : String) : Option (FuncId × Bool) :=
 match P.info? t with
 | some i => match i.methods.find? (·.name == name) with
  | some m => if m.path.isEmpty = true then m.func else none
  | none => none
 | none => none
theorem OQ {name : String} {g : FuncId} {ptr : Bool} (h : U1 P t name = some (g, ptr)) (k : Nat) (u rv : Value) (w : World) (hr : ∀ wr, (receiverAt t (.val u) ptr wr).run P w = .ok rv w) : (method (k + 1) t u name).run P w = .ok (g, rv) w := by
 unfold U1 at h
 split at h
 ·rename_i i hi
  split at h
  ·rename_i m hm
   split at h
   ·rename_i hp
    have hp' : m.path.toList = [] := by
     have : m.path = #[] := by simpa using hp
     rw [this]
    have hti : (typeInfo t).run P w = .ok i w := by simp [typeInfo, hi]
    unfold method
    simp only [Sem.run_bind, hti, Result.andThen_ok, hm, hp', follow, Sem.run_pure, h, hr]
   ·cases h
  ·cases h
 ·cases h
def Ur (P : Program) (σ : List Ob) (t : TypeId) (v : AV) (ptr : Bool) : Option AV :=
 match P.underlying t with
 | some (.pointer el) => if ptr = true then some v else oJ P σ el v
 | _ => none
theorem OD {v rv : AV} {ptr : Bool} {ro : Ro} {μ : Mu} {w : World} {u : Value} (g : Good ro μ w (hp σ)) (hv : VR ro μ v u) (h : Ur P σ t v ptr = some rv) : ∃ ru, VR ro μ rv ru ∧ ∀ wr, (receiverAt t (.val u) ptr wr).run P w = .ok ru w := by
 unfold Ur at h
 split at h
 ·rename_i el hu
  split at h
  ·rename_i hp
   subst hp
   obtain rfl := Option.some.inj h
   exact ⟨u, hv, fun wr => by simp only [receiverAt, Sem.run_bind, run_underlying hu, Result.andThen_ok, Place.get, Sem.run_pure]⟩
  ·rename_i hp
   have hp : ptr = false := by simpa using hp
   subst hp
   obtain ⟨r, p, rfl, h1, h2⟩ := yY g hv h
   refine ⟨r, h2, fun wr => ?_⟩
   cases wr with
   | none => simp only [receiverAt, Sem.run_bind, run_underlying hu, Result.andThen_ok, Place.get, Sem.run_pure, asAddr, h1]
   | some nm =>
    have hk : (Builtin.ssaWrapNilChk_ #[t] t #[.pointer (some p), strVal "", strVal nm]).run P w = .ok (.pointer (some p)) w := rfl
    simp only [receiverAt, Sem.run_bind, run_underlying hu, Result.andThen_ok, Place.get, Sem.run_pure, hk, asAddr, h1]
 ·cases h
theorem SO.invoke {d : Nat} {Q : St → Prop} {c : Call} {xo : Operand} {name : String} {g : FuncId} {v rv : AV} {ptr : Bool} {args args' : List AV} {ι : List Nat} {lT σ2 os : List Ob} {r r' : AV} (hw : Wanted ops n e o true) (hd : o.dst = some d) (ho : o.op = .call c) (hargs : los n e c.args.toList = some args) (iV : c.callee = .invoke xo name)
  (hxo : lo n e xo = some (.iface t v)) (hm : U1 P t name = some (g, ptr)) (hrv : Ur P σ t v ptr = some rv) (hcb : callable P g = true) (hcan : canon σ (kg (rv :: args)) = some (ι, lT)) (hre : zW (eD ι) (rv :: args) = some args')
  (hc : aL P g args' lT r' σ2) (hr : r'.re (jf ι σ.length σ2.length) = some r) (hos : oF (jf ι σ.length σ2.length) σ2 = some os) (hle : ι.length ≤ os.length) (hσ : jd σ ι (os.take ι.length) ++ os.drop ι.length = σ')
  (k : SO P m ops l ⟨mk n ((d, r) :: e), σ'⟩ Q) : SO P m ops (o :: l) ⟨mk n e, σ⟩ Q := by
 intro gX gQ w0 H0 ro μ w a j Z hl hrel hQ
 have h0 : ops[j]? = some o := by have := hl 0; simpa using this.symm
 have hl' : ∀ i, l[i]? = ops[j + 1 + i]? := fun i => by have := hl (i + 1); simp at this; rw [this]; congr 1; omega
 simp only [List.length_cons, List.range'_succ]
 rw [wpOps_cons]
 unfold wpOp
 simp only [h0]
 rw [pY hrel.env hw]
 simp only [if_true]
 refine .inl ?_
 have hs : single g args' lT r' σ2 g args' lT = some (r', σ2) := by unfold single; rw [if_pos ⟨rfl, rfl, rfl⟩]
 have hin : nk (single g args' lT r' σ2) g (rv :: args) σ = some (r, σ') := by
  simp only [nk, hcan, hre, hs, hr, hos, hle, if_true, hσ]
 have hxv := bT hrel.env (dO hxo)
 obtain ⟨u, hu, hvu⟩ : ∃ u, a.eval xo = .iface t u ∧ VR ro μ v u := by
  generalize a.eval xo = q at hxv
  cases hxv with
  | iface _ _ u h => exact ⟨u, rfl, h⟩
 obtain ⟨ru, hru, hrun⟩ := OD hrel.good hvu hrv
 have hsa := je hrel.env (mH hargs)
 have e0 : (c.args.toList.map a.eval).toArray = c.args.map a.eval := Array.ext' (by simp)
 rw [e0] at hsa
 have hall : VRs ro μ (rv :: args) (#[ru] ++ c.args.map a.eval) := kU (xs := [rv]) ⟨rfl, fun i y q hy hq => by
  match i with
  | 0 => simp at hy hq; subst hy; subst hq; exact hru
  | i + 1 => simp at hy⟩ hsa
 obtain ⟨hlen, G9⟩ := wU (vC hc) hin hrel.good (fun id hid _ => by
  cases hm : μ id with
  | none => rfl
  | some L => have h9 : id < σ.length := hrel.dom id L hm; omega) hall
 have afE : (execOp a.eval o).run P w = .ok (.enter g (#[ru] ++ c.args.map a.eval)) w := by
  unfold callable at hcb
  split at hcb
  ·rename_i fn hfn
   simp only [Bool.and_eq_true, bne_iff_ne, ne_eq] at hcb
   have hbody : fn.body.isNone = false := by simpa using hcb.2
   obtain ⟨q, hq⟩ : ∃ q, P.types.size + Made.depth = q + 1 := ⟨P.types.size + Made.depth - 1, by
    have : 0 < Made.depth := by decide
    omega⟩
   have hmr := OQ (P := P) hm q u ru w hrun
   have ex : (#[Value.iface t u] ++ c.args.map a.eval).extract 1 (#[Value.iface t u] ++ c.args.map a.eval).size = c.args.map a.eval := by
    apply Array.ext'
    simp
    rw [List.take_of_length_le (by simp)]
   have e1 : (#[Value.iface t u] ++ c.args.map a.eval)[0]? = some (.iface t u) := by
    rw [Array.getElem?_append_left (by show 0 < 1; omega)]; rfl
   simp only [execOp, ho, resolve, iV, hu, pure_bind, Go.invoke, e1, ex, callMethod, Sem.run_bind, run_program, Result.andThen_ok, hq, hmr, callFunc, hfn, beq_iff_eq, hcb.1, if_false, hbody, Bool.false_eq_true, Sem.run_pure]
  ·cases hcb
 unfold Oper.wp
 rw [afE]
 simp only [Oper.upon]
 refine G9.mono ?_
 rintro e' w' ⟨v', ro', μ', rfl, k1, k2, k3, k4⟩
 have hop := hrel.op k1 k2 k3 k4 hlen o.dst
 rw [hd] at hop ⊢
 exact k gX gQ w0 H0 ro' μ' w' _ (j + 1) Z hl' (by rw [← nW]; exact hop) hQ
variable {dd : Nat} {ty : TypeId} {pos : String} {af : Array Edge} {gd : Option (Nat × Bool)}
theorem SO.step {d : Nat} {v : AV} {Q : St → Prop} (hw : Wanted ops n e o true) (hd : o.dst = some d)
  (h : ∀ (a : Act) (ro : Ro) (μ : Mu) (w : World), VRs ro μ (Lv.mk n e) a.tmps → Good ro μ w (hp σ) → (∀ id L, μ id = some L → id < σ.length) → ∃ s, execOp a.eval o = (do pure (.value (← s))) ∧ Step P s ro μ w σ v σ')
  (k : SO P m ops l ⟨mk n ((d, v) :: e), σ'⟩ Q) : SO P m ops (o :: l) ⟨mk n e, σ⟩ Q := by
 intro gX gQ w0 H0 ro μ w a j Z hl hrel hQ
 have h0 : ops[j]? = some o := by have := hl 0; simpa using this.symm
 have hl' : ∀ i, l[i]? = ops[j + 1 + i]? := fun i => by have := hl (i + 1); simp at this; rw [this]; congr 1; omega
 simp only [List.length_cons, List.range'_succ]
 rw [wpOps_cons]
 unfold wpOp
 simp only [h0]
 rw [pY hrel.env hw]
 simp only [if_true]
 refine .inl ?_
 obtain ⟨s, he, hs⟩ := h a ro μ w hrel.env hrel.good (fun id L hL => hrel.dom id L hL)
 refine iZ he hs fun v' ro' μ' w' k1 k2 k3 k4 k5 => ?_
 have hop := hrel.op k1 k2 k3 k4 k5 o.dst
 rw [hd] at hop ⊢
 exact k gX gQ w0 H0 ro' μ' w' _ (j + 1) Z hl' (by rw [← nW]; exact hop) hQ
end
end Lv
