/- Temporaries as a list of what is known; operations one by one. -/
import Derived.Test.YtddopjhkmkoicaaGreatDoorGwSem
/- Temporaries as a list of what is known; operations one by one. -/
namespace Lv
open Go
set_option linter.unusedVariables false
set_option linter.unusedSimpArgs false
set_option linter.unusedSectionVars false
variable [BaseTab]
abbrev En := List (Nat × AV)
def lk : En → Nat → AV
 | [], _ => .undef
 | (j, v) :: r, i => bif Nat.beq j i then v else lk r i
def mk (n : Nat) (e : En) : List AV := (List.range n).map (lk e)
theorem gG (n : Nat) (e : En) : (mk n e).length = n := by simp [mk]
theorem sj {n : Nat} {e : En} {i : Nat} (h : i < n) : (mk n e)[i]? = some (lk e i) := by simp [mk, h]
theorem BX {n : Nat} {e : En} {i : Nat} {x : AV} (h : (mk n e)[i]? = some x) : i < n ∧ lk e i = x := by
 have hl := bE h
 rw [gG] at hl
 rw [sj hl] at h
 exact ⟨hl, by simpa using h⟩
theorem nW (n : Nat) (e : En) (d : Nat) (v : AV) : qX (mk n e) (some d) v = mk n ((d, v) :: e) := by
 apply List.ext_getElem?
 intro i
 simp only [qX, List.getElem?_set, gG]
 by_cases hi : i < n
 ·rw [sj (e := (d, v) :: e) hi]
  simp only [lk]
  by_cases hd : d = i
  ·subst hd; simp [hi]
  ·have : Nat.beq d i = false := by cases h : Nat.beq d i with
    | true => exact absurd (Nat.eq_of_beq_eq_true h) hd
    | false => rfl
   rw [if_neg hd, sj hi, this]; rfl
 ·have h1 : ∀ e, (mk n e)[i]? = none := fun e => by rw [List.getElem?_eq_none]; rw [gG]; omega
  rw [h1, h1]
  split
  ·rename_i hd; subst hd; rw [if_neg hi]
  ·rfl
def lo (n : Nat) (e : En) : Operand → Option AV
 | .tmp t => bif Nat.blt t n then some (lk e t) else none
 | .const v => match lW v with
  | some x => some (.d x)
  | none => none
 | .func f => some (.fn (.func f) [] [])
 | .global _ => none
theorem Kt {a b : Nat} (h : Nat.blt a b = true) : a < b := by rw [Nat.blt_eq] at h; exact h
theorem dO {n : Nat} {e : En} {x : Operand} {v : AV} (h : lo n e x = some v) : mY (mk n e) x = some v := by
 cases x with
 | tmp t =>
  simp only [lo] at h
  cases hb : Nat.blt t n with
  | false => rw [hb] at h; cases h
  | true =>
   rw [hb] at h
   simp only [mY]
   rw [sj (Kt hb)]
   exact h
 | const v' => exact h
 | func f => exact h
 | global g => cases h
def los (n : Nat) (e : En) : List Operand → Option (List AV)
 | [] => some []
 | x :: r => match lo n e x, los n e r with
  | some v, some vs => some (v :: vs)
  | _, _ => none
theorem mH {n : Nat} {e : En} : ∀ {l : List Operand} {vs : List AV}, los n e l = some vs → yJ (mk n e) l = some vs
 | [], vs, h => h
 | x :: r, vs, h => by
  simp only [los] at h
  split at h
  ·rename_i v vs' h1 h2
   simp only [yJ, dO h1, mH h2]
   exact h
  ·cases h
def OT (n : Nat) (e : En) : List (Nat × Operand) → Option (List (Nat × AV))
 | [] => some []
 | (i, x) :: r => match lo n e x, OT n e r with
  | some v, some vs => some ((i, v) :: vs)
  | _, _ => none
theorem Ar {n : Nat} {e : En} : ∀ {l : List (Nat × Operand)} {vs : List (Nat × AV)}, OT n e l = some vs → partsOf (mk n e) l = some vs
 | [], vs, h => h
 | (i, x) :: r, vs, h => by
  simp only [OT] at h
  split at h
  ·rename_i v vs' h1 h2
   simp only [partsOf, dO h1, Ar h2]
   exact h
  ·cases h
section
variable {P : Program} {m : Nat} {ops : Array Oper} {o : Oper} {l : List Oper} {n : Nat} {e : En} {σ σ' : List Ob} {v : AV}
def Wanted (ops : Array Oper) (n : Nat) (e : En) (o : Oper) (b : Bool) : Prop := wants ops (mk n e) o = some b
theorem Wanted.free (h : o.guard = none) : Wanted ops n e o true := by simp [Wanted, wants, h]
theorem Wanted.by {j t : Nat} {w b c : Bool} (h : o.guard = some (j, w)) (h1 : (ops[j]?).bind (·.dst) = some t) (h2 : lo n e (.tmp t) = some (.d (.bool b))) (h3 : (b == w) = c) : Wanted ops n e o c := by
 have h2' := dO h2
 simp only [mY] at h2'
 simp only [Wanted, wants, h, h1, h2', h3]
theorem Wanted.out {j t : Nat} {w : Bool} (h : o.guard = some (j, w)) (h1 : (ops[j]?).bind (·.dst) = some t) (h2 : lo n e (.tmp t) = some (.tuple [])) : Wanted ops n e o false := by
 have h2' := dO h2
 simp only [mY] at h2'
 simp only [Wanted, wants, h, h1, h2']
theorem SO.nil {s : St} {Q : St → Prop} (h : Q s) : SO P m ops [] s Q := SO.done h
theorem SO.op {d : Nat} {Q : St → Prop} (hw : Wanted ops n e o true) (hd : o.dst = some d) (ha : ∀ call, kH P call (mk n e) σ o = some (v, σ')) (k : SO P m ops l ⟨mk n ((d, v) :: e), σ'⟩ Q) : SO P m ops (o :: l) ⟨mk n e, σ⟩ Q :=
 SO.one (mk := marked (mk n e) σ σ' o) (v := v) ⟨by rw [hd, nW], .inl ⟨fun _ _ _ => none, v, Jy P, AW.refl v, hw, ha _, rfl, .inl rfl⟩⟩ k
theorem SO.opW {d : Nat} {v' : AV} {Q : St → Prop} (hw : Wanted ops n e o true) (hd : o.dst = some d) (ha : ∀ call, kH P call (mk n e) σ o = some (v, σ')) (hv : AW v v') (k : SO P m ops l ⟨mk n ((d, v') :: e), σ'⟩ Q) : SO P m ops (o :: l) ⟨mk n e, σ⟩ Q :=
 SO.one (mk := marked (mk n e) σ σ' o) (v := v') ⟨by rw [hd, nW], .inl ⟨fun _ _ _ => none, v, Jy P, hv, hw, ha _, rfl, .inl rfl⟩⟩ k
theorem SO.op0 {Q : St → Prop} (hw : Wanted ops n e o true) (hd : o.dst = none) (ha : ∀ call, kH P call (mk n e) σ o = some (v, σ')) (k : SO P m ops l ⟨mk n e, σ'⟩ Q) : SO P m ops (o :: l) ⟨mk n e, σ⟩ Q :=
 SO.one (mk := marked (mk n e) σ σ' o) (v := v) ⟨by rw [hd]; rfl, .inl ⟨fun _ _ _ => none, v, Jy P, AW.refl v, hw, ha _, rfl, .inl rfl⟩⟩ k
theorem SO.skip {d : Nat} {Q : St → Prop} (hw : Wanted ops n e o false) (hd : o.dst = some d) (k : SO P m ops l ⟨mk n ((d, .tuple []) :: e), σ⟩ Q) : SO P m ops (o :: l) ⟨mk n e, σ⟩ Q :=
 SO.one (v := .tuple []) (s1 := ⟨mk n ((d, .tuple []) :: e), σ⟩) ⟨by rw [hd, nW], .inr ⟨hw, rfl, rfl, rfl⟩⟩ k
theorem SO.aeH {Q : St → Prop} (hw : Wanted ops n e o false) (hd : o.dst = none) (k : SO P m ops l ⟨mk n e, σ⟩ Q) : SO P m ops (o :: l) ⟨mk n e, σ⟩ Q :=
 SO.one (v := .tuple []) ⟨by rw [hd]; rfl, .inr ⟨hw, rfl, rfl, rfl⟩⟩ k
theorem SO.split {d : Nat} {b : Bool} {Q : St → Prop} (ht : b = true → SO P m ops l ⟨mk n ((d, .d (.bool true)) :: e), σ⟩ Q) (hf : b = false → SO P m ops l ⟨mk n ((d, .d (.bool false)) :: e), σ⟩ Q) : SO P m ops l ⟨mk n ((d, .d (.bool b)) :: e), σ⟩ Q := by
 cases b with
 | true => exact ht rfl
 | false => exact hf rfl
theorem ST.nil {s : St} {acc : List (List Nat × Bool)} {Q : St → List (List Nat × Bool) → Prop} (h : Q s acc.reverse) : ST P ops [] s acc Q := ⟨s, [], .nil s, by simpa using h⟩
theorem ST.op {d : Nat} {acc : List (List Nat × Bool)} {Q : St → List (List Nat × Bool) → Prop} {mk' : List Nat × Bool} (hw : Wanted ops n e o true) (hd : o.dst = some d) (ha : ∀ call, kH P call (mk n e) σ o = some (v, σ')) (hm : marked (mk n e) σ σ' o = mk')
  (k : ST P ops l ⟨mk n ((d, v) :: e), σ'⟩ (mk' :: acc) Q) : ST P ops (o :: l) ⟨mk n e, σ⟩ acc Q := by
 obtain ⟨s', t, h1, h2⟩ := k
 refine ⟨s', _, .cons (mk := marked (mk n e) σ σ' o) (v := v) ⟨by rw [hd, nW], .inl ⟨fun _ _ _ => none, v, Jy P, AW.refl v, hw, ha _, rfl, .inl rfl⟩⟩ h1, ?_⟩
 simp only [hm]
 simpa using h2
theorem ST.opW {d : Nat} {v' : AV} {acc : List (List Nat × Bool)} {Q : St → List (List Nat × Bool) → Prop} {mk' : List Nat × Bool} (hw : Wanted ops n e o true) (hd : o.dst = some d) (ha : ∀ call, kH P call (mk n e) σ o = some (v, σ')) (hv : AW v v') (hm : marked (mk n e) σ σ' o = mk')
  (k : ST P ops l ⟨mk n ((d, v') :: e), σ'⟩ (mk' :: acc) Q) : ST P ops (o :: l) ⟨mk n e, σ⟩ acc Q := by
 obtain ⟨s', t, h1, h2⟩ := k
 refine ⟨s', _, .cons (mk := marked (mk n e) σ σ' o) (v := v') ⟨by rw [hd, nW], .inl ⟨fun _ _ _ => none, v, Jy P, hv, hw, ha _, rfl, .inl rfl⟩⟩ h1, ?_⟩
 simp only [hm]
 simpa using h2
theorem ST.op0 {acc : List (List Nat × Bool)} {Q : St → List (List Nat × Bool) → Prop} {mk' : List Nat × Bool} (hw : Wanted ops n e o true) (hd : o.dst = none) (ha : ∀ call, kH P call (mk n e) σ o = some (v, σ')) (hm : marked (mk n e) σ σ' o = mk')
  (k : ST P ops l ⟨mk n e, σ'⟩ (mk' :: acc) Q) : ST P ops (o :: l) ⟨mk n e, σ⟩ acc Q := by
 obtain ⟨s', t, h1, h2⟩ := k
 refine ⟨s', _, .cons (mk := marked (mk n e) σ σ' o) (v := v) ⟨by rw [hd]; rfl, .inl ⟨fun _ _ _ => none, v, Jy P, AW.refl v, hw, ha _, rfl, .inl rfl⟩⟩ h1, ?_⟩
 simp only [hm]
 simpa using h2
theorem ST.skip {d : Nat} {acc : List (List Nat × Bool)} {Q : St → List (List Nat × Bool) → Prop} (hw : Wanted ops n e o false) (hd : o.dst = some d) (k : ST P ops l ⟨mk n ((d, .tuple []) :: e), σ⟩ (([], false) :: acc) Q) : ST P ops (o :: l) ⟨mk n e, σ⟩ acc Q := by
 obtain ⟨s', t, h1, h2⟩ := k
 refine ⟨s', _, .cons (v := .tuple []) (s1 := ⟨mk n ((d, .tuple []) :: e), σ⟩) ⟨by rw [hd, nW], .inr ⟨hw, rfl, rfl, rfl⟩⟩ h1, by simpa using h2⟩
theorem ST.split {d : Nat} {b : Bool} {acc : List (List Nat × Bool)} {Q : St → List (List Nat × Bool) → Prop} (ht : b = true → ST P ops l ⟨mk n ((d, .d (.bool true)) :: e), σ⟩ acc Q) (hf : b = false → ST P ops l ⟨mk n ((d, .d (.bool false)) :: e), σ⟩ acc Q) : ST P ops l ⟨mk n ((d, .d (.bool b)) :: e), σ⟩ acc Q := by
 cases b with
 | true => exact ht rfl
 | false => exact hf rfl
theorem SO.call {d : Nat} {Q : St → Prop} {c : Call} {fo : Operand} {g : FuncId} {args first caps args' : List AV} {ι : List Nat} {lT σ2 os : List Ob} {r r' : AV} (hw : Wanted ops n e o true) (hd : o.dst = some d) (ho : o.op = .call c) (hargs : los n e c.args.toList = some args) (iV : c.callee = .value fo)
  (hfo : lo n e fo = some (.fn (.func g) first caps)) (hcb : callable P g = true) (hcan : canon σ (kg (first ++ args ++ caps)) = some (ι, lT)) (hre : zW (eD ι) (first ++ args ++ caps) = some args')
  (hc : aL P g args' lT r' σ2) (hr : r'.re (jf ι σ.length σ2.length) = some r) (hos : oF (jf ι σ.length σ2.length) σ2 = some os) (hle : ι.length ≤ os.length) (hσ : jd σ ι (os.take ι.length) ++ os.drop ι.length = σ')
  (k : SO P m ops l ⟨mk n ((d, r) :: e), σ'⟩ Q) : SO P m ops (o :: l) ⟨mk n e, σ⟩ Q := by
 refine SO.one (mk := marked (mk n e) σ σ' o) (v := r) (s1 := ⟨mk n ((d, r) :: e), σ'⟩) ⟨by rw [hd, nW], .inl ⟨single g args' lT r' σ2, r, vC hc, AW.refl r, hw, ?_, rfl, .inl rfl⟩⟩ k
 have hs : single g args' lT r' σ2 g args' lT = some (r', σ2) := by unfold single; rw [if_pos ⟨rfl, rfl, rfl⟩]
 simp only [kH, ho, mH hargs, iV, ow, dO hfo, hcb, if_true, nk, hcan, hre, hs, hr, hos, hle, hσ]
theorem ST.call {d : Nat} {acc : List (List Nat × Bool)} {Q : St → List (List Nat × Bool) → Prop} {mk' : List Nat × Bool} {c : Call} {fo : Operand} {g : FuncId} {args first caps args' : List AV} {ι : List Nat} {lT σ2 os : List Ob} {r r' : AV} (hw : Wanted ops n e o true) (hd : o.dst = some d) (ho : o.op = .call c) (hargs : los n e c.args.toList = some args) (iV : c.callee = .value fo)
  (hfo : lo n e fo = some (.fn (.func g) first caps)) (hcb : callable P g = true) (hcan : canon σ (kg (first ++ args ++ caps)) = some (ι, lT)) (hre : zW (eD ι) (first ++ args ++ caps) = some args')
  (hc : aL P g args' lT r' σ2) (hr : r'.re (jf ι σ.length σ2.length) = some r) (hos : oF (jf ι σ.length σ2.length) σ2 = some os) (hle : ι.length ≤ os.length) (hσ : jd σ ι (os.take ι.length) ++ os.drop ι.length = σ') (hm : marked (mk n e) σ σ' o = mk')
  (k : ST P ops l ⟨mk n ((d, r) :: e), σ'⟩ (mk' :: acc) Q) : ST P ops (o :: l) ⟨mk n e, σ⟩ acc Q := by
 obtain ⟨s', t, h1, h2⟩ := k
 refine ⟨s', _, .cons (mk := marked (mk n e) σ σ' o) (v := r) (s1 := ⟨mk n ((d, r) :: e), σ'⟩) ⟨by rw [hd, nW], .inl ⟨single g args' lT r' σ2, r, vC hc, AW.refl r, hw, ?_, rfl, .inl rfl⟩⟩ h1, ?_⟩
 ·have hs : single g args' lT r' σ2 g args' lT = some (r', σ2) := by unfold single; rw [if_pos ⟨rfl, rfl, rfl⟩]
  simp only [kH, ho, mH hargs, iV, ow, dO hfo, hcb, if_true, nk, hcan, hre, hs, hr, hos, hle, hσ]
 ·simp only [hm]
  simpa using h2
theorem ST.aiq {d : Nat} {acc : List (List Nat × Bool)} {Q : St → List (List Nat × Bool) → Prop} {is : List Nat} {c : Call} {fo : Operand} {g : FuncId} {args first caps args' : List AV} {ι : List Nat} {lT σ2 os : List Ob} {r r' : AV} (hw : Wanted ops n e o true) (hd : o.dst = some d) (ho : o.op = .call c) (hargs : los n e c.args.toList = some args) (iV : c.callee = .value fo)
  (hfo : lo n e fo = some (.fn (.func g) first caps)) (hcb : callable P g = true) (hcan : canon σ (kg (first ++ args ++ caps)) = some (ι, lT)) (hre : zW (eD ι) (first ++ args ++ caps) = some args')
  (hc : aL P g args' lT r' σ2) (hr : r'.re (jf ι σ.length σ2.length) = some r) (hos : oF (jf ι σ.length σ2.length) σ2 = some os) (hle : ι.length ≤ os.length) (hσ : jd σ ι (os.take ι.length) ++ os.drop ι.length = σ) (hm : (marked (mk n e) σ σ o).1 = is)
  (k : ST P ops l ⟨mk n ((d, r) :: e), σ⟩ ((is, false) :: acc) Q) : ST P ops (o :: l) ⟨mk n e, σ⟩ acc Q := by
 obtain ⟨s', t, h1, h2⟩ := k
 refine ⟨s', _, .cons (mk := (is, false)) (v := r) (s1 := ⟨mk n ((d, r) :: e), σ⟩) ⟨by rw [hd, nW], .inl ⟨single g args' lT r' σ2, r, vC hc, AW.refl r, hw, ?_, hm.symm, .inr rfl⟩⟩ h1, ?_⟩
 ·have hs : single g args' lT r' σ2 g args' lT = some (r', σ2) := by unfold single; rw [if_pos ⟨rfl, rfl, rfl⟩]
  simp only [kH, ho, mH hargs, iV, ow, dO hfo, hcb, if_true, nk, hcan, hre, hs, hr, hos, hle, hσ]
 ·simpa using h2
theorem JD (σ : List Ob) : canon σ [] = some ([], []) := by simp [canon, reach, sub]
theorem SO.VP {d : Nat} {Q : St → Prop} {c : Call} {fo : Operand} {g : FuncId} {args : List AV} {r : AV} (hw : Wanted ops n e o true) (hd : o.dst = some d) (ho : o.op = .call c) (hargs : los n e c.args.toList = some args) (iV : c.callee = .value fo)
  (hfo : lo n e fo = some (.fn (.func g) [] [])) (hcb : callable P g = true) (hi : kg args = []) (hre : ∀ h, zW h args = some args) (hr : ∀ h, r.re h = some r)
  (hc : aL P g args [] r []) (k : SO P m ops l ⟨mk n ((d, r) :: e), σ⟩ Q) : SO P m ops (o :: l) ⟨mk n e, σ⟩ Q :=
 SO.call (first := []) (caps := []) (ι := []) (lT := []) (σ2 := []) (os := []) hw hd ho hargs iV hfo hcb (by simp [hi, JD]) (by simpa using hre _) hc (hr _) rfl (by simp) (by simp [jd]) k
theorem ST.VP {d : Nat} {acc : List (List Nat × Bool)} {Q : St → List (List Nat × Bool) → Prop} {c : Call} {fo : Operand} {g : FuncId} {args : List AV} {r : AV} (hw : Wanted ops n e o true) (hd : o.dst = some d) (ho : o.op = .call c) (hargs : los n e c.args.toList = some args) (iV : c.callee = .value fo)
  (hfo : lo n e fo = some (.fn (.func g) [] [])) (hcb : callable P g = true) (hi : kg args = []) (hre : ∀ h, zW h args = some args) (hr : ∀ h, r.re h = some r)
  (hc : aL P g args [] r []) (k : ST P ops l ⟨mk n ((d, r) :: e), σ⟩ (([], true) :: acc) Q) : ST P ops (o :: l) ⟨mk n e, σ⟩ acc Q := by
 refine ST.call (first := []) (caps := []) (ι := []) (lT := []) (σ2 := []) (os := []) hw hd ho hargs iV hfo hcb (by simp [hi, JD]) (by simpa using hre _) hc (hr _) rfl (by simp) (by simp [jd]) ?_ k
 have ht : touches (mk n e) σ o = ([], true) := by
  simp only [touches, ho, iV, mH hargs, dO hfo, List.nil_append, List.append_nil, hi]
  rfl
 simp [marked, ht]
theorem AW.of_eq {x y : AV} (h : x = y) : AW x y := h ▸ AW.refl x
theorem AW.undef (x : AV) : AW x .undef := fun _ _ v _ => .undef v
theorem AW.nl (sz : Nat) : AW (.d .aA) (.d (.xI sz [])) := by
 intro ro μ v h
 obtain rfl := fA h rfl
 exact .d _ _ (.nl sz)
theorem AW.dX (id sz off : Nat) : AW (.d .aA) (.slc id sz off 0 none) := by
 intro ro μ v h
 obtain rfl := fA h rfl
 exact .dX id sz off
theorem AW.cap (id sz off len : Nat) (c : Option Nat) : AW (.slc id sz off len c) (.slc id sz off len none) := by
 intro ro μ v h
 rcases pz h with ⟨L, c', a, rfl, h1, h2, h3, h4, h5⟩ | ⟨rfl, rfl, rfl⟩
 ·exact .slc id sz off len none L c' a h1 h2 h3 (by simp) h5
 ·exact .dX id sz off
def dh : List AV → List AV → Prop
 | [], [] => True
 | x :: xs, y :: ys => AW x y ∧ dh xs ys
 | _, _ => False
theorem dh.get : ∀ {xs ys : List AV}, dh xs ys → xs.length = ys.length ∧ ∀ (i : Nat) (y : AV), ys[i]? = some y → ∃ x, xs[i]? = some x ∧ AW x y
 | [], [], _ => ⟨rfl, fun i y h => by simp at h⟩
 | x :: xs, y :: ys, ⟨h1, h2⟩ => by
  obtain ⟨k1, k2⟩ := dh.get h2
  refine ⟨by simp [k1], fun i z hz => ?_⟩
  cases i with
  | zero => simp at hz; subst hz; exact ⟨x, rfl, h1⟩
  | succ i => simpa using k2 i z (by simpa using hz)
 | [], _ :: _, h => h.elim
 | _ :: _, [], h => h.elim
theorem dh.vrs {xs ys : List AV} (h : dh xs ys) {ro : Ro} {μ : Mu} {vs : Array Value} (k : VRs ro μ xs vs) : VRs ro μ ys vs := by
 obtain ⟨h1, h2⟩ := h.get
 refine ⟨by rw [k.size, h1], fun i y v hy hv => ?_⟩
 obtain ⟨x, hx, hw⟩ := h2 i y hy
 exact hw ro μ v (k.get i x v hx hv)
theorem Cx {ro : Ro} {μ : Mu} {x : AV} {v : Value} (h : VR ro μ x v) (hx : x.isAgg = true) : ∃ C, v = .agg C ∧ VRs ro μ x.cells C := by
 cases x with
 | agg cs => cases h with | agg _ vs hs h => exact ⟨vs, rfl, ⟨hs, h⟩⟩
 | d y =>
  cases y with
  | agg cs =>
   cases h with
   | d _ _ h => cases h with
    | agg _ vs hs h =>
     refine ⟨vs, rfl, ⟨by simpa [AV.cells] using hs, fun i y u hy hu => ?_⟩⟩
     simp only [AV.cells, List.getElem?_map, Option.map_eq_some_iff] at hy
     obtain ⟨z, hz, rfl⟩ := hy
     exact .d z u (h i z u hz hu)
  | _ => simp [AV.isAgg] at hx
 | _ => simp [AV.isAgg] at hx
theorem AW.agg {x : AV} {ys : List AV} (hx : x.isAgg = true) (h : dh x.cells ys) : AW x (.agg ys) := by
 intro ro μ v hv
 obtain ⟨C, rfl, hC⟩ := Cx hv hx
 have := h.vrs hC
 exact .agg ys C this.size this.get
theorem AW.Yi {x : AV} {ys : List D} (hx : x.isAgg = true) (h : dh x.cells (ys.map AV.d)) : AW x (.d (.agg ys)) := by
 intro ro μ v hv
 obtain ⟨C, rfl, hC⟩ := Cx hv hx
 have := h.vrs hC
 refine .d _ _ (.agg ys C (by simpa using this.size) fun i y v hy hv => ?_)
 exact NM (this.get i (.d y) v (by simp [hy]) hv)
theorem AW.tuple {xs ys : List AV} (h : dh xs ys) : AW (.tuple xs) (.tuple ys) := by
 intro ro μ v hv
 obtain ⟨vs, rfl, hV⟩ := Ih hv
 have := h.vrs hV
 exact .tuple ys vs this.size this.get
theorem AW.fn {f : Fn} {xs xs' ys ys' : List AV} (h : dh xs xs') (k : dh ys ys') : AW (.fn f xs ys) (.fn f xs' ys') := by
 intro ro μ v hv
 obtain ⟨vs, us, rfl, h1, h2⟩ := NK hv
 have a := h.vrs h1
 have b := k.vrs h2
 exact .fn f xs' ys' vs us a.size b.size a.get b.get
def EW (e : En) : En → Prop
 | [] => True
 | (i, y) :: r => AW (lk e i) y ∧ EW e r
theorem EW.get {e : En} : ∀ {e' : En}, EW e e' → ∀ i, AW (lk e i) (lk e' i)
 | [], _, i => AW.undef _
 | (j, y) :: r, ⟨h1, h2⟩, i => by
  simp only [lk]
  cases hb : Nat.beq j i with
  | true => have := Nat.eq_of_beq_eq_true hb; subst this; exact h1
  | false => exact EW.get h2 i
theorem Wk.env {e' : En} (h : EW e e') : Wk m ⟨mk n e, σ⟩ ⟨mk n e', σ⟩ := by
 intro gX gQ w0 H0 ro μ w a hr
 refine ⟨ro, μ, hr.good, ⟨by rw [hr.env.size, gG, gG], fun i y v hy hv => ?_⟩, hr.dom, hr.defers, hr.ext, hr.keep, hr.hm⟩
 obtain ⟨hi, rfl⟩ := BX hy
 exact h.get i ro μ v (hr.env.get i _ v (sj hi) hv)
theorem Wk.env' {e' : En} {σ1 : List Ob} {s1 : St} (h : EW e e') (k : Wk m ⟨mk n e', σ⟩ s1) : Wk m ⟨mk n e, σ⟩ s1 := (Wk.env h).trans k
def enum : Nat → List AV → En
 | _, [] => []
 | i, x :: r => (i, x) :: enum (i + 1) r
theorem Qq : ∀ (l : List AV) (k i : Nat), lk (enum k l) i = if k ≤ i ∧ i < k + l.length then (l[i - k]?).getD .undef else .undef
 | [], k, i => by simp [enum, lk]
 | x :: r, k, i => by
  simp only [enum, lk]
  cases hb : Nat.beq k i with
  | true => have := Nat.eq_of_beq_eq_true hb; subst this; simp
  | false =>
   have hne : k ≠ i := fun h => by subst h; simp at hb
   rw [cond_false, Qq r (k + 1) i]
   by_cases hi : k + 1 ≤ i ∧ i < k + 1 + r.length
   ·rw [if_pos hi, if_pos (by simp; omega)]
    have : i - k = (i - (k + 1)) + 1 := by omega
    rw [this, List.getElem?_cons_succ]
   ·rw [if_neg hi, if_neg (by simp; omega)]
theorem Wk.begin {args : List AV} {n : Nat} (hn : args.length ≤ n) : Wk m ⟨args ++ List.replicate (n - args.length) (.tuple []), σ⟩ ⟨mk n (enum 0 args), σ⟩ := by
 intro gX gQ w0 H0 ro μ w a hr
 refine ⟨ro, μ, hr.good, ⟨by rw [hr.env.size, gG]; simp; omega, fun i y v hy hv => ?_⟩, hr.dom, hr.defers, hr.ext, hr.keep, hr.hm⟩
 obtain ⟨hi, rfl⟩ := BX hy
 rw [Qq]
 split
 ·rename_i h
  have hl : i < args.length := by omega
  rw [Nat.sub_zero, List.getElem?_eq_getElem hl]
  exact hr.env.get i _ v (by rw [List.getElem?_append_left hl, List.getElem?_eq_getElem hl]; rfl) hv
 ·exact .undef v
theorem Wk.push {env : List AV} (o : Ob) (ho : ∀ es, o ≠ .map es) : Wk m ⟨env, σ⟩ ⟨env, σ ++ [o]⟩ := by
 intro gX gQ w0 H0 ro μ w a hr
 have hn : μ σ.length = none := by
  cases hm : μ σ.length with
  | none => rfl
  | some L => have := hr.dom _ L hm; simp at this
 obtain ⟨g1, x1⟩ := hr.good.phantom hn ho
 rw [← zl] at g1 x1
 exact ⟨ro, μ, g1, hr.env, fun id L h => by have := hr.dom id L h; simp at this ⊢; omega, hr.defers, hr.ext.trans x1.WA, hr.keep, by have := hr.hm; simp at this ⊢; omega⟩
theorem Wk.box {env : List AV} {id : Nat} {x y : AV} (h : σ[id]? = some (.box x)) (hw : dh x.cells y.cells) : Wk m ⟨env, σ⟩ ⟨env, σ.set id (.box y)⟩ := by
 intro gX gQ w0 H0 ro μ w a hr
 have hlt := bE h
 have heq : hp (σ.set id (.box y)) = upd (hp σ) id (.box y) := ng hlt
 have hwr : ∀ i, (upd (hp σ) id (.box y) i).wr = (hp σ i).wr := by
  intro i; unfold upd; split
  ·rename_i q; subst q; rw [dI h]; rfl
  ·rfl
 have hlv : ∀ i, (upd (hp σ) id (.box y) i).live = (hp σ i).live := by
  intro i; unfold upd; split
  ·rename_i q; subst q; rw [dI h]; rfl
  ·rfl
 have hWB : ∀ b, WB (upd (hp σ) id (.box y)) μ b ↔ WB (hp σ) μ b := by
  intro b; constructor
  ·rintro ⟨i, L, h1, h2, h3⟩; exact ⟨i, L, by rw [← hwr]; exact h1, h2, h3⟩
  ·rintro ⟨i, L, h1, h2, h3⟩; exact ⟨i, L, by rw [hwr]; exact h1, h2, h3⟩
 have hLB : ∀ b, LB (upd (hp σ) id (.box y)) μ b ↔ LB (hp σ) μ b := by
  intro b; constructor
  ·rintro ⟨i, L, h1, h2, h3⟩; exact ⟨i, L, by rw [← hlv]; exact h1, h2, h3⟩
  ·rintro ⟨i, L, h1, h2, h3⟩; exact ⟨i, L, by rw [hlv]; exact h1, h2, h3⟩
 have g := hr.good
 refine ⟨ro, μ, ?_, hr.env, fun i L hL => by have := hr.dom i L hL; simpa using this, hr.defers, ?_, hr.keep, by have := hr.hm; simpa using this⟩
 ·simp only [heq]
  refine ⟨g.vH, fun i => ?_, fun i i' L L' h1 h2 h3 h4 h5 => g.apart i i' L L' (by rw [← hwr]; exact h1) (by rw [← hlv]; exact h2) h3 h4 h5, fun b hb => g.iN b ((hWB b).1 hb), g.base⟩
  unfold upd
  split
  ·rename_i q; subst q
   intro L hL
   have := g.ob i
   rw [dI h] at this
   obtain ⟨C, T, fz, h0, h1, h2, h3⟩ := this L hL
   exact ⟨C, T, fz, h0, h1, h2, hw.vrs h3⟩
  ·exact g.ob i
 ·simp only [heq]
  have x := hr.ext
  exact ⟨x.mR, x.tN, fun b hb => x.oD b ((hWB b).1 hb), fun b hb => x.uh b ((hLB b).1 hb), x.frame, x.size, x.os, x.tape, x.output⟩
theorem Wk.lX {x : AV} {i : Nat} {y : D} {σ1 : List Ob} (hi : Nat.blt i n = true) (hx : lk e i = x) (h : Lv.lX σ x = some (y, σ1)) : Wk m ⟨mk n e, σ⟩ ⟨mk n ((i, .d y) :: e), σ1⟩ := by
 intro gX gQ w0 H0 ro μ w a hr
 have hin := Kt hi
 have hsz : i < a.tmps.size := by rw [hr.env.size, gG]; exact hin
 have hv := hr.env.get i x _ (by rw [sj hin, hx]) (Array.getElem?_eq_getElem hsz)
 obtain ⟨ro', g', x', hd, _, hl⟩ := vR hr.good hv h
 refine ⟨ro', μ, g', ?_, fun id L hL => (by have h9 : id < σ.length := hr.dom id L hL; rw [hl]; exact h9), hr.defers, hr.ext.trans x'.WA, hr.keep, (by have h9 : m ≤ σ.length := hr.hm; rw [hl]; exact h9)⟩
 have he := hr.env.mono x'.mR x'.GI
 have := zu he (VR.d _ _ hd) (some i)
 simp only [Act.put] at this
 rw [nW] at this
 have hset : a.tmps.setIfInBounds i a.tmps[i] = a.tmps := by
  apply Array.ext
  ·simp
  ·intro j h1 h2
   rw [Array.getElem_setIfInBounds]
   split
   ·rename_i q; subst q; rfl
   ·rfl
 rw [hset] at this
 exact this
theorem Wk.alZ {x y : AV} {i : Nat} (hi : Nat.blt i n = true) (hx : lk e i = x) (h : AW x y) : Wk m ⟨mk n e, σ⟩ ⟨mk n ((i, y) :: e), σ⟩ := by
 intro gX gQ w0 H0 ro μ w a hr
 have hin := Kt hi
 have hsz : i < a.tmps.size := by rw [hr.env.size, gG]; exact hin
 have hv := hr.env.get i x _ (by rw [sj hin, hx]) (Array.getElem?_eq_getElem hsz)
 refine ⟨ro, μ, hr.good, ?_, hr.dom, hr.defers, hr.ext, hr.keep, hr.hm⟩
 have := zu hr.env (h _ _ _ hv) (some i)
 simp only [Act.put] at this
 rw [nW] at this
 have hset : a.tmps.setIfInBounds i a.tmps[i] = a.tmps := by
  apply Array.ext
  ·simp
  ·intro j h1 h2
   rw [Array.getElem_setIfInBounds]
   split
   ·rename_i q; subst q; rfl
   ·rfl
 rw [hset] at this
 exact this
theorem Wk.jN {x : AV} {i : Nat} {ys : List D} {σ1 : List Ob} (hi : Nat.blt i n = true) (hx : lk e i = x) (ha : x.isAgg = true) (h : Lv.jN σ x.cells = some (ys, σ1)) : Wk m ⟨mk n e, σ⟩ ⟨mk n ((i, .d (.agg ys)) :: e), σ1⟩ := by
 intro gX gQ w0 H0 ro μ w a hr
 have hin := Kt hi
 have hsz : i < a.tmps.size := by rw [hr.env.size, gG]; exact hin
 have hv := hr.env.get i x _ (by rw [sj hin, hx]) (Array.getElem?_eq_getElem hsz)
 obtain ⟨C, hC, hvs⟩ := Cx hv ha
 obtain ⟨ro', g', x', hlen, hd, _, hl⟩ := ni x.cells (vs := C.toList) hr.good (by simpa using hvs.size) (fun j z u hz hu => hvs.get j z u hz (by simpa using hu)) h
 refine ⟨ro', μ, g', ?_, fun id L hL => (by have h9 : id < σ.length := hr.dom id L hL; rw [hl]; exact h9), hr.defers, hr.ext.trans x'.WA, hr.keep, (by have h9 : m ≤ σ.length := hr.hm; rw [hl]; exact h9)⟩
 have he := hr.env.mono x'.mR x'.GI
 have hagg : VR ro' μ (.d (.agg ys)) (.agg C) := .d _ _ (.agg ys C (by rw [hvs.size, hlen]) (fun j z u hz hu => hd j z u hz (by simpa using hu)))
 have := zu he hagg (some i)
 simp only [Act.put] at this
 rw [nW] at this
 have hset : a.tmps.setIfInBounds i (.agg C) = a.tmps := by
  apply Array.ext
  ·simp
  ·intro j h1 h2
   rw [Array.getElem_setIfInBounds]
   split
   ·rename_i q; subst q; exact hC.symm
   ·rfl
 rw [hset] at this
 exact this
def eRe (g : Nat → Option Nat) : En → Option En
 | [] => some []
 | (i, x) :: r => match x.re g, eRe g r with
  | some y, some ys => some ((i, y) :: ys)
  | _, _ => none
theorem Pq {g : Nat → Option Nat} : ∀ {e e' : En}, eRe g e = some e' → ∀ i, (lk e i).re g = some (lk e' i)
 | [], e', h, i => by
  simp only [eRe, Option.some.injEq] at h
  subst h; rfl
 | (j, x) :: r, e', h, i => by
  simp only [eRe] at h
  split at h
  ·rename_i y ys h1 h2
   simp only [Option.some.injEq] at h
   subst h
   simp only [lk]
   cases Nat.beq j i with
   | true => exact h1
   | false => exact Pq h2 i
  ·cases h
theorem Wk.canon {ι roots : List Nat} {os : List Ob} {e' : En} (hcan : Lv.canon σ roots = some (ι, os)) (ht : ι.take m = List.range m) (he : eRe (eD ι) e = some e') : Wk m ⟨mk n e, σ⟩ ⟨mk n e', os⟩ := by
 intro gX gQ w0 H0 ro μ w a hr
 refine ⟨ro, Ap μ ι, hr.canon hcan ht ⟨by rw [hr.env.size, gG, gG], fun i y v hy hv => ?_⟩⟩
 obtain ⟨hi, rfl⟩ := BX hy
 exact NG qm (hr.env.get i _ v (sj hi) hv) _ (Pq he i)
theorem Wk.kill {env : List AV} (id : Nat) : Wk m ⟨env, σ⟩ ⟨env, σ.set id .dead⟩ := by
 intro gX gQ w0 H0 ro μ w a hr
 by_cases hid : id < σ.length
 ·obtain ⟨g, x⟩ := hr.good.kill id
  rw [← ng hid] at g x
  exact ⟨ro, μ, g, hr.env, fun i L h => by have := hr.dom i L h; simpa using this, hr.defers, hr.ext.trans x.WA, hr.keep, by have := hr.hm; simpa using this⟩
 ·rw [List.set_eq_of_length_le (by omega)]
  exact ⟨ro, μ, hr⟩
end
end Lv
