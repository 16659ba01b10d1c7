/- slices.Delete: in its own memory, what is left over made zero. -/
import Derived.Test.YtjegjjlojnpnoaaGreatDoorGwAny
/- slices.Delete: in its own memory, what is left over made zero. -/
namespace Lv
open Go
set_option linter.unusedVariables false
set_option linter.unusedSimpArgs false
set_option linter.unusedSectionVars false
variable [BaseTab]
theorem zeroCells_FC {ro : Ro} {z : D} {zv : Value} {sz : Nat} (hd : DR ro z zv) (hl : z.cells.length = sz) (hf : z.cells.all (fun c => !c.isAgg) = true) (hp : sz ≠ 0) (n : Nat) : FC ro sz (List.replicate n z) (Builtin.zeroCells zv.cells n) := by
 have hzs := VR_cells (μ := fun _ => none) (.d z zv hd) (by simp)
 have hzc : (AV.d z).cells.length = z.cells.length := by cases z <;> simp [AV.cells, D.cells]
 have hzsize : zv.cells.size = sz := by rw [hzs.size, hzc, hl]
 unfold Builtin.zeroCells
 refine ⟨by simp [hzsize], fun k x hx => ?_, fun k x j c hx hj => ?_⟩
 ·rw [List.getElem?_replicate] at hx
  split at hx
  ·simp only [Option.some.injEq] at hx
   subst hx
   exact ⟨hl, fun c hc => by have := List.all_eq_true.1 hf c hc; simpa using this⟩
  ·cases hx
 ·rw [List.getElem?_replicate] at hx
  split at hx
  ·rename_i hk
   simp only [Option.some.injEq] at hx
   subst hx
   have hjl := lt_of_get hj
   have hlt : k * sz + j < n * sz := by
    have : (k + 1) * sz ≤ n * sz := Nat.mul_le_mul_right _ hk
    rw [Nat.add_mul] at this
    omega
   have hmod : (k * sz + j) % zv.cells.size = j := by
    rw [hzsize, Nat.mul_comm, Nat.mul_add_mod, Nat.mod_eq_of_lt (by omega)]
   have hjz : j < zv.cells.size := by omega
   refine ⟨zv.cells[j], ?_, ?_⟩
   ·simp only [Array.getElem?_map]
    rw [Array.getElem?_range, if_pos (by rw [hzsize]; exact hlt)]
    simp only [Option.map_some, hmod]
    rw [getElem!_pos zv.cells j hjz]
   ·have hj2 : (AV.d z).cells[j]? = some (.d c) := by
     cases z <;> simp_all [AV.cells, D.cells]
    exact VR_d (hzs.get j _ _ hj2 (Array.getElem?_eq_getElem hjz))
  ·cases hx
theorem clear_step {P : Program} {σ : List Ob} {t ty el : TypeId} {at_ : Array TypeId} {id sz by_ off len : Nat} {cap : Option Nat} {xs : List D} {z0 z : D} {ro : Ro} {μ : Mu} {w : World} {v : Value} (g : Good ro μ w (hp σ))
  (h0 : at_[0]? = some t) (hu : P.underlying t = some (.slice el)) (E : EI P el sz by_ z0) (hw0 : AW (.d z0) (.d z)) (hzl : z.cells.length = sz) (hzf : z.cells.all (fun c => !c.isAgg) = true) (hs : VR ro μ (.slc id sz off len cap) v) (hid : σ[id]? = some (.row sz xs true)) (hfit : off + len ≤ xs.length) :
  Step P (Builtin.clear_ at_ ty #[v]) ro μ w σ (.tuple []) (σ.set id (.row sz (over xs off (List.replicate len z)) true)) := by
 have nop : len = 0 → σ.set id (.row sz (over xs off (List.replicate len z)) true) = σ := by
  intro e
  subst e
  have he : over xs off (List.replicate 0 z) = xs := by simp [over]
  rw [he]
  apply List.ext_getElem?
  intro i
  rw [List.getElem?_set]
  split
  ·rename_i e; subst e
   split
   ·exact hid.symm
   ·rename_i q; exact absurd (lt_of_get hid) q
  ·rfl
 have tup : VR ro μ (.tuple []) (.tuple #[]) := .tuple [] #[] rfl (fun i x v hx => by simp at hx)
 rcases VR_slc hs with ⟨L, c, a, rfl, hL, hsz, hlc, hcap, ha⟩ | ⟨rfl, rfl, rfl⟩
 rotate_left
 ·rw [nop rfl]
  refine Step.still g ⟨.tuple #[], ?_, tup⟩
  simp only [Builtin.clear_, h0, List.getElem?_toArray, List.getElem?_cons_zero, Sem.run_bind, run_underlying hu, Result.andThen_ok]
  rfl
 rcases Nat.eq_zero_or_pos len with hl0 | hl0
 ·rw [nop hl0]
  subst hl0
  refine Step.still g ⟨.tuple #[], ?_, tup⟩
  simp only [Builtin.clear_, h0, List.getElem?_toArray, List.getElem?_cons_zero, Sem.run_bind, run_underlying hu, Result.andThen_ok]
  rfl
 obtain ⟨zv, hzv, hzd⟩ := zeroOf_run E.zero ro w
 have hzd' := VR_d (hw0 ro μ _ (.d _ _ hzd))
 have hfc := zeroCells_FC hzd' hzl hzf E.pos len
 have hob := g.ob id
 rw [hp_some hid] at hob
 obtain ⟨A, T, fz, o0, hh, hf, hCs, hlim, hw, hz', hcell⟩ := hob L hL
 generalize hC : Builtin.zeroCells zv.cells len = C at hfc
 have hfit2 : L.base + off * sz + C.size ≤ A.size := by
  rw [hfc.size, List.length_replicate]
  have : (off + len) * sz ≤ xs.length * sz := Nat.mul_le_mul_right _ hfit
  rw [Nat.add_mul] at this
  omega
 obtain ⟨k1, k2, k3, k4, k5, k6⟩ := setCells_heap L.blk T fz C.toList (L.base + off * sz) w A hh (by simpa using hfit2)
 have hst : (storeCells a C.toList).run P w = .ok () (w.setCells L.blk (L.base + off * sz) C.toList) := by
  obtain ⟨rfl, _⟩ := ha (by omega)
  exact storeCells_at (P := P) hh hf (by simpa using hfit2) hfc.one
 obtain ⟨r1, r2⟩ := FC_over (off := off) hz' hcell (by omega) hfc (by simpa using hfit)
 have hsz2 : (over A.toList (L.base + off * sz) C.toList).length = A.size := by rw [over_length (by simpa using hfit2)]; simp
 have := g.write (n := id) (o := .row sz (over xs off (List.replicate len z)) true) (L := L) (by rw [hp_some hid]; rfl) hL k2 k3 k4 k5 k6 (by
  intro L' hL'
  rw [hL] at hL'; cases hL'
  refine ⟨_, T, fz, o0, k1, ?_, ?_, ?_, (fun e => Bool.noConfusion e), r1, r2⟩
  ·rw [List.size_toArray, hsz2]; exact hf
  ·rw [List.size_toArray, hsz2]; exact hCs
  ·rw [over_length (by simpa using hfit)]; exact hlim)
 rw [← hp_set (lt_of_get hid)] at this
 refine ⟨.tuple #[], ro, μ, _, ?_, tup, this.1, this.2, fun _ h => absurd rfl h, by simp⟩
 obtain ⟨k, rfl⟩ : ∃ k, len = k + 1 := ⟨len - 1, by omega⟩
 simp only [Builtin.clear_, h0, List.getElem?_toArray, List.getElem?_cons_zero, Sem.run_bind, run_underlying hu, Result.andThen_ok, hzv, hC, hst, Sem.run_pure]
section
variable {P : Program} {m : Nat} {ops : Array Oper} {o : Oper} {l : List Oper} {n : Nat} {e : En} {σ σ' : List Ob} {t : TypeId} {x y : Operand}
theorem SO.sem0 {Q : St → Prop} (Vs : List Ob → Prop) (hw : Wanted ops n e o true) (hd : o.dst = none)
  (hs : ∀ (ro : Ro) (μ : Mu) (w : World) (a : Act), Good ro μ w (hp σ) → (∀ id, σ.length ≤ id → μ id = none) → VRs ro μ (mk n e) a.tmps → ∃ s x σ', Vs σ' ∧ execOp a.eval o = (do pure (.value (← s))) ∧ Step P s ro μ w σ x σ')
  (k : ∀ σ', Vs σ' → SO P m ops l ⟨mk n e, σ'⟩ Q) : SO P m ops (o :: l) ⟨mk n e, σ⟩ Q := by
 intro ro0 μ0 w0 H0 ro μ w a j Z hl hr hQ
 have h0 : ops[j]? = some o := by have := hl 0; simpa using this.symm
 have hl' : ∀ i, l[i]? = ops[j + 1 + i]? := fun i => by have := hl (i + 1); simp at this; rw [this]; congr 1; omega
 simp only [List.length_cons, List.range'_succ]
 rw [wpOps_cons]
 unfold wpOp
 simp only [h0]
 rw [wants_sound hr.env hw]
 simp only [if_true]
 have hfree : ∀ id, σ.length ≤ id → μ id = none := by
  intro id hid
  cases hm : μ id with
  | none => rfl
  | some L => have := hr.dom id L hm; simp at this; omega
 obtain ⟨s, x, σ', hx, he, hst⟩ := hs ro μ w a hr.good hfree hr.env
 refine .inl (wp_of_step he hst ?_)
 intro v ro' μ' w' k1 k2 k3 k4 k5
 have hp' : putA (mk n e) o.dst x = mk n e := by rw [hd]; rfl
 have := hr.op k1 k2 k3 k4 k5 o.dst
 rw [hp'] at this
 exact k σ' hx ro0 μ0 w0 H0 ro' μ' w' _ (j + 1) Z hl' this hQ
theorem clr {el ty : TypeId} {pos : String} {af : Array Edge} {id sz by_ off len : Nat} {cap : Option Nat} {xs : List D} {z0 z : D} {cl : Call} {Q : St → Prop} (hb : cl.callee = .builtin .clear) (ht : cl.argTypes[0]? = some t) (ha : cl.args.toList = [x]) (hx : lq n e x = some (.slc id sz off len cap))
  (un : P.underlying t = some (.slice el)) (E : EI P el sz by_ z0) (hw0 : AW (.d z0) (.d z)) (hzl : z.cells.length = sz) (hzf : z.cells.all (fun c => !c.isAgg) = true) (hid : σ[id]? = some (.row sz xs true)) (hfit : off + len ≤ xs.length) (hσ : σ.set id (.row sz (over xs off (List.replicate len z)) true) = σ')
  (k : SO P m ops l ⟨mk n e, σ'⟩ Q) : SO P m ops (⟨none, .call cl, ty, pos, af, none⟩ :: l) ⟨mk n e, σ⟩ Q := by
 refine SO.sem0 (fun s => s = σ') wf rfl ?_ (fun s h => h ▸ k)
 intro ro μ w a g hfree he
 have hvx := opd_sound he (lo_opd (lq_lo hx))
 have hargs : cl.args.map a.eval = #[a.eval x] := by
  have : cl.args = #[x] := Array.ext' (by simpa using ha)
  rw [this]; simp
 refine ⟨Builtin.clear_ cl.argTypes ty #[a.eval x], .tuple [], σ', rfl, ?_, hσ ▸ clear_step g ht un E hw0 hzl hzf hvx hid hfit⟩
 simp only [execOp, resolve, hb, pure_bind, invoke]
 show builtin .clear cl.argTypes ty _ (cl.args.map a.eval) = _
 rw [hargs]
 rfl
end
theorem CallAt.capN {P : Program} {f : FuncId} {id sz off len : Nat} {rest : List AV} {σ σ' : List Ob} {r : AV} (hlen : 0 < len) (h : ∀ c, len ≤ c → CallAt P f (.slc id sz off len (some c) :: rest) σ r σ') : CallAt P f (.slc id sz off len none :: rest) σ r σ' := by
 intro ro μ w cargs g hdom hV
 have h0 : 0 < cargs.size := by rw [hV.size]; simp
 have hv := hV.get 0 _ cargs[0] rfl (Array.getElem?_eq_getElem h0)
 rcases VR_slc hv with ⟨L, c, a, e, hL, hsz, hlc, hcap, ha⟩ | ⟨e, _⟩
 ·refine h c hlc ro μ w cargs g hdom ⟨by rw [hV.size]; rfl, fun i x v hx hv' => ?_⟩
  cases i with
  | zero =>
   simp only [List.getElem?_cons_zero, Option.some.injEq] at hx
   subst hx
   rw [Array.getElem?_eq_getElem h0] at hv'
   simp only [Option.some.injEq] at hv'
   subst hv'
   rw [e]
   exact .slc id sz off len (some c) L c a hL hsz hlc (fun k hk => by cases hk; rfl) ha
  | succ i => exact hV.get (i + 1) x v (by simpa using hx) hv'
 ·omega
section
variable {P : Program} {σ : List Ob} {t el : TypeId} {sz by_ c : Nat} {z : D} {α : Type} {f : α → D} {xs : List α}
theorem sl_c3 {id n : Nat} {lo hi : Int} (un : P.underlying t = some (.slice el)) (ts : tsize P el = some sz) (h0 : 0 ≤ lo) (h1 : lo ≤ hi) (h2 : hi ≤ (n : Int)) (hc : n ≤ c) (hn : 0 < n) :
  aslice P t (.slc id sz 0 n (some c)) (some (.d (eI lo))) (some (.d (eI hi))) (some (.d (eI (n : Int)))) = some (.slc id sz lo.toNat (hi.toNat - lo.toNat) (some (n - lo.toNat))) := by
 have h3 : 0 ≤ hi := by omega
 have h4 : (0 : Int) ≤ (n : Int) := by omega
 simp only [aslice, un, ts, boundOf, h0, h3, h4, if_true, Option.getD_some, Option.isSome_some, true_and, reslice, Int.toNat_natCast, Nat.zero_add]
 rw [if_pos (by omega), if_pos (by omega)]
theorem sl_ch {id n : Nat} {hi : Int} (un : P.underlying t = some (.slice el)) (ts : tsize P el = some sz) (h0 : 0 ≤ hi) (h2 : hi ≤ (n : Int)) (hc : n ≤ c) :
  aslice P t (.slc id sz 0 n (some c)) none (some (.d (eI hi))) none = some (.slc id sz 0 hi.toNat (some c)) := by
 simp only [aslice, un, ts, boundOf, h0, if_true, Option.getD_some, Option.getD_none, Option.isSome_some, true_and, reslice, Nat.zero_le, Nat.add_zero, Nat.sub_zero]
 rw [if_pos (by omega)]
theorem sl_cl {id n : Nat} {lo : Int} (un : P.underlying t = some (.slice el)) (ts : tsize P el = some sz) (h0 : 0 ≤ lo) (h2 : lo ≤ (n : Int)) (hc : n ≤ c) :
  aslice P t (.slc id sz 0 n (some c)) (some (.d (eI lo))) none none = some (.slc id sz lo.toNat (n - lo.toNat) (some (c - lo.toNat))) := by
 simp only [aslice, un, ts, boundOf, h0, if_true, Option.getD_some, Option.getD_none, Option.isSome_some, true_and, reslice, Nat.zero_add]
 rw [if_pos (by omega), if_pos (by omega)]
theorem sl_cb {id n lo hi : Nat} (un : P.underlying t = some (.slice el)) (ts : tsize P el = some sz) (h1 : lo ≤ hi) (h2 : hi ≤ c) :
  aslice P t (.slc id sz 0 n (some c)) (some (.d (eI (lo : Int)))) (some (.d (eI (hi : Int)))) none = some (.slc id sz lo (hi - lo) (some (c - lo))) := by
 have h3 : (0 : Int) ≤ (lo : Int) := by omega
 have h4 : (0 : Int) ≤ (hi : Int) := by omega
 simp only [aslice, un, ts, boundOf, h3, h4, if_true, Option.getD_some, Option.isSome_some, true_and, reslice, Int.toNat_natCast, Nat.zero_add]
 rw [if_pos (by omega), if_pos (by omega)]
theorem delA {i j c' : Nat} (un : P.underlying t = some (.slice el)) (E : EI P el sz by_ z) (hij : i ≤ j) (hj : j ≤ xs.length) (hc : xs.length ≤ c) (hr : xs.length * by_ ≤ room) :
  aappend P [.row sz (xs.map f) true] t (.slc 0 sz 0 i (some c)) (.slc 0 sz j (xs.length - j) (some c')) = some (.slc 0 sz 0 (i + (xs.length - j)) (some c), [.row sz ((over xs i (xs.drop j)).map f) true]) := by
 obtain ⟨I, h1, h2, h3⟩ := E.get
 subst h2
 subst h3
 have he : elems [Ob.row I.size (xs.map f) true] I.size (.slc 0 I.size j (xs.length - j) (some c')) = some ((xs.drop j).map f) := by
  rw [el_slc (xs := xs) rfl (by omega), List.take_of_length_le (by simp)]
 have hl : ((xs.drop j).map f).length = xs.length - j := by simp
 have hr2 : (i + (xs.length - j)) * I.bytes ≤ room := Nat.le_trans (Nat.mul_le_mul_right _ (by omega)) hr
 simp only [aappend, un, h1, he, E.zero, E.len, E.nz, ne_eq, not_false_eq_true, and_self, if_true, hl, List.getElem?_cons_zero, List.length_map, true_and]
 rw [if_pos ⟨by omega, hr2⟩, if_pos (by omega), if_pos (by omega)]
 simp only [Nat.zero_add, List.set_cons_zero, over, List.map_append, List.map_take, List.map_drop, List.length_drop, List.length_map]
theorem delC {i j : Nat} {Z : α} (hij : i ≤ j) (hj : j ≤ xs.length) : over ((over xs i (xs.drop j)).map f) (i + (xs.length - j)) (List.replicate (xs.length - (i + (xs.length - j))) (f Z)) = ((xs.take i ++ xs.drop j) ++ List.replicate (j - i) Z).map f := by
 have e : xs.length - (i + (xs.length - j)) = j - i := by omega
 rw [e]
 have h1 : (xs.take i).length = i := by simp; omega
 have h2 : (xs.drop j).length = xs.length - j := by simp
 have hA : (over xs i (xs.drop j)).take (i + (xs.length - j)) = xs.take i ++ xs.drop j := by
  unfold over
  rw [← List.append_assoc, List.take_append_of_le_length (by simp; omega), List.take_of_length_le (by simp; omega)]
 have hL : (over xs i (xs.drop j)).length = xs.length := by
  unfold over; simp; omega
 generalize over xs i (xs.drop j) = A at hA hL ⊢
 unfold over
 have hD : (List.map f A).drop (i + (xs.length - j) + (List.replicate (j - i) (f Z)).length) = [] := by
  apply List.drop_eq_nil_of_le
  simp; omega
 rw [← List.map_take, hA, hD]
 simp
theorem delC' {i j : Nat} (hij : i ≤ j) (hj : j ≤ xs.length) : i + (xs.length - j) + (xs.length - (i + (xs.length - j))) ≤ ((over xs i (xs.drop j)).map f).length := by
 have hL : (over xs i (xs.drop j)).length = xs.length := by
  unfold over; simp; omega
 simp [hL]; omega
theorem delZ {i j k : Nat} {Z : α} (hij : i ≤ j) (hj : j ≤ xs.length) : Lv.frz [.row sz (((xs.take i ++ xs.drop j) ++ List.replicate k Z).map f) true] (.slc 0 sz 0 (i + (xs.length - j)) (some c)) = some (eL sz f (xs.take i ++ xs.drop j), [.row sz (((xs.take i ++ xs.drop j) ++ List.replicate k Z).map f) false]) := by
 simp only [Lv.frz, List.getElem?_cons_zero, List.length_map, true_and, List.set_cons_zero]
 rw [if_pos (by simp; omega), List.drop_zero, ← List.map_take, List.take_append_of_le_length (by simp; omega), List.take_of_length_le (by simp; omega)]
end
def delF {α : Type} (by_ : Nat) (xs : List α) (i j : Int) : Option (List α) := bif decide (0 ≤ i ∧ i < j ∧ j ≤ (xs.length : Int) ∧ xs.length * by_ ≤ room) then some (xs.take i.toNat ++ xs.drop j.toNat) else none
theorem delF_some {α : Type} {by_ : Nat} {xs r : List α} {i j : Int} (h : delF by_ xs i j = some r) : 0 ≤ i ∧ i < j ∧ j ≤ (xs.length : Int) ∧ xs.length * by_ ≤ room ∧ xs.take i.toNat ++ xs.drop j.toNat = r := by
 unfold delF at h
 by_cases hc : 0 ≤ i ∧ i < j ∧ j ≤ (xs.length : Int) ∧ xs.length * by_ ≤ room
 ·rw [decide_eq_true hc, cond_true] at h
  exact ⟨hc.1, hc.2.1, hc.2.2.1, hc.2.2.2, Option.some.inj h⟩
 ·rw [decide_eq_false hc] at h
  cases h
end Lv
