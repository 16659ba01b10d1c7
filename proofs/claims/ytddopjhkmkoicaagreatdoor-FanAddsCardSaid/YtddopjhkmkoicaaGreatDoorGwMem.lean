/- Texts and rows. -/
import Derived.Test.YtddopjhkmkoicaaGreatDoorGwInt
import Derived.Test.YtddopjhkmkoicaaGreatDoorLvStr
/- Texts and rows. -/
namespace Lv
open Go
set_option linter.unusedVariables false
set_option linter.unusedSimpArgs false
set_option linter.unusedSectionVars false
variable [BaseTab]
theorem ou (l : List UInt8) : (ByteArray.mk l.toArray).size = l.length := by simp [ByteArray.size]
theorem iQ (l : List UInt8) : (ByteArray.mk l.toArray).toList = l := by
 have h : ∀ (b : ByteArray) (k : Nat) (acc : List UInt8), k ≤ b.size → ByteArray.toList.loop b k acc = acc.reverse ++ b.data.toList.drop k := by
  intro b
  suffices h : ∀ (n k : Nat) (acc : List UInt8), b.size - k = n → k ≤ b.size → ByteArray.toList.loop b k acc = acc.reverse ++ b.data.toList.drop k from fun k acc => h _ k acc rfl
  intro n
  induction n with
  | zero =>
   intro k acc hn hk
   unfold ByteArray.toList.loop
   rw [if_neg (by omega)]
   rw [List.drop_eq_nil_of_le (by simp; have : b.data.size = b.size := rfl; omega)]
   simp
  | succ n ih =>
   intro k acc hn hk
   unfold ByteArray.toList.loop
   have hlt : k < b.size := by omega
   rw [if_pos hlt, ih (k + 1) _ (by omega) (by omega)]
   have hd : b.data.toList.drop k = b.get! k :: b.data.toList.drop (k + 1) := by
    have hlt' : k < b.data.toList.length := by simpa using hlt
    rw [List.drop_eq_getElem_cons hlt']
    congr 1
    have : k < b.data.size := hlt
    simp [ByteArray.get!, Array.getElem!_eq_getD, Array.getD, this]
    intro hc; omega
   rw [hd]
   simp
 unfold ByteArray.toList
 rw [h _ 0 [] (by omega)]
 simp
theorem RP (a b : List UInt8) : (ByteArray.mk a.toArray) ++ (ByteArray.mk b.toArray) = ByteArray.mk (a ++ b).toArray := by
 apply ByteArray.ext
 rw [ByteArray.data_append]
 simp
section
variable {P : Program} (t : TypeId) (X Y : Operand)
abbrev Qo (a b : List UInt8) : Bool := Op.bytesLess a b
theorem R8 (a b : List UInt8) : bC P .eql t X Y (.d (eS a)) (.d (eS b)) = some (.d (.bool (a == b))) := (show _ = some (AV.d (.bool ((ByteArray.mk a.toArray).toList == (ByteArray.mk b.toArray).toList))) from rfl).trans (by rw [iQ, iQ])
theorem R4 (a b : List UInt8) : bC P .neq t X Y (.d (eS a)) (.d (eS b)) = some (.d (.bool (a != b))) := (show _ = some (AV.d (.bool !((ByteArray.mk a.toArray).toList == (ByteArray.mk b.toArray).toList))) from rfl).trans (by rw [iQ, iQ]; rfl)
theorem R5 (a b : List UInt8) : bC P .leq t X Y (.d (eS a)) (.d (eS b)) = some (.d (.bool (Qo a b || a == b))) := (show _ = some (AV.d (.bool (Op.bytesLess (ByteArray.mk a.toArray).toList (ByteArray.mk b.toArray).toList || (ByteArray.mk a.toArray).toList == (ByteArray.mk b.toArray).toList))) from rfl).trans (by rw [iQ, iQ])
theorem R6 (a b : List UInt8) : bC P .gtr t X Y (.d (eS a)) (.d (eS b)) = some (.d (.bool !(Qo a b || a == b))) := (show _ = some (AV.d (.bool !(Op.bytesLess (ByteArray.mk a.toArray).toList (ByteArray.mk b.toArray).toList || (ByteArray.mk a.toArray).toList == (ByteArray.mk b.toArray).toList))) from rfl).trans (by rw [iQ, iQ])
theorem R7 (a b : List UInt8) : bC P .geq t X Y (.d (eS a)) (.d (eS b)) = some (.d (.bool !(Qo a b))) := (show _ = some (AV.d (.bool !(Op.bytesLess (ByteArray.mk a.toArray).toList (ByteArray.mk b.toArray).toList))) from rfl).trans (by rw [iQ, iQ])
theorem wh (a b : List UInt8) (h : a.length + b.length ≤ 9223372036854775807) : bC P .add t X Y (.d (eS a)) (.d (eS b)) = some (.d (eS (a ++ b))) := by
 have h' : ¬ ((((ByteArray.mk a.toArray).size + (ByteArray.mk b.toArray).size : Nat) : Int) > IntKind.i64.max) := by
  have e : IntKind.i64.max = 9223372036854775807 := rfl
  rw [e, ou, ou]; omega
 show vY P (do eqGuard .add t X Y (.string ⟨a.toArray⟩) (.string ⟨b.toArray⟩); binOp .add t (.string ⟨a.toArray⟩) (.string ⟨b.toArray⟩)) = _
 unfold vY
 have : pr P (do eqGuard .add t X Y (.string ⟨a.toArray⟩) (.string ⟨b.toArray⟩); binOp .add t (.string ⟨a.toArray⟩) (.string ⟨b.toArray⟩)) = some (.string (⟨a.toArray⟩ ++ ⟨b.toArray⟩)) := by
  show pr P (Op.stringOp .add ⟨a.toArray⟩ ⟨b.toArray⟩) = _
  simp only [Op.stringOp]
  rw [if_neg h']
  rfl
 rw [this, RP]
 rfl
end
section
variable {P : Program} {t : TypeId}
theorem j6 (un : P.underlying t = some .string) {s : List UInt8} {k : IntKind} {i : Int} {b : UInt8} (hi : 0 ≤ i) (h : s[i.toNat]? = some b) : vY P (Instr.index t (.string ⟨s.toArray⟩) (.int k i)) = some (.d (bR b)) := by
 have hs : (ByteArray.mk s.toArray)[i.toNat]? = some b := by
  have hlt := bE h
  have : i.toNat < (ByteArray.mk s.toArray).size := by rw [ou]; exact hlt
  rw [getElem?_pos (ByteArray.mk s.toArray) i.toNat this]
  have e : (ByteArray.mk s.toArray)[i.toNat] = s[i.toNat] := rfl
  rw [e]
  rw [List.getElem?_eq_getElem hlt] at h
  exact h
 have : pr P (Instr.index t (.string ⟨s.toArray⟩) (.int k i)) = some (.int .u8 b.toNat) := by
  simp only [Instr.index, asIntOf, pure_bind, gU, fE un, Option.bind_some]
  rw [if_pos hi, hs]
  rfl
 unfold vY
 rw [this]
 rfl
theorem PL (s : List UInt8) (lo hi : Nat) : (ByteArray.mk s.toArray).extract lo hi = ⟨((s.drop lo).take (hi - lo)).toArray⟩ := by
 apply ByteArray.ext
 rw [ByteArray.data_extract]
 simp [List.extract_toArray, List.extract_eq_take_drop]
theorem Rf (un : P.underlying t = some .string) {s : List UInt8} {lo : Int} (h : 0 ≤ lo ∧ lo ≤ (s.length : Int)) : aslice P t (.d (eS s)) (some (.d (eI lo))) none none = some (.d (eS (s.drop lo.toNat))) := by
  have hz := ou s
  have : pr P (Instr.slice t (.string ⟨s.toArray⟩) (some (.int .i64 lo)) none none) = some (.string ((ByteArray.mk s.toArray).extract lo.toNat (ByteArray.mk s.toArray).size)) := by
    simp only [Instr.slice, Instr.sliceBounds, Instr.sliceBound, asIntOf, pure_bind, gU, fE un, Option.bind_some, Option.isSome_none, Bool.false_eq_true, if_false]
    rw [if_pos (by omega)]
    rfl
  show (match P.underlying t with | some (.slice e) => _ | some .string => _ | _ => _) = _
  rw [un]
  show (match pr P (Instr.slice t (.string ⟨s.toArray⟩) (some (.int .i64 lo)) none none) with
        | some u => (match lW u with | some y => some (AV.d y) | none => none)
        | none => none) = _
  rw [this, PL, ou, List.take_of_length_le (by simp)]
  rfl
theorem aa3 {el : TypeId} {sz id off len : Nat} {lo hi : Int} (un : P.underlying t = some (.slice el)) (ts : bU P el = some sz) (h : 0 ≤ lo ∧ lo ≤ hi ∧ hi ≤ (len : Int)) :
  aslice P t (.slc id sz off len none) (some (.d (eI lo))) (some (.d (eI hi))) none = some (.slc id sz (off + lo.toNat) (hi.toNat - lo.toNat) none) := by
 have h1 : 0 ≤ hi := by omega
 simp only [aslice, un, ts, pU, h.1, h1, if_true, Option.getD_some, Option.isSome_some, true_and, reslice]
 rw [if_pos (by omega), if_pos (by omega)]
theorem CV {el : TypeId} {sz id off len : Nat} {lo : Int} (un : P.underlying t = some (.slice el)) (ts : bU P el = some sz) (h : 0 ≤ lo ∧ lo ≤ (len : Int)) :
  aslice P t (.slc id sz off len none) (some (.d (eI lo))) none none = some (.slc id sz (off + lo.toNat) (len - lo.toNat) none) := by
 simp only [aslice, un, ts, pU, h.1, if_true, Option.getD_some, Option.getD_none, Option.isSome_some, true_and, reslice]
 rw [if_pos (by omega), if_pos (by omega)]
theorem CW {el : TypeId} {sz id off len : Nat} {hi : Int} (un : P.underlying t = some (.slice el)) (ts : bU P el = some sz) (h : 0 ≤ hi ∧ hi ≤ (len : Int)) :
  aslice P t (.slc id sz off len none) none (some (.d (eI hi))) none = some (.slc id sz off hi.toNat none) := by
 simp only [aslice, un, ts, pU, h.1, if_true, Option.getD_some, Option.getD_none, Option.isSome_some, true_and, reslice, Nat.zero_le, Nat.add_zero, Nat.sub_zero]
 rw [if_pos (by omega)]
theorem Rh {α : Type} {f : α → D} {xs : List α} {el : TypeId} {sz : Nat} {lo : Int} (un : P.underlying t = some (.slice el)) (ts : bU P el = some sz) (h : 0 ≤ lo ∧ lo ≤ (xs.length : Int)) :
  aslice P t (.d (.xI sz (xs.map f))) (some (.d (eI lo))) none none = some (.d (.xI sz ((xs.drop lo.toNat).map f))) := by
 simp only [aslice, un, ts, pU, h.1, if_true, Option.getD_some, Option.getD_none, true_and, List.length_map, and_true, Nat.le_refl]
 rw [if_pos (by omega), ← List.map_drop, List.take_of_length_le (by simp)]
theorem CX {α : Type} {f : α → D} {xs : List α} {el : TypeId} {sz : Nat} {hi : Int} (un : P.underlying t = some (.slice el)) (ts : bU P el = some sz) (h : 0 ≤ hi ∧ hi ≤ (xs.length : Int)) :
  aslice P t (.d (.xI sz (xs.map f))) none (some (.d (eI hi))) none = some (.d (.xI sz ((xs.take hi.toNat).map f))) := by
 simp only [aslice, un, ts, pU, h.1, if_true, Option.getD_some, Option.getD_none, true_and, List.length_map, and_true, Nat.zero_le, List.drop_zero, Nat.sub_zero]
 rw [if_pos (by omega), List.map_take]
variable {σ : List Ob} {α : Type} {f : α → D}
theorem dx {id sz : Nat} {xs : List α} {wr : Bool} {cap : Option Nat} (h : σ[id]? = some (.row sz (xs.map f) wr)) : elems σ sz (.slc id sz 0 xs.length cap) = some (xs.map f) := by
 simp only [elems, h, List.length_map, Nat.zero_add, Nat.le_refl, and_self, if_true, List.drop_zero]
 rw [List.take_of_length_le (by simp)]
theorem Po {id sz off len : Nat} {xs : List α} {wr : Bool} {cap : Option Nat} (h : σ[id]? = some (.row sz (xs.map f) wr)) (hl : off + len ≤ xs.length) : elems σ sz (.slc id sz off len cap) = some (((xs.drop off).take len).map f) := by
 simp [elems, h, hl, List.map_take, List.map_drop]
theorem AO {sz : Nat} {xs : List α} : elems σ sz (.d (.xI sz (xs.map f))) = some (xs.map f) := by simp [elems]
theorem Pn {s : List UInt8} : elems σ 1 (.d (eS s)) = some (s.map bR) := by simp [elems, bytesD]
theorem Yg {el : TypeId} {i : TypeInfo} {z : D} {k id sz : Nat} {xs ys : List α} {x : AV} {σ' : List Ob} (un : P.underlying t = some (.slice el)) (hi : P.info? el = some i) (hz : zeroOf P el = some z) (hs : i.size = sz) (hzl : z.cells.length = sz ∧ i.bytes ≠ 0)
  (h : σ[id]? = some (.row sz (xs.map f) true)) (hx : elems σ sz x = some (ys.map f)) (hr : (xs.length + ys.length) * i.bytes ≤ room) (hk : σ.length = k) (hσ : σ.set id .dead ++ [.row sz ((xs ++ ys).map f) true] = σ') :
  jk P σ t (.slc id sz 0 xs.length none) x = some (.slc k sz 0 (xs ++ ys).length none, σ') := by
 subst hs
 simp only [jk, un, hi, hx, hz, hzl, ne_eq, not_false_eq_true, and_self, if_true, h, true_and, List.length_map, Nat.zero_add, Nat.le_refl, hr, List.drop_zero, hk]
 rw [List.take_of_length_le (by simp), ← List.map_append, hσ, List.length_append]
theorem ac1 {el : TypeId} {i : TypeInfo} {z : D} {k sz : Nat} {ys : List α} {x : AV} {σ' : List Ob} (un : P.underlying t = some (.slice el)) (hi : P.info? el = some i) (hz : zeroOf P el = some z) (hs : i.size = sz) (hzl : z.cells.length = sz ∧ i.bytes ≠ 0)
  (hx : elems σ sz x = some (ys.map f)) (hr : ys.length * i.bytes ≤ room) (hk : σ.length = k) (hσ : σ ++ [.row sz (ys.map f) true] = σ') :
  jk P σ t (.d .aA) x = some (.slc k sz 0 ys.length none, σ') := by
 subst hs
 simp only [jk, un, hi, hx, hz, hzl, ne_eq, not_false_eq_true, and_self, if_true, List.length_map, hr, hk, hσ]
theorem aa2 {id off s : Nat} {x y : AV} {zs : List AV} {σ' : List Ob} (hs : bU P t = some s) (hy : y.cells = zs) (hl : zs.length = s) (h1 : zs.all AV.one = true) (h : σ[id]? = some (.box x)) (hx : x.isAgg = true) (ho : off + s ≤ x.cells.length) (hσ : σ.set id (.box (yM (over x.cells off zs))) = σ') : jQ P σ t (.ref id 0 off) y = some σ' := by
 subst hy
 simp only [jQ, hs, hl, h1, and_self, if_true, h, hx, ho, hσ]
theorem Xj {id : Nat} {x y : AV} {σ' : List Ob} (hs : bU P t = some 1) (hy : y.cells = [y]) (h1 : y.one = true) (h : σ[id]? = some (.box x)) (hx : x.isAgg = false) (hc : x.cells.length = 1) (hσ : σ.set id (.box y) = σ') : jQ P σ t (.ref id 0 0) y = some σ' := by
 simp only [jQ, hs, hy, List.length_cons, List.length_nil, List.all_cons, h1, List.all_nil, Bool.and_self, and_self, if_true, h, hx, hc, Nat.zero_add, Nat.le_refl, Bool.false_eq_true, if_false, hσ]
theorem Xi {id idx sz : Nat} {xs : List α} {y : D} {v : α} {σ' : List Ob} {o : α} (hs : bU P t = some 1) (hy : f v = y) (hc : y.cells = [y]) (ha : y.isAgg = false) (h : σ[id]? = some (.row sz (xs.map f) true)) (hx : xs[idx]? = some o) (hoc : (f o).isAgg = false) (hσ : σ.set id (.row sz ((xs.set idx v).map f) true) = σ') : jQ P σ t (.ref id idx 0) (.d y) = some σ' := by
 subst hy
 have hcs : AV.cells (.d (f v)) = [.d (f v)] := by
  cases hv : f v with
  | agg cs => rw [hv] at ha; cases ha
  | _ => rfl
 have hol : (f o).cells.length = 1 := by
  cases hv : f o with
  | agg cs => rw [hv] at hoc; cases hoc
  | _ => rfl
 have hone : AV.one (.d (f v)) = true := by simp [AV.one, ha]
 simp only [jQ, hs, hcs, List.length_cons, List.length_nil, List.all_cons, hone, List.all_nil, Bool.and_self, and_self, if_true, h, jN, Lv.lX, ha, Bool.false_eq_true, if_false, aT hx, hoc, hol, Nat.zero_add, Nat.le_refl]
 rw [← List.map_set, hσ]
theorem Xh {id idx off s sz : Nat} {xs : List α} {y : AV} {ds : List D} {v : α} {σ' : List Ob} {o : α} {zs : List AV} (hs : bU P t = some s) (hy : y.cells = zs) (hl : zs.length = s) (h1 : zs.all AV.one = true) (h : σ[id]? = some (.row sz (xs.map f) true)) (hfr : Lv.jN σ zs = some (ds, σ)) (hx : xs[idx]? = some o) (hoc : (f o).isAgg = true) (hof : off + s ≤ (f o).cells.length)
  (hv : D.agg (over (f o).cells off ds) = f v) (hσ : σ.set id (.row sz ((xs.set idx v).map f) true) = σ') : jQ P σ t (.ref id idx off) y = some σ' := by
 subst hy
 simp only [jQ, hs, hl, h1, and_self, if_true, h, hfr, aT hx, hoc, hof, hv]
 rw [← List.map_set, hσ]
theorem KX {el t' : TypeId} {s : List UInt8} {k : Nat} {σ' : List Ob} (u : P.underlying t = some .string) (u' : P.underlying t' = some (.slice el)) (u2 : P.underlying el = some (.int .u8)) (ts : bU P el = some 1) (hk : σ.length = k) (hσ : σ ++ [.row 1 (s.map bR) true] = σ') :
  dR P σ t t' (.d (eS s)) = some (.slc k 1 0 s.length none, σ') := by
 simp only [dR, u, u', u2, ts, hk, ou]
 rw [← hσ]
 rfl
theorem Co : ∀ (l : List UInt8), bytesOf (l.map bR) = some l
 | [] => rfl
 | b :: l => by
  simp only [List.map_cons, bytesOf, byteOf, Co l]
  congr 2
  simp
theorem iy {el t' : TypeId} {x : AV} {ys : List UInt8} (u : P.underlying t = some (.slice el)) (u' : P.underlying t' = some .string) (u2 : P.underlying el = some (.int .u8)) (hx : elems σ 1 x = some (ys.map bR)) (hn : ∀ s, x ≠ .d (.str s)) :
  dR P σ t t' x = some (.d (eS ys), σ) := by
 simp only [dR, u, u', u2, hx, Co]
theorem abx {el : TypeId} {i : TypeInfo} {z : D} {k : Nat} {n m : Int} {v : α} {σ' : List Ob} (un : P.underlying t = some (.slice el)) (hi : P.info? el = some i) (hz : zeroOf P el = some z) (hv : f v = z) (hzl : z.cells.length = i.size) (hza : z.cells.all (fun c => !c.isAgg) = true) (hi0 : i.size ≠ 0) {sz : Nat} (hs : i.size = sz)
  (hn : 0 ≤ n) (hr : n * i.bytes ≤ 70368744177664 ∧ n ≤ 70368744177664) (hk : σ.length = k) (hσ : σ ++ [.row sz ((List.replicate n.toNat v).map f) true] = σ') :
  iM P σ t (.d (eI n)) (.d (eI n)) = some (.slc k sz 0 (List.replicate n.toNat v).length (some (List.replicate n.toNat v).length), σ') := by
 subst hv
 subst hs
 simp only [iM, un, hi, hz, hn, Int.le_refl, hr.1, hr.2, hzl, hza, ne_eq, hi0, not_false_eq_true, and_self, if_true, List.length_replicate, hk]
 rw [← hσ, List.map_replicate]
end
end Lv
