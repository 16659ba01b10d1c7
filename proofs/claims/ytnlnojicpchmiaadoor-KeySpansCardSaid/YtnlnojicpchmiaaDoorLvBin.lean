/- Operations on data with letters in it; calls on data. -/
import Derived.Test.YtnlnojicpchmiaaDoorLvLaw
namespace Lv
open Go
set_option linter.unusedVariables false
set_option linter.unusedSimpArgs false

section
variable {P : Program} (t : TypeId) (x y : Operand)

theorem bin_str_eql (a b : ByteArray) : abinOp P .eql t x y (.d (.str a)) (.d (.str b)) = some (.d (.bool (a.toList == b.toList))) := rfl
theorem bin_str_neq (a b : ByteArray) : abinOp P .neq t x y (.d (.str a)) (.d (.str b)) = some (.d (.bool !(a.toList == b.toList))) := rfl
theorem bin_str_lss (a b : ByteArray) : abinOp P .lss t x y (.d (.str a)) (.d (.str b)) = some (.d (.bool (Op.bytesLess a.toList b.toList))) := rfl
theorem bin_str_leq (a b : ByteArray) : abinOp P .leq t x y (.d (.str a)) (.d (.str b)) = some (.d (.bool (Op.bytesLess a.toList b.toList || a.toList == b.toList))) := rfl
theorem bin_str_gtr (a b : ByteArray) : abinOp P .gtr t x y (.d (.str a)) (.d (.str b)) = some (.d (.bool !(Op.bytesLess a.toList b.toList || a.toList == b.toList))) := rfl
theorem bin_str_geq (a b : ByteArray) : abinOp P .geq t x y (.d (.str a)) (.d (.str b)) = some (.d (.bool !(Op.bytesLess a.toList b.toList))) := rfl
theorem bin_str_add (a b : ByteArray) (h : a.size + b.size ≤ 9223372036854775807) : abinOp P .add t x y (.d (.str a)) (.d (.str b)) = some (.d (.str (a ++ b))) := by
  have h' : ¬ (((a.size + b.size : Nat) : Int) > IntKind.i64.max) := by
    have e : IntKind.i64.max = 9223372036854775807 := rfl
    rw [e]; omega
  show byPr P (do eqGuard .add t x y (.string a) (.string b); binOp .add t (.string a) (.string b)) = _
  unfold byPr
  have : pr P (do eqGuard .add t x y (.string a) (.string b); binOp .add t (.string a) (.string b)) = some (.string (a ++ b)) := by
    show pr P (Op.stringOp .add a b) = _
    simp only [Op.stringOp]
    rw [if_neg h']
    rfl
  rw [this]
  rfl

theorem bin_i64_eql (a b : Int) : abinOp P .eql t x y (.d (.int .i64 a)) (.d (.int .i64 b)) = some (.d (.bool (a == b))) := rfl
theorem bin_i64_neq (a b : Int) : abinOp P .neq t x y (.d (.int .i64 a)) (.d (.int .i64 b)) = some (.d (.bool (a != b))) := rfl
theorem bin_i64_lss (a b : Int) : abinOp P .lss t x y (.d (.int .i64 a)) (.d (.int .i64 b)) = some (.d (.bool (decide (a < b)))) := rfl
theorem bin_i64_leq (a b : Int) : abinOp P .leq t x y (.d (.int .i64 a)) (.d (.int .i64 b)) = some (.d (.bool (decide (a ≤ b)))) := rfl
theorem bin_i64_gtr (a b : Int) : abinOp P .gtr t x y (.d (.int .i64 a)) (.d (.int .i64 b)) = some (.d (.bool (decide (a > b)))) := rfl
theorem bin_i64_geq (a b : Int) : abinOp P .geq t x y (.d (.int .i64 a)) (.d (.int .i64 b)) = some (.d (.bool (decide (a ≥ b)))) := rfl
theorem bin_i64_add (a b : Int) : abinOp P .add t x y (.d (.int .i64 a)) (.d (.int .i64 b)) = some (.d (.int .i64 (IntKind.i64.wrap (a + b)))) := rfl
theorem bin_i64_sub (a b : Int) : abinOp P .sub t x y (.d (.int .i64 a)) (.d (.int .i64 b)) = some (.d (.int .i64 (IntKind.i64.wrap (a - b)))) := rfl
theorem bin_u8_eql (a b : Int) : abinOp P .eql t x y (.d (.int .u8 a)) (.d (.int .u8 b)) = some (.d (.bool (a == b))) := rfl
theorem bin_u8_neq (a b : Int) : abinOp P .neq t x y (.d (.int .u8 a)) (.d (.int .u8 b)) = some (.d (.bool (a != b))) := rfl
theorem bin_u8_lss (a b : Int) : abinOp P .lss t x y (.d (.int .u8 a)) (.d (.int .u8 b)) = some (.d (.bool (decide (a < b)))) := rfl
theorem bin_u8_add (a b : Int) : abinOp P .add t x y (.d (.int .u8 a)) (.d (.int .u8 b)) = some (.d (.int .u8 (IntKind.u8.wrap (a + b)))) := rfl
theorem not_bool (b : Bool) : byPr P (Op.unary .not (.bool b)) = some (.d (.bool !b)) := rfl
theorem wrap_i64 {n : Int} (h : 0 ≤ n) (h2 : n < 9223372036854775808) : IntKind.i64.wrap n = n := by
  unfold IntKind.wrap
  have e1 : (2 : Int) ^ IntKind.i64.bits = 18446744073709551616 := rfl
  have e2 : (2 : Int) ^ (IntKind.i64.bits - 1) = 9223372036854775808 := rfl
  have e3 : n % 18446744073709551616 = n := Int.emod_eq_of_lt h (by omega)
  simp only [e1, e2, e3]
  rw [if_neg]
  simp; omega
end

theorem canon_none (σ : List Ob) : canon σ [] = some ([], []) := by simp [canon, reach, sub]

section
variable {P : Program} {pm : Prims} {K : FuncId → Keep} {ops : Array Oper} {o : Oper} {l : List Oper} {env : List AV} {σ : List Ob}

/-- A call on pure data. -/
theorem Op1.call0 {c : Call} {fo : Operand} {g : FuncId} {args : List AV} {x : AV} (ho : o.op = .call c) (hargs : opds env c.args.toList = some args) (hcal : c.callee = .value fo)
    (hfo : opd env fo = some (.fn (.func g) [] [])) (hcb : callable P g = true) (hi : idsL args = []) (hre : ∀ h, reL h args = some args) (hx : ∀ h, x.re h = some x) {σ2 : List Ob} (h2 : ∃ os, ∀ h, obsRe h σ2 = some os) (hev : Ev P pm K g args [] x σ2) :
    ∃ os, Op1 P pm K env σ o x (σ ++ os) := by
  obtain ⟨os, hos⟩ := h2
  refine ⟨os, Op1.call ho hargs hcal hfo hcb (ι := []) (σc := []) (args' := args) (r := x) (os := os) (by simp [hi, canon_none]) (by simpa using hre _) hev (hx _) (hos _) (by simp) (by simp [setAll])⟩

theorem WO.call0 {Q : St → Prop} {c : Call} {fo : Operand} {g : FuncId} {args : List AV} {x : AV} (hw : wants ops env o = some true) (ho : o.op = .call c) (hargs : opds env c.args.toList = some args) (hcal : c.callee = .value fo)
    (hfo : opd env fo = some (.fn (.func g) [] [])) (hcb : callable P g = true) (hi : idsL args = []) (hre : ∀ h, reL h args = some args) (hx : ∀ h, x.re h = some x) (hev : EvTo P pm K g args [] (fun r σ' => r = x ∧ σ' = []))
    (k : WO P pm K ops l ⟨putA env o.dst x, σ⟩ Q) : WO P pm K ops (o :: l) ⟨env, σ⟩ Q := by
  obtain ⟨r, σ', h1, rfl, rfl⟩ := hev
  obtain ⟨os, h⟩ := Op1.call0 (σ := σ) ho hargs hcal hfo hcb hi hre hx ⟨[], fun _ => rfl⟩ h1
  refine WO.op1 hw (Op1.call ho hargs hcal hfo hcb (ι := []) (σc := []) (args' := args) (r := r) (os := []) (by simp [hi, canon_none]) (by simpa using hre _) h1 (hx _) rfl (by simp) rfl) ?_
  simpa [setAll] using k

end

theorem end_ret {P : Program} {fn : Func} {Q : AV → List Ob → Prop} {s : St} {vs : List AV} (h : resultsOf P s fn.results.toList = some vs) (hi : (oneOr vs).ids = []) (hre : ∀ g, (oneOr vs).re g = some (oneOr vs)) (hQ : Q (oneOr vs) []) : endW P fn 0 Q .ret s :=
  ⟨oneOr vs, [], by simp only [finishF, h, hi, List.range_zero, List.append_nil, canon_none, List.take_zero, if_true, hre], hQ⟩

/-- The greater of two texts. -/
def maxB (a b : ByteArray) : ByteArray := if (!Op.bytesLess a.toList b.toList) = true then a else b


theorem idx_slc {P : Program} {t e : TypeId} {sz : Nat} (un : P.underlying t = some (.slice e)) (ts : tsize P e = some sz) (id off len : Nat) (cap : Option Nat) (k : IntKind) (n : Nat) (h : n < len) :
    aindexAddr P t (.slc id sz off len cap) (.d (.int k n)) = some (.ref id (off + n) 0) := by
  simp only [aindexAddr, un, ts]
  rw [if_pos ⟨by omega, by omega, trivial⟩]
  rfl

theorem slice_hi {P : Program} {t e : TypeId} {sz : Nat} (un : P.underlying t = some (.slice e)) (ts : tsize P e = some sz) (id off len : Nat) (k : IntKind) (n : Nat) (h : n ≤ len) :
    aslice P t (.slc id sz off len none) none (some (.d (.int k n))) none = some (.slc id sz off n none) := by
  have h0 : (0 : Int) ≤ (n : Int) := by omega
  simp only [aslice, un, ts, boundOf, if_pos h0, Option.getD_none, Option.getD_some, Int.toNat_natCast]
  rw [if_pos ⟨trivial, by omega⟩]
  simp only [reslice]
  rw [if_pos h]
  rfl

theorem bytesD_get {s : ByteArray} {n : Nat} (h : n < s.size) : (bytesD s)[n]? = some (.int .u8 (s.data[n]'h).toNat) := by
  unfold bytesD
  rw [List.getElem?_map, Array.getElem?_toList, Array.getElem?_eq_getElem h]
  rfl

theorem bytesD_length (s : ByteArray) : (bytesD s).length = s.size := by unfold bytesD; rw [List.length_map]; rfl

theorem WI.keep {P : Program} {pm : Prims} {K : FuncId → Keep} {f : FuncId} {m : Nat} {a : Code} {s s0 s1 : St} {Q : Ex → St → Prop} (h0 : atHead m ((firstRegion a).bind (K f)) s1 = some s0) (h : atHead m ((firstRegion a).bind (K f)) s = some s0) (k : WI P pm K f m a s1 Q) : WI P pm K f m a s Q := by
  unfold WI at k ⊢
  obtain ⟨e, s', ⟨kk, n, hk⟩, hq⟩ := k
  refine ⟨e, s', ⟨kk, n, ?_⟩, hq⟩
  cases n with
  | zero => simp [iter] at hk
  | succ n =>
    simp only [iter, h0] at hk
    simp only [iter, h]
    exact hk


/-- Rounds by a measure that falls. -/
theorem WI.by {P : Program} {pm : Prims} {K : FuncId → Keep} {f : FuncId} {m : Nat} {a : Code} {Q : Ex → St → Prop} {α : Type} (μ : α → Nat) (E : α → St) (I : α → Prop) (step : ∀ x, I x → (∀ y, μ y < μ x → I y → WI P pm K f m a (E y) Q) → WI P pm K f m a (E x) Q) (x : α) (hx : I x) : WI P pm K f m a (E x) Q := by
  have : ∀ k x, μ x = k → I x → WI P pm K f m a (E x) Q := by
    intro k
    induction k using Nat.strongRecOn with
    | ind k ih =>
      intro x hk hx
      exact step x hx fun y hy hI => ih (μ y) (by omega) y rfl hI
  exact this _ x rfl hx


theorem store_int {P : Program} {σ : List Ob} {t : TypeId} {id idx sz : Nat} {xs : List D} {k k' : IntKind} {a b : Int} (ts : tsize P t = some 1) (h : σ[id]? = some (.row sz xs true)) (hx : xs[idx]? = some (.int k a)) :
    astore P σ t (.ref id idx 0) (.d (.int k' b)) = some (σ.set id (.row sz (xs.set idx (.int k' b)) true)) := by
  have e1 : frzs σ (AV.cells (.d (.int k' b))) = some ([.int k' b], σ) := rfl
  unfold astore
  simp only [ts, h]
  rw [if_pos ⟨rfl, rfl⟩, e1]
  simp only [h, hx]
  rfl

theorem bytesOf_map : ∀ (l : List UInt8), bytesOf (l.map fun b => D.int .u8 b.toNat) = some l
  | [] => rfl
  | b :: l => by
    simp only [List.map_cons, bytesOf, byteOf, bytesOf_map l, Int.toNat_natCast]
    simp

theorem conv_bytes {P : Program} {σ : List Ob} {t t' e : TypeId} (u1 : P.underlying t = some (.slice e)) (u2 : P.underlying e = some (.int .u8)) (u3 : P.underlying t' = some .string) {id off len sz : Nat} {cap : Option Nat} {xs : List D} {bs : List UInt8} {wr : Bool}
    (h : σ[id]? = some (.row 1 xs wr)) (hl : off + len ≤ xs.length) (hb : bytesOf ((xs.drop off).take len) = some bs) (hsz : sz = 1) : aconvert P σ t t' (.slc id sz off len cap) = some (.d (.str ⟨bs.toArray⟩), σ) := by
  subst hsz
  have he : elems σ 1 (.slc id 1 off len cap) = some ((xs.drop off).take len) := by
    simp only [elems, h]
    rw [if_pos ⟨trivial, trivial, hl⟩]
  simp only [aconvert, u1, u2, u3, he, hb]

theorem u8_wrap (b : UInt8) : IntKind.u8.wrap ((b.toNat : Int) + 1) = ((b + 1).toNat : Int) := by
  unfold IntKind.wrap
  have e1 : (2 : Int) ^ IntKind.u8.bits = 256 := rfl
  have e2 : IntKind.u8.signed = false := rfl
  simp only [e1, e2, Bool.false_and, Bool.false_eq_true, if_false]
  rw [UInt8.toNat_add]
  have : b.toNat < 256 := b.toNat_lt
  simp


theorem take_set_last {α : Type} : ∀ (l : List α) (n : Nat) (b : α), n < l.length → (l.set n b).take (n + 1) = l.take n ++ [b]
  | [], n, b, h => by simp at h
  | x :: l, 0, b, h => by simp
  | x :: l, n + 1, b, h => by
    simp only [List.set_cons_succ, List.take_succ_cons, List.cons_append]
    rw [take_set_last l n b (by simpa using h)]

end Lv
