/- Part of the proof of a law. -/
import Derived.Test.YtihhhgaaagefgaaDoorXAll
import Derived.Test.YtihhhgaaagefgaaDoorGwPlain
import Derived.Lib.ValidLaws
import Derived.Test.YtihhhgaaagefgaaDoorGwQ
/- Plain laws of layer 07: values that are right. -/
namespace Lv
open Go Go.Proofs
set_option linter.unusedVariables false
set_option linter.unusedSimpArgs false
set_option linter.unusedSectionVars false
set_option maxRecDepth 100000
variable [BaseTab]
def val (v : ApiValue) : Bool :=
 (v.Kind == 0 && (v.N == 0 && v.S == [])) || ((v.Kind == 1 || v.Kind == 2) && v.S == []) || (v.Kind == 3 && (decide (v.N < 2) && v.S == [])) ||
 (v.Kind == 4 && (v.N == 0 && decide (v.S.length ≤ 64))) || (v.Kind == 5 && (v.N == 0 && (decide (v.S.length ≤ 64) && Go.Lib.validD v.S)))
theorem value_Valid_eq (v : ApiValue) (h : v.S.length < 4611686018427387904) : value_Valid v = some (val v) := by
 have e1 : validF v.S = some (Go.Lib.validD v.S) := by unfold validF; rw [if_pos (by omega)]
 have e2 : ((v.S.length : Int) ≤ 64) = (v.S.length ≤ 64) := propext (by omega)
 have e3 : (v.N ≤ 1) = (v.N < 2) := propext (by rw [UInt64.le_iff_toNat_le, UInt64.lt_iff_toNat_lt]; show _ ≤ 1 ↔ _ < 2; omega)
 obtain ⟨K, N, S⟩ := v
 unfold value_Valid val
 simp only [e1, e2, e3, eqApiValue, Bool.and_true] at *
 by_cases k0 : K = 0
 ·subst k0; simp
 by_cases k1 : K = 1
 ·subst k1; simp
 by_cases k2 : K = 2
 ·subst k2; simp
 by_cases k3 : K = 3
 ·subst k3; by_cases hN : N < 2 <;> simp [hN]
 by_cases k4 : K = 4
 ·subst k4; cases hN : (N == 0) <;> simp [hN]
 by_cases k5 : K = 5
 ·subst k5; cases hN : (N == 0) <;> by_cases hS : S.length ≤ 64 <;> simp [hN, hS]
 simp [beq_eq_false_iff_ne.2 k0, beq_eq_false_iff_ne.2 k1, beq_eq_false_iff_ne.2 k2, beq_eq_false_iff_ne.2 k3, beq_eq_false_iff_ne.2 k4, beq_eq_false_iff_ne.2 k5]
theorem decI {p q : Prop} [Decidable p] [Decidable q] (h : p ↔ q) : decide p = decide q := decide_eq_decide.2 h
end Lv
/- Plain laws of layer 07: keys of values, keys of lists. -/
namespace Lv
open Go Go.Proofs
set_option linter.unusedVariables false
set_option linter.unusedSimpArgs false
set_option linter.unusedSectionVars false
set_option maxRecDepth 100000
variable [BaseTab]
end Lv
/- Plain laws of layer 07: the program's keys and the document's. -/
namespace Lv
open Go Go.Proofs
set_option linter.unusedVariables false
set_option linter.unusedSimpArgs false
set_option linter.unusedSectionVars false
set_option maxRecDepth 100000
variable [BaseTab]
end Lv
/- Plain laws of layer 07: keys of lists. -/
namespace Lv
open Go Go.Proofs
set_option linter.unusedVariables false
set_option linter.unusedSimpArgs false
set_option linter.unusedSectionVars false
set_option maxRecDepth 100000
variable [BaseTab]
end Lv
/- Plain laws of layer 07: the span of what begins with a text. -/
namespace Lv
open Go Go.Proofs
set_option linter.unusedVariables false
set_option linter.unusedSimpArgs false
set_option linter.unusedSectionVars false
set_option maxRecDepth 100000
variable [BaseTab]
end Lv
/- Plain laws: names, columns, what fits them. -/
namespace Lv
open Go Go.Proofs
set_option linter.unusedVariables false
set_option linter.unusedSimpArgs false
set_option linter.unusedSectionVars false
set_option maxRecDepth 100000
variable [BaseTab]
def letter (c : UInt8) : Bool := decide (97 ≤ c) && decide (c ≤ 122)
def nchar (c : UInt8) : Bool := letter c || c == 95 || (decide (48 ≤ c) && decide (c ≤ 57))
def nameS : List UInt8 → Bool
 | [] => false
 | c :: r => decide (r.length < 16) && (letter c && r.all nchar)
theorem nall (l : List UInt8) : (l.any fun c => !nchar c) = !l.all nchar := by induction l <;> simp_all [List.any_cons, List.all_cons]
theorem value_Name_eq (s : List UInt8) (hs : s.length < 4611686018427387904) : value_Name s = some (nameS s) := by
 unfold value_Name
 cases s with
 | nil => rfl
 | cons c r =>
  have hlen : (c :: r).length = r.length + 1 := rfl
  refine bo (a := decide (r.length ≥ 16)) ?_ ?_
  ·rw [show ((c :: r) == ([] : List UInt8)) = false from rfl, cond_false, hlen]; congr 1; exact decI (by omega)
  by_cases h16 : r.length ≥ 16
  ·rw [bif_decT h16]; simp only [nameS]; rw [decide_eq_false (by omega)]; rfl
  rw [bif_decF h16]
  have e1 : nameS (c :: r) = (letter c && r.all nchar) := by simp only [nameS]; rw [decide_eq_true (by omega)]; rfl
  rw [e1]
  refine lpE (w := if (letter c && r.all nchar) = true then .inl () else .inr false) (nmB fun B hB => ?_) ?_
  rotate_left
  ·cases (letter c && r.all nchar) <;> rfl
  have step : ∀ (i : Nat) (x : UInt8), i < (c :: r).length → (c :: r)[i]? = some x → B (i : Int) = some (if (if i = 0 then !letter x else !nchar x) = true then .inr (.inr false) else .inl ((i + 1 : Nat) : Int)) := by
   intro i x hi hx
   rw [hB]
   show (bif _ then _ else _) = _
   rw [bif_decT (by omega), getI_nat, hx, bind_some', show ((i : Int) == 0) = decide (i = 0) by rw [Bool.eq_iff_iff]; simp, w64_succ (by omega)]
   generalize ((i + 1 : Nat) : Int) = k
   by_cases h0 : i = 0
   ·simp only [h0, decide_true, if_true]
    clear hx
    refine bo (a := letter x) ?_ ?_
    ·revert x; exact u8F (by decide +kernel)
    ·cases letter x <;> rfl
   ·simp only [h0, decide_false, if_false]
    clear hx
    refine bo (a := letter x) ?_ (bo (a := !nchar x) ?_ ?_)
    ·revert x; exact u8F (by decide +kernel)
    ·revert x; exact u8F (by decide +kernel)
    ·cases nchar x <;> rfl
  have s0 := step 0 c (by omega) rfl
  rw [show (0 : Int) = ((0 : Nat) : Int) from rfl]
  cases hc : letter c with
  | false => rw [hc] at s0; exact loop_end s0
  | true =>
   rw [hc] at s0
   rw [loop_step (y' := ((0 + 1 : Nat) : Int)) s0]
   refine (lq3 r (fun c => !nchar c) (.inr false) (.inl ()) (fun i => ((i + 1 : Nat) : Int)) (fun i hi => ?_) ?_ rfl).trans ?_
   ·rw [step (i + 1) r[i] (by omega) (by simp [hi])]
    simp
   ·rw [hB]
    show (bif _ then _ else _) = _
    rw [bif_decF (by omega)]
   ·rw [nall]; cases r.all nchar <;> rfl
def fitS (c : ApiColumn) (v : ApiValue) : Int :=
 if val v = false then 8 else if v.Kind = 0 then (if c.Nulls = true then 0 else 8) else if v.Kind ≠ c.Kind then 8 else if (v.Kind = 4 ∨ v.Kind = 5) ∧ (v.S.length : Int) > c.Max then 7 else 0
theorem long_eq (k : Int) : value_long k = some (decide (k = 4 ∨ k = 5)) := by
 unfold value_long
 by_cases h : k = 4
 ·subst h; rfl
 ·rw [show (k == 4) = false by simpa using h]
  simp only [cond_false, bind_some', h, false_or]
  congr 1
theorem value_Fits_eq (c : ApiColumn) (v : ApiValue) (h : v.S.length < 4611686018427387904) : value_Fits c v = some (fitS c v) := by
 unfold value_Fits fitS
 rw [value_Valid_eq v h, bind_some']
 cases hv : val v with
 | false => rfl
 | true =>
  simp only [Bool.not_true, cond_false, Bool.true_eq_false, if_false]
  by_cases h0 : v.Kind = 0
  ·rw [show (v.Kind == 0) = true by simpa using h0, if_pos h0]
   cases c.Nulls <;> rfl
  rw [show (v.Kind == 0) = false by simpa using h0, if_neg h0, cond_false]
  by_cases hk : v.Kind = c.Kind
  rotate_left
  ·rw [show (v.Kind != c.Kind) = true by simpa using hk, if_pos hk]; rfl
  rw [show (v.Kind != c.Kind) = false by simpa using hk, if_neg (by simpa using hk), cond_false, long_eq, bind_some']
  by_cases hl : v.Kind = 4 ∨ v.Kind = 5
  ·rw [bif_decT hl, bind_some']
   by_cases hm : (v.S.length : Int) > c.Max
   ·rw [if_pos ⟨hl, hm⟩, bif_decT hm]
   ·rw [if_neg (fun h => hm h.2), bif_decF hm]
  ·rw [bif_decF hl, bind_some', if_neg (fun h => hl h.1)]; rfl
end Lv
/- Plain laws of layer 06: the order of values. -/
namespace Lv
open Go Go.Proofs
set_option linter.unusedVariables false
set_option linter.unusedSimpArgs false
set_option linter.unusedSectionVars false
set_option maxRecDepth 100000
variable [BaseTab]
def sgI (a b : Int) : Int := if a < b then -1 else if b < a then 1 else 0
theorem Compare_int_eq (a b : Int) : cmp_Compare_int a b = some (sgI a b) := by
 unfold cmp_Compare_int sgI
 rw [show cmp_isNaN_int a = some () from rfl, bind_some', show cmp_isNaN_int b = some () from rfl, bind_some', show (a != a) = false by simp, cond_false, show (b != b) = false by simp, cond_false]
 by_cases h : a < b
 ·rw [bif_decT h, if_pos h]
 ·rw [bif_decF h, if_neg h]
  by_cases k : b < a
  ·rw [bif_decT k, if_pos k]
  ·rw [bif_decF k, if_neg k]
theorem Compare_int64_eq (a b : Int) : cmp_Compare_int64 a b = some (sgI a b) := by
 unfold cmp_Compare_int64 sgI
 rw [show cmp_isNaN_int64 a = some () from rfl, bind_some', show cmp_isNaN_int64 b = some () from rfl, bind_some', show (a != a) = false by simp, cond_false, show (b != b) = false by simp, cond_false]
 by_cases h : a < b
 ·rw [bif_decT h, if_pos h]
 ·rw [bif_decF h, if_neg h]
  by_cases k : b < a
  ·rw [bif_decT k, if_pos k]
  ·rw [bif_decF k, if_neg k]
theorem Compare_u64_eq (a b : UInt64) : cmp_Compare_uint64 a b = some (sgI a.toNat b.toNat) := by
 unfold cmp_Compare_uint64 sgI
 rw [show cmp_isNaN_uint64 a = some () from rfl, bind_some', show cmp_isNaN_uint64 b = some () from rfl, bind_some', show (a != a) = false by simp, cond_false, show (b != b) = false by simp, cond_false]
 by_cases h : a < b
 ·rw [bif_decT h, if_pos (by have := UInt64.lt_iff_toNat_lt.1 h; omega)]
 ·rw [bif_decF h, if_neg (by have : ¬ a.toNat < b.toNat := fun q => h (UInt64.lt_iff_toNat_lt.2 q); omega)]
  by_cases k : b < a
  ·rw [bif_decT k, if_pos (by have := UInt64.lt_iff_toNat_lt.1 k; omega)]
  ·rw [bif_decF k, if_neg (by have : ¬ b.toNat < a.toNat := fun q => k (UInt64.lt_iff_toNat_lt.2 q); omega)]
theorem Or3_eq (a b c : Int) : cmp_Or_int [a, b, c] = some (if a ≠ 0 then a else if b ≠ 0 then b else c) := by
 unfold cmp_Or_int
 refine lpE (lq2 [a, b, c] (fun v => if v ≠ 0 then some (.inr v : Unit ⊕ Int) else none) (.inl ()) (fun i => (i : Int)) (fun i hi => ?_) ?_ rfl) ?_
 ·show (bif _ then _ else _) = _
  rw [bif_decT (by omega), getI_at hi, bind_some', w64_succ (by simp at hi; omega)]
  by_cases q : [a, b, c][i] = 0
  ·rw [show ([a, b, c][i] != 0) = false by simpa using q, cond_false, if_neg (by simpa using q)]
  ·rw [show ([a, b, c][i] != 0) = true by simpa using q, cond_true, if_pos q]
 ·show (bif _ then _ else _) = _
  rw [bif_decF (by omega)]
 ·simp only [List.findSome?]
  by_cases ha : a = 0
  ·by_cases hb : b = 0
   ·by_cases hc : c = 0
    ·simp [ha, hb, hc]
    ·simp [ha, hb, hc]
   ·simp [ha, hb]
  ·simp [ha]
def cmpD (a b : ApiValue) : Int := if sgI a.Kind b.Kind = 0 ∧ a.Kind = 1 then sgI (i64u a.N) (i64u b.N) else sgI a.Kind b.Kind
def cmpV (a b : ApiValue) : Int := if cmpD a b ≠ 0 then cmpD a b else if sgI a.N.toNat b.N.toNat ≠ 0 then sgI a.N.toNat b.N.toNat else Go.Lib.compareBytes a.S b.S
theorem value_Cmp_eq (a b : ApiValue) : value_Cmp_1 a b = some (cmpV a b) := by
 unfold value_Cmp_1 cmpV
 rw [Compare_int_eq, bind_some']
 refine bo (a := cmpD a b) ?_ ?_
 ·unfold cmpD
  refine bo (a := decide (sgI a.Kind b.Kind = 0 ∧ a.Kind = 1)) ?_ ?_
  ·by_cases q : sgI a.Kind b.Kind = 0
   ·rw [show (sgI a.Kind b.Kind == 0) = true by simpa using q, cond_true]; simp [q, Bool.beq_eq_decide_eq]
   ·rw [show (sgI a.Kind b.Kind == 0) = false by simpa using q, cond_false]; simp [q]
  ·by_cases q : sgI a.Kind b.Kind = 0 ∧ a.Kind = 1
   ·rw [decide_eq_true q, cond_true, if_pos q, Compare_int64_eq, bind_some']
   ·rw [decide_eq_false q, cond_false, if_neg q]
 ·rw [Compare_u64_eq, bind_some', show cmpF a.S b.S = some (Go.Lib.compareBytes a.S b.S) from rfl, bind_some', Or3_eq, bind_some']
theorem i64_val (n : UInt64) : i64u n = if n.toNat < 9223372036854775808 then (n.toNat : Int) else (n.toNat : Int) - 18446744073709551616 := by
 unfold i64u
 rw [IntKind.wrap_i64]
 have := n.toNat_lt
 split <;> omega
def nk (a : ApiValue) : Int := if a.Kind = 1 then i64u a.N else a.N.toNat
theorem nk_inj {a b : ApiValue} (h : a.Kind = b.Kind) (k : nk a = nk b) : a.N = b.N := by
 unfold nk at k
 rw [← h] at k
 have h1 := a.N.toNat_lt
 have h2 := b.N.toNat_lt
 rw [← UInt64.toNat_inj]
 by_cases q : a.Kind = 1
 ·rw [if_pos q, if_pos q, i64_val, i64_val] at k
  split at k <;> split at k <;> omega
 ·rw [if_neg q, if_neg q] at k
  omega
theorem cmpV_lex (a b : ApiValue) : cmpV a b = if a.Kind ≠ b.Kind then sgI a.Kind b.Kind else if nk a ≠ nk b then sgI (nk a) (nk b) else Go.Lib.compareBytes a.S b.S := by
 have z : ∀ {x y : Int}, sgI x y = 0 ↔ x = y := by intro x y; unfold sgI; split <;> (try split) <;> omega
 unfold cmpV
 by_cases h : a.Kind = b.Kind
 ·rw [if_neg (show ¬ a.Kind ≠ b.Kind by simpa using h)]
  have e0 : sgI a.Kind b.Kind = 0 := z.2 h
  by_cases q : a.Kind = 1
  ·have n1 : nk a = i64u a.N := by unfold nk; rw [if_pos q]
   have n2 : nk b = i64u b.N := by unfold nk; rw [if_pos (h ▸ q)]
   have e : cmpD a b = sgI (nk a) (nk b) := by unfold cmpD; rw [if_pos ⟨e0, q⟩, n1, n2]
   rw [e]
   by_cases w : nk a = nk b
   ·have eN := nk_inj h w
    rw [if_neg (show ¬ sgI (nk a) (nk b) ≠ 0 by simpa using z.2 w), if_neg (show ¬ sgI a.N.toNat b.N.toNat ≠ 0 by rw [eN]; simpa using z.2 rfl), if_neg (show ¬ nk a ≠ nk b by simpa using w)]
   ·rw [if_pos (show sgI (nk a) (nk b) ≠ 0 from fun k => w (z.1 k)), if_pos w]
  ·have n1 : nk a = a.N.toNat := by unfold nk; rw [if_neg q]
   have n2 : nk b = b.N.toNat := by unfold nk; rw [if_neg (h ▸ q)]
   have e : cmpD a b = 0 := by unfold cmpD; rw [if_neg (by simp [q]), e0]
   rw [e, if_neg (show ¬ (0 : Int) ≠ 0 by simp), ← n1, ← n2]
   by_cases w : nk a = nk b
   ·rw [if_neg (show ¬ sgI (nk a) (nk b) ≠ 0 by simpa using z.2 w), if_neg (show ¬ nk a ≠ nk b by simpa using w)]
   ·rw [if_pos (show sgI (nk a) (nk b) ≠ 0 from fun k => w (z.1 k)), if_pos w]
 ·rw [if_pos (show a.Kind ≠ b.Kind from h)]
  have e0 : sgI a.Kind b.Kind ≠ 0 := fun k => h (z.1 k)
  have e : cmpD a b = sgI a.Kind b.Kind := by unfold cmpD; rw [if_neg (by simp [e0])]
  rw [e, if_pos e0]
end Lv
/- Plain laws of layer 06: the order of values, what fits, all of it. -/
namespace Lv
open Go Go.Proofs
set_option linter.unusedVariables false
set_option linter.unusedSimpArgs false
set_option linter.unusedSectionVars false
set_option maxRecDepth 100000
variable [BaseTab]
theorem eqV06 (v w : ApiValue) : eqApiValue v w = decide (v = w) := by
 obtain ⟨a, b, c⟩ := v
 obtain ⟨d, e, f⟩ := w
 simp [eqApiValue, Bool.beq_eq_decide_eq]
omit [BaseTab] in
theorem parse5u : value_Parse ([53, 117] : List UInt8) = some (0, ⟨2, 5, []⟩) := by kernel_rfl
omit [BaseTab] in
theorem text5 : value_Text (ApiValue.mk (5 : Int) (0 : UInt64) ([97, 32, 98] : List UInt8)) = some [34, 97, 92, 50, 48, 98, 34] := by kernel_rfl
theorem awake06 : law06_awake = some true := by
 unfold law06_awake
 rw [parse5u, bind_some']
 refine bo (a := true) ?_ rfl
 show (bif eqApiValue ⟨2, 5, []⟩ ⟨2, 5, []⟩ then _ else _) = _
 rw [eqV06, decide_eq_true rfl, cond_true, text5, bind_some', BEq.rfl, cond_true, value_Cmp_eq, bind_some', show (cmpV ⟨1, 1, []⟩ ⟨0, 0, []⟩ == 1) = true by decide +kernel, cond_true, value_Name_eq _ (by decide), bind_some', show nameS [97, 95, 49] = true by decide +kernel, cond_true, value_Fits_eq _ _ (by decide), bind_some']
 exact congrArg some (by decide +kernel)
end Lv
/- Plain laws of layer 06: texts of numbers. -/
namespace Lv
open Go Go.Proofs
set_option linter.unusedVariables false
set_option linter.unusedSimpArgs false
set_option linter.unusedSectionVars false
set_option maxRecDepth 100000
variable [BaseTab]
theorem i64_rng (n : UInt64) : -9223372036854775808 ≤ i64u n ∧ i64u n ≤ 9223372036854775807 := by
 rw [i64_val]
 have := n.toNat_lt
 split <;> omega
theorem text_u (a : UInt64) (h : (Go.Lib.decDigits a.toNat).length ≤ 20) : value_Text ⟨2, a, []⟩ = some (Go.Lib.decDigits a.toNat ++ [117]) := by
 unfold value_Text
 rw [value_Valid_eq _ (by simp), bind_some', show val ⟨2, a, []⟩ = true from rfl, Bool.not_true, cond_false]
 dsimp only
 rw [show ((2 : Int) == 1) = false from rfl, cond_false, show ((2 : Int) == 2) = true from rfl, cond_true]
 unfold fmtU
 rw [if_pos rfl, bind_some', bif_decT (by simp; omega)]
theorem text_i (a : UInt64) : value_Text ⟨1, a, []⟩ = some (Go.Lib.itoa (i64u a)) := by
 unfold value_Text
 rw [value_Valid_eq _ (by simp), bind_some', show val ⟨1, a, []⟩ = true from rfl, Bool.not_true, cond_false]
 dsimp only
 rw [show ((1 : Int) == 1) = true from rfl, cond_true]
 unfold fmtI
 rw [if_pos ⟨rfl, i64_rng a⟩, bind_some']
theorem dig_back (d : Nat) (h : d < 10) : (UInt8.ofNat (48 + d) - 48).toUInt64 = UInt64.ofNat d := by
 have : d = 0 ∨ d = 1 ∨ d = 2 ∨ d = 3 ∨ d = 4 ∨ d = 5 ∨ d = 6 ∨ d = 7 ∨ d = 8 ∨ d = 9 := by omega
 rcases this with rfl | rfl | rfl | rfl | rfl | rfl | rfl | rfl | rfl | rfl <;> rfl
theorem rd_dec (n : Nat) : (Go.Lib.decDigits n).foldl (fun y b => (10 : UInt64) * y + (b - 48).toUInt64) 0 = UInt64.ofNat n := by
 induction n using Nat.strongRecOn with
 | ind n ih =>
  by_cases h : n < 10
  ·rw [Go.Lib.decDigits_one h, List.foldl_cons, List.foldl_nil, dig_back n h]
   simp
  ·rw [Go.Lib.decDigits, dif_neg h, List.foldl_append, ih (n / 10) (by omega), List.foldl_cons, List.foldl_nil, dig_back (n % 10) (by omega)]
   rw [← UInt64.toNat_inj, UInt64.toNat_add, UInt64.toNat_mul, UInt64.toNat_ofNat', UInt64.toNat_ofNat', UInt64.toNat_ofNat']
   have e : (10 : UInt64).toNat = 10 := rfl
   rw [e]
   omega
theorem dec_ne (n : Nat) : 1 ≤ (Go.Lib.decDigits n).length := by
 rw [Go.Lib.decDigits]
 split
 ·simp
 ·simp
theorem dec_short (a : UInt64) : (Go.Lib.decDigits a.toNat).length ≤ 20 := by
 rw [Go.Lib.decDigits_length]
 have h := a.toNat_lt
 by_cases h1 : 1 ≤ a.toNat
 ·have := Go.Lib.numDigits_eq a.toNat h1 h
  split at this <;> omega
 ·have e : a.toNat = 0 := by omega
  rw [← Go.Lib.decDigits_length, e, Go.Lib.decDigits_one (by omega)]
  simp
theorem cmp_one (a b : UInt64) : cmpV ⟨1, a, []⟩ ⟨1, b, []⟩ = sgI (i64u a) (i64u b) := by
 rw [cmpV_lex, if_neg (by simp)]
 have e1 : nk ⟨1, a, []⟩ = i64u a := rfl
 have e2 : nk ⟨1, b, []⟩ = i64u b := rfl
 rw [e1, e2]
 by_cases h : i64u a = i64u b
 ·rw [if_neg (by simpa using h)]
  unfold sgI
  rw [if_neg (by omega), if_neg (by omega)]
  rfl
 ·rw [if_pos h]
theorem cmp_two (a b : UInt64) : cmpV ⟨2, a, []⟩ ⟨2, b, []⟩ = sgI a.toNat b.toNat := by
 rw [cmpV_lex, if_neg (by simp)]
 have e1 : nk ⟨2, a, []⟩ = (a.toNat : Int) := rfl
 have e2 : nk ⟨2, b, []⟩ = (b.toNat : Int) := rfl
 rw [e1, e2]
 by_cases h : (a.toNat : Int) = b.toNat
 ·rw [if_neg (by simpa using h)]
  unfold sgI
  rw [if_neg (by omega), if_neg (by omega)]
  rfl
 ·rw [if_pos h]
theorem sg_lt (x y : Int) : decide (sgI x y < 0) = decide (x < y) := by
 unfold sgI
 apply decide_eq_decide.2
 split
 ·omega
 ·split <;> omega
theorem sg_eq (x y : Int) : (sgI x y == 0) = decide (x = y) := by
 rw [Bool.beq_eq_decide_eq]
 unfold sgI
 apply decide_eq_decide.2
 split
 ·omega
 ·split <;> omega
theorem i64_inj (a b : UInt64) : i64u a = i64u b ↔ a = b := by
 constructor
 ·intro h
  exact nk_inj (a := ⟨1, a, []⟩) (b := ⟨1, b, []⟩) rfl h
 ·intro h; rw [h]
theorem fold_takeT {α β : Type} (f : β → α → β) (a : β) (l : List α) (i : Nat) (hi : i < l.length) : (l.take (i + 1)).foldl f a = f ((l.take i).foldl f a) l[i] := by
 rw [List.take_succ_eq_append_getElem hi, List.foldl_append]
 rfl
theorem ValueNumbers_true (a b : UInt64) : law06_ValueNumbers a b = some true := by
 unfold law06_ValueNumbers
 have dn := dec_ne a.toNat
 have ds := dec_short a
 rw [awake06, bind_some', Bool.not_true, cond_false, value_Cmp_eq, bind_some', value_Cmp_eq, bind_some', cmp_one, cmp_two]
 refine bo (a := false) ?_ ?_
 ·rw [sg_lt, sg_lt, sg_eq, sg_eq, show (decide (i64u a < i64u b) != decide (i64u a < i64u b)) = false by simp, cond_false]
  have e1 : decide ((a.toNat : Int) < b.toNat) = decide (a < b) := decide_eq_decide.2 (by rw [UInt64.lt_iff_toNat_lt]; omega)
  have e2 : decide (i64u a = i64u b) = (a == b) := by rw [Bool.beq_eq_decide_eq]; exact decide_eq_decide.2 (i64_inj a b)
  have e3 : decide ((a.toNat : Int) = b.toNat) = (a == b) := by rw [Bool.beq_eq_decide_eq]; exact decide_eq_decide.2 (by rw [← UInt64.toNat_inj]; omega)
  rw [e1, e2, e3, show (decide (a < b) != decide (a < b)) = false by simp, cond_false, show ((a == b) != (a == b)) = false by simp, cond_false]
 rw [cond_false, text_u a ds, bind_some']
 have ll : (Go.Lib.decDigits a.toNat ++ [117]).length = (Go.Lib.decDigits a.toNat).length + 1 := by simp
 have wl : w64 (((Go.Lib.decDigits a.toNat ++ [117]).length : Int) - 1) = ((Go.Lib.decDigits a.toNat).length : Int) := by rw [ll, w64_id (by omega) (by omega)]; omega
 rw [wl]
 refine bo (a := false) ?_ ?_
 ·rw [bif_decF (by omega), getI_at (by omega), bind_some']
  simp
 rw [cond_false]
 generalize hd : Go.Lib.decDigits a.toNat = d at *
 have hrd : d.foldl (fun y b => (10 : UInt64) * y + (b - 48).toUInt64) 0 = a := by
  rw [← hd, rd_dec, UInt64.ofNat_toNat]
 refine bo (a := a) ?_ ?_
 ·refine bo (a := a) (lq1 (fun i => ((d.take i).foldl (fun y b => (10 : UInt64) * y + (b - 48).toUInt64) 0, (i : Int))) d.length (fun i hi => ?_) ?_ rfl) rfl
  ·dsimp only
   rw [ltI, decide_eq_true hi, cond_true, getI_at (by rw [ll]; omega), bind_some', List.getElem_append_left hi, w64_succ (by omega), fold_takeT _ _ _ _ hi]
  ·dsimp only
   rw [ltI, decide_eq_false (by omega), cond_false, List.take_length, hrd]
 rw [text_i, bind_some']
 have hv := i64_val a
 have hlt := a.toNat_lt
 have htk : List.take ((d.length : Int)).toNat (d ++ [117]) = d := by simp
 refine bo (a := false) ?_ ?_
 ·rw [show (a != a) = false by simp, cond_false]
  by_cases hp : a.toNat < 9223372036854775808
  ·rw [if_pos hp] at hv
   rw [decide_eq_true (by omega), cond_true, bif_decT (by rw [ll]; omega), htk, hv, Go.Lib.itoa_nonneg, hd]
   simp
  ·rw [if_neg hp] at hv
   rw [decide_eq_false (by omega), cond_false]
 rw [cond_false]
 refine bo (a := true) ?_ rfl
 by_cases hp : a.toNat < 9223372036854775808
 ·rw [if_pos hp] at hv
  rw [decide_eq_true (by omega), cond_true]
 ·rw [if_neg hp] at hv
  rw [decide_eq_false (by omega), cond_false]
  have hn : (0 - a).toNat = 18446744073709551616 - a.toNat := by
   rw [UInt64.toNat_sub]
   have : (0 : UInt64).toNat = 0 := rfl
   omega
  have ds2 := dec_short (0 - a)
  rw [text_u _ ds2, bind_some', hv]
  have hi : (a.toNat : Int) - 18446744073709551616 = -((0 - a).toNat : Int) := by omega
  rw [hi, Go.Lib.itoa_neg _ (by omega)]
  generalize Go.Lib.decDigits (0 - a).toNat = q at *
  have hq : w64 (((45 :: q).length : Int) - 1) = (q.length : Int) := by
   have e : (((45 :: q).length : Nat) : Int) - 1 = (q.length : Int) := by simp
   rw [e, w64_id (by omega) (by omega)]
  have htq : List.take ((q.length : Int)).toNat (q ++ [117]) = q := by simp
  have hb : 0 ≤ (q.length : Int) ∧ (q.length : Int) ≤ ((q ++ [117]).length : Int) := by
   rw [List.length_append]; simp only [List.length_cons, List.length_nil]; omega
  have hc : ([45] : List UInt8).length + q.length ≤ 9223372036854775807 := by simp only [List.length_cons, List.length_nil]; omega
  rw [hq, bif_decT hb, htq, bif_decT hc]
  simp
end Lv
