/- Part of the proof of a law. -/
import Derived.Test.YtmkgfooomdagmaaDoorXAll
import Derived.Test.YtmkgfooomdagmaaDoorGwPlain
import Derived.Lib.ValidLaws
import Derived.Test.YtmkgfooomdagmaaDoorGwQ
import Derived.Test.YtmkgfooomdagmaaDoorXOk
import Derived.Test.YtmkgfooomdagmaaDoorKK18
set_option linter.unusedVariables false
set_option linter.unusedSimpArgs false
set_option linter.unusedSectionVars false
set_option maxRecDepth 100000
namespace Lv
open Go Go.Proofs
variable [BaseTab]
def val (v : ApiValue) : Bool :=
 (v.Kind == 0 && (v.N == 0 && v.S == [])) || ((v.Kind == 1 || v.Kind == 2) && v.S == []) || (v.Kind == 3 && (decide (v.N < 2) && v.S == [])) ||
 (v.Kind == 4 && (v.N == 0 && decide (v.S.length ≤ 64))) || (v.Kind == 5 && (v.N == 0 && (decide (v.S.length ≤ 64) && Go.Lib.validD v.S)))
theorem value_Valid_eq (v : ApiValue) (h : v.S.length < 4611686018427387904) : value_Valid v = some (val v) := by
 have e1 : validF v.S = some (Go.Lib.validD v.S) := by unfold validF; rw [if_pos (by omega)]
 have e2 : ((v.S.length : Int) ≤ 64) = (v.S.length ≤ 64) := propext (by omega)
 have e3 : (v.N ≤ 1) = (v.N < 2) := propext (by rw [UInt64.le_iff_toNat_le, UInt64.lt_iff_toNat_lt]; show _ ≤ 1 ↔ _ < 2; omega)
 obtain ⟨K, N, S⟩ := v
 unfold value_Valid val
 simp only [e1, e2, e3, eqApiValue, Bool.and_true] at *
 by_cases k0 : K = 0
 ·subst k0; simp
 by_cases k1 : K = 1
 ·subst k1; simp
 by_cases k2 : K = 2
 ·subst k2; simp
 by_cases k3 : K = 3
 ·subst k3; by_cases hN : N < 2 <;> simp [hN]
 by_cases k4 : K = 4
 ·subst k4; cases hN : (N == 0) <;> simp [hN]
 by_cases k5 : K = 5
 ·subst k5; cases hN : (N == 0) <;> by_cases hS : S.length ≤ 64 <;> simp [hN, hS]
 simp [beq_eq_false_iff_ne.2 k0, beq_eq_false_iff_ne.2 k1, beq_eq_false_iff_ne.2 k2, beq_eq_false_iff_ne.2 k3, beq_eq_false_iff_ne.2 k4, beq_eq_false_iff_ne.2 k5]
theorem decI {p q : Prop} [Decidable p] [Decidable q] (h : p ↔ q) : decide p = decide q := decide_eq_decide.2 h
def bytesN (n : UInt64) : Nat → List UInt8
 | 0 => []
 | k + 1 => UInt8.ofNat (n.toNat / 2 ^ (8 * k)) :: bytesN n k
theorem bytesN_len (n : UInt64) : ∀ k, (bytesN n k).length = k
 | 0 => rfl
 | k + 1 => by simp [bytesN, bytesN_len n k]
theorem out_put1 (a b : List UInt8) (h : b.length + a.length ≤ 70368744177664) : pack_Out_put_1 a b = some () := by
 unfold pack_Out_put_1; rw [bif_decT (by rw [room_val]; omega)]
theorem u16_hi (n : UInt64) (m : Nat) (x : UInt16) (h : x.toNat = n.toNat / 2 ^ m % 65536) : (shr16 x 8).toUInt8 = UInt8.ofNat (n.toNat / 2 ^ (m + 8)) := by
 unfold shr16
 rw [← UInt8.toNat_inj]
 have hx := x.toNat_lt
 have e : n.toNat / 2 ^ (m + 8) = n.toNat / 2 ^ m / 256 := by rw [Nat.pow_add, Nat.div_div_eq_div_mul]
 simp [UInt16.toNat_ofNat, e]
 omega
theorem u16_lo (n : UInt64) (m : Nat) (x : UInt16) (h : x.toNat = n.toNat / 2 ^ m % 65536) : x.toUInt8 = UInt8.ofNat (n.toNat / 2 ^ m) := by
 rw [← UInt8.toNat_inj]
 simp [h]
 try omega
theorem sh32 (n : UInt64) : (shr64 n 32).toUInt32.toNat = n.toNat / 2 ^ 32 := by
 unfold shr64
 have := n.toNat_lt
 simp [UInt64.toNat_ofNat]
 omega
theorem bytes8_eq (n : UInt64) (acc : List UInt8) : (((acc ++ [((shr16 ((shr32 ((shr64 n 32).toUInt32) 16).toUInt16) 8).toUInt8), (((shr32 ((shr64 n 32).toUInt32) 16).toUInt16).toUInt8)]) ++ [((shr16 (((shr64 n 32).toUInt32).toUInt16) 8).toUInt8), ((((shr64 n 32).toUInt32).toUInt16).toUInt8)]) ++ [((shr16 ((shr32 (n.toUInt32) 16).toUInt16) 8).toUInt8), (((shr32 (n.toUInt32) 16).toUInt16).toUInt8)]) ++ [((shr16 ((n.toUInt32).toUInt16) 8).toUInt8), (((n.toUInt32).toUInt16).toUInt8)] = acc ++ bytesN n 8 := by
 have hn := n.toNat_lt
 have h1 : ((shr32 ((shr64 n 32).toUInt32) 16).toUInt16).toNat = n.toNat / 2 ^ 48 % 65536 := by
  unfold shr32
  have := sh32 n
  simp [UInt32.toNat_ofNat] at *
  omega
 have h2 : (((shr64 n 32).toUInt32).toUInt16).toNat = n.toNat / 2 ^ 32 % 65536 := by
  have := sh32 n
  simp at *
  omega
 have h3 : ((shr32 (n.toUInt32) 16).toUInt16).toNat = n.toNat / 2 ^ 16 % 65536 := by
  unfold shr32
  simp [UInt32.toNat_ofNat]
  omega
 have h4 : ((n.toUInt32).toUInt16).toNat = n.toNat / 2 ^ 0 % 65536 := by
  simp
 rw [u16_hi n 48 _ h1, u16_lo n 48 _ h1, u16_hi n 32 _ h2, u16_lo n 32 _ h2, u16_hi n 16 _ h3, u16_lo n 16 _ h3, u16_hi n 0 _ h4, u16_lo n 0 _ h4]
 simp [bytesN]
theorem Out_U16_eq (x : UInt16) (b : List UInt8) (h : b.length + 2 ≤ 70368744177664) : pack_Out_U16 x b = some () := by
 unfold pack_Out_U16; rw [out_put1 _ _ (by simpa using h)]; rfl
theorem Out_U32_eq (x : UInt32) (b : List UInt8) (h : b.length + 4 ≤ 70368744177664) : pack_Out_U32 x b = some () := by
 unfold pack_Out_U32; rw [Out_U16_eq _ _ (by omega), bind_some', Out_U16_eq _ _ (by simp; omega)]; rfl
theorem Out_U64_eq (x : UInt64) (b : List UInt8) (h : b.length + 8 ≤ 70368744177664) : pack_Out_U64 x b = some () := by
 unfold pack_Out_U64; rw [Out_U32_eq _ _ (by omega), bind_some', Out_U32_eq _ _ (by simp; omega)]; rfl
def bad (v : ApiValue) : Bool := !val v
theorem val_short {v : ApiValue} (h : val v = true) : v.S.length ≤ 64 := by
 unfold val at h
 simp only [Bool.or_eq_true, Bool.and_eq_true, beq_iff_eq, decide_eq_true_eq] at h
 rcases h with (((⟨_, _, h⟩ | ⟨_, h⟩) | ⟨_, _, h⟩) | ⟨_, _, h⟩) | ⟨_, _, h, _⟩
 ·rw [h]; simp
 ·rw [h]; simp
 ·rw [h]; simp
 ·exact h
 ·exact h
end Lv
namespace Lv
open Go Go.Proofs
variable [BaseTab]
end Lv
namespace Lv
open Go Go.Proofs
variable [BaseTab]
def letter (c : UInt8) : Bool := decide (97 ≤ c) && decide (c ≤ 122)
def nchar (c : UInt8) : Bool := letter c || c == 95 || (decide (48 ≤ c) && decide (c ≤ 57))
def nameS : List UInt8 → Bool
 | [] => false
 | c :: r => decide (r.length < 16) && (letter c && r.all nchar)
theorem nall (l : List UInt8) : (l.any fun c => !nchar c) = !l.all nchar := by induction l <;> simp_all [List.any_cons, List.all_cons]
theorem value_Name_eq (s : List UInt8) (hs : s.length < 4611686018427387904) : value_Name s = some (nameS s) := by
 unfold value_Name
 cases s with
 | nil => rfl
 | cons c r =>
  have hlen : (c :: r).length = r.length + 1 := rfl
  refine bo (a := decide (r.length ≥ 16)) ?_ ?_
  ·rw [show ((c :: r) == ([] : List UInt8)) = false from rfl, cond_false, hlen]; congr 1; exact decI (by omega)
  by_cases h16 : r.length ≥ 16
  ·rw [bif_decT h16]; simp only [nameS]; rw [decide_eq_false (by omega)]; rfl
  rw [bif_decF h16]
  have e1 : nameS (c :: r) = (letter c && r.all nchar) := by simp only [nameS]; rw [decide_eq_true (by omega)]; rfl
  rw [e1]
  refine lpE (w := if (letter c && r.all nchar) = true then .inl () else .inr false) (nmB fun B hB => ?_) ?_
  rotate_left
  ·cases (letter c && r.all nchar) <;> rfl
  have step : ∀ (i : Nat) (x : UInt8), i < (c :: r).length → (c :: r)[i]? = some x → B (i : Int) = some (if (if i = 0 then !letter x else !nchar x) = true then .inr (.inr false) else .inl ((i + 1 : Nat) : Int)) := by
   intro i x hi hx
   rw [hB]
   show (bif _ then _ else _) = _
   rw [bif_decT (by omega), getI_nat, hx, bind_some', show ((i : Int) == 0) = decide (i = 0) by rw [Bool.eq_iff_iff]; simp, w64_succ (by omega)]
   generalize ((i + 1 : Nat) : Int) = k
   by_cases h0 : i = 0
   ·simp only [h0, decide_true, if_true]
    clear hx
    refine bo (a := letter x) ?_ ?_
    ·revert x; exact u8F (by decide +kernel)
    ·cases letter x <;> rfl
   ·simp only [h0, decide_false, if_false]
    clear hx
    refine bo (a := letter x) ?_ (bo (a := !nchar x) ?_ ?_)
    ·revert x; exact u8F (by decide +kernel)
    ·revert x; exact u8F (by decide +kernel)
    ·cases nchar x <;> rfl
  have s0 := step 0 c (by omega) rfl
  rw [show (0 : Int) = ((0 : Nat) : Int) from rfl]
  cases hc : letter c with
  | false => rw [hc] at s0; exact loop_end s0
  | true =>
   rw [hc] at s0
   rw [loop_step (y' := ((0 + 1 : Nat) : Int)) s0]
   refine (lq3 r (fun c => !nchar c) (.inr false) (.inl ()) (fun i => ((i + 1 : Nat) : Int)) (fun i hi => ?_) ?_ rfl).trans ?_
   ·rw [step (i + 1) r[i] (by omega) (by simp [hi])]
    simp
   ·rw [hB]
    show (bif _ then _ else _) = _
    rw [bif_decF (by omega)]
   ·rw [nall]; cases r.all nchar <;> rfl
def fitS (c : ApiColumn) (v : ApiValue) : Int :=
 if val v = false then 8 else if v.Kind = 0 then (if c.Nulls = true then 0 else 8) else if v.Kind ≠ c.Kind then 8 else if (v.Kind = 4 ∨ v.Kind = 5) ∧ (v.S.length : Int) > c.Max then 7 else 0
theorem long_eq (k : Int) : value_long k = some (decide (k = 4 ∨ k = 5)) := by
 unfold value_long
 by_cases h : k = 4
 ·subst h; rfl
 ·rw [show (k == 4) = false by simpa using h]
  simp only [cond_false, bind_some', h, false_or]
  congr 1
theorem value_Fits_eq (c : ApiColumn) (v : ApiValue) (h : v.S.length < 4611686018427387904) : value_Fits c v = some (fitS c v) := by
 unfold value_Fits fitS
 rw [value_Valid_eq v h, bind_some']
 cases hv : val v with
 | false => rfl
 | true =>
  simp only [Bool.not_true, cond_false, Bool.true_eq_false, if_false]
  by_cases h0 : v.Kind = 0
  ·rw [show (v.Kind == 0) = true by simpa using h0, if_pos h0]
   cases c.Nulls <;> rfl
  rw [show (v.Kind == 0) = false by simpa using h0, if_neg h0, cond_false]
  by_cases hk : v.Kind = c.Kind
  rotate_left
  ·rw [show (v.Kind != c.Kind) = true by simpa using hk, if_pos hk]; rfl
  rw [show (v.Kind != c.Kind) = false by simpa using hk, if_neg (by simpa using hk), cond_false, long_eq, bind_some']
  by_cases hl : v.Kind = 4 ∨ v.Kind = 5
  ·rw [bif_decT hl, bind_some']
   by_cases hm : (v.S.length : Int) > c.Max
   ·rw [if_pos ⟨hl, hm⟩, bif_decT hm]
   ·rw [if_neg (fun h => hm h.2), bif_decF hm]
  ·rw [bif_decF hl, bind_some', if_neg (fun h => hl h.1)]; rfl
def colS (c : ApiColumn) : Int :=
 if nameS c.Name = false then 1 else if c.Kind < 1 ∨ c.Kind > 5 then 8 else if (if c.Kind = 4 ∨ c.Kind = 5 then c.Max < 1 ∨ c.Max > 64 else c.Max ≠ 0) then 7 else fitS c c.Default
theorem value_Column_eq (c : ApiColumn) (h : c.Name.length < 4611686018427387904) (h2 : c.Default.S.length < 4611686018427387904) : value_Column c = some (colS c) := by
 unfold value_Column colS
 rw [value_Name_eq _ h, bind_some']
 cases nameS c.Name with
 | false => rfl
 | true =>
  simp only [Bool.not_true, cond_false, Bool.true_eq_false, if_false]
  refine bo (a := decide (c.Kind < 1 ∨ c.Kind > 5)) ?_ ?_
  ·by_cases k1 : c.Kind < 1
   ·rw [bif_decT k1, decide_eq_true (Or.inl k1)]
   ·rw [bif_decF k1]; congr 1; exact decI (by omega)
  by_cases hk : c.Kind < 1 ∨ c.Kind > 5
  ·rw [bif_decT hk, if_pos hk]
  rw [bif_decF hk, if_neg hk]
  simp only [long_eq, bind_some']
  refine bo (a := decide (if c.Kind = 4 ∨ c.Kind = 5 then c.Max < 1 ∨ c.Max > 64 else c.Max ≠ 0)) ?_ ?_
  ·by_cases hl : c.Kind = 4 ∨ c.Kind = 5
   ·simp only [hl, decide_true, cond_true, if_true, Bool.not_true, cond_false]
    by_cases m1 : c.Max < 1
    ·rw [bif_decT m1]; simp [m1]
    ·rw [bif_decF m1]
     by_cases m2 : c.Max > 64
     ·rw [bif_decT m2]; simp [m2]
     ·rw [bif_decF m2]; simp [m1, m2]
   ·simp only [hl, decide_false, cond_false, if_false, Bool.not_false, cond_true]
    congr 1
    by_cases m : c.Max = 0
    ·simp [m]
    ·simp [m]
  by_cases q : (if c.Kind = 4 ∨ c.Kind = 5 then c.Max < 1 ∨ c.Max > 64 else c.Max ≠ 0)
  ·rw [bif_decT q, if_pos q]
  ·rw [bif_decF q, if_neg q, value_Fits_eq _ _ h2, bind_some']
def OkC (c : ApiColumn) : Prop := c.Name.length < 4611686018427387904 ∧ c.Default.S.length < 4611686018427387904
def OkCs (l : List ApiColumn) : Prop := l.length < 4611686018427387904 ∧ ∀ c ∈ l, OkC c
def colsS (l : List ApiColumn) : Bool := decide (1 ≤ l.length ∧ l.length ≤ 24) && l.all fun c => colS c == 0
def fitE (p : ApiColumn × ApiValue) : Option Int := if fitS p.1 p.2 = 0 then none else some (fitS p.1 p.2)
def fitsS (cols : List ApiColumn) (l : List ApiValue) : Int := if colsS cols = false ∨ l.length ≠ cols.length then 1 else ((cols.zip l).findSome? fitE).getD 0
theorem u16_len (n : Nat) (h : n < 65536) : [((shr16 (u16i (n : Int)) 8).toUInt8), ((u16i (n : Int)).toUInt8)] = bytesN (u64i (n : Int)) 2 := by
 have e : (u16i (n : Int)).toNat = (u64i (n : Int)).toNat / 2 ^ 0 % 65536 := by
  unfold u16i u64i
  simp
  omega
 rw [u16_hi (u64i (n : Int)) 0 _ e, u16_lo (u64i (n : Int)) 0 _ e]
 rfl
theorem Out_Text_eq (s b : List UInt8) (h : s.length ≤ 65535) (hb : b.length ≤ 1048576) : pack_Out_Text s b = some (true, b ++ (bytesN (u64i s.length) 2 ++ s)) := by
 unfold pack_Out_Text
 rw [bind_some', bif_decF (by omega), Out_U16_eq _ _ (by omega), bind_some', bif_decT (by rw [room_val]; simp; omega), u16_len _ (by omega), List.append_assoc]
theorem eqV (v w : ApiValue) : eqApiValue v w = decide (v = w) := by
 cases v; cases w
 simp only [eqApiValue, ApiValue.mk.injEq]
 rw [Bool.eq_iff_iff]
 simp
theorem firstF_none {α W : Type} {f : Nat → α → Option W} : ∀ {l : List α} {i : Nat}, firstF f i l = none ↔ ∀ j (h : j < l.length), f (i + j) (l[j]'h) = none
 | [], i => by simp [firstF]
 | x :: r, i => by
  rw [firstF]
  cases hf : f i x with
  | some w =>
   simp only [reduceCtorEq, false_iff]
   intro h
   have := h 0 (by simp)
   simp [hf] at this
  | none =>
   simp only
   rw [firstF_none (l := r) (i := i + 1)]
   constructor
   ·intro h j hj
    cases j with
    | zero => simpa using hf
    | succ j => have := h j (by simpa using hj); simpa [Nat.add_assoc, Nat.add_comm 1 j] using this
   ·intro h j hj
    have := h (j + 1) (by simpa using hj)
    simpa [Nat.add_assoc, Nat.add_comm 1 j] using this
def OkX (x : ApiIndex) : Prop := x.Name.length < 4611686018427387904 ∧ x.Parts.length < 4611686018427387904 ∧ x.Extra.length < 4611686018427387904
structure OkT (t : ApiTable) : Prop where
 name : t.Name.length < 4611686018427387904
 cols : OkCs t.Cols
 prim : t.Primary.length < 4611686018427387904
 idxs : t.Indexes.length < 4611686018427387904
 idx : ∀ x ∈ t.Indexes, OkX x
def hasS (l : List Int) (x : Int) : Bool := l.any fun y => y == x
def plE (n : Int) (l : List Int) (i : Nat) (c : Int) : Option Unit := if c < 0 ∨ c ≥ n ∨ hasS (l.take i) c = true then some () else none
def placesS (n : Int) (l : List Int) : Bool := (firstF (plE n l) 0 l).isNone
theorem placesS_in {n : Int} {l : List Int} (h : placesS n l = true) : ∀ c ∈ l, 0 ≤ c ∧ c < n := by
 unfold placesS at h
 rw [Option.isNone_iff_eq_none, firstF_none] at h
 intro c hc
 obtain ⟨i, hi, rfl⟩ := List.mem_iff_getElem.1 hc
 have := h i hi
 unfold plE at this
 split at this
 ·cases this
 ·rename_i q; rw [not_or, not_or] at q; omega
theorem placesS_nodup {n : Int} {l : List Int} (h : placesS n l = true) : l.Nodup := by
 unfold placesS at h
 rw [Option.isNone_iff_eq_none, firstF_none] at h
 show List.Pairwise (· ≠ ·) l
 rw [List.pairwise_iff_getElem]
 intro i j hi hj hij e
 have := h j hj
 unfold plE at this
 split at this
 ·cases this
 ·rename_i q
  rw [not_or, not_or] at q
  refine q.2.2 ?_
  unfold hasS
  rw [List.any_eq_true]
  refine ⟨l[i], ?_, by simp [e]⟩
  rw [Nat.zero_add]
  exact List.mem_iff_getElem.2 ⟨i, by simp; omega, by simp⟩
theorem map_ts {α β : Type} (f : α → β) (l : List α) {i : Nat} (hi : i < l.length) : (l.take (i + 1)).map f = (l.take i).map f ++ [f l[i]] := by
 rw [List.take_succ_eq_append_getElem hi, List.map_append]; rfl
def upS (l : List Int) : List ApiPart := l.map fun c => ⟨c, false⟩
theorem schema_up_eq (l : List Int) (h : l.length ≤ 1048576) : schema_up l = some (upS l) := by
 unfold schema_up
 refine lpA (w := upS l) (lq1 (fun i => (upS (l.take i), (i : Int))) l.length (fun i hi => ?_) ?_ rfl) rfl
 ·show (bif _ then _ else _) = _
  rw [bif_decT (by omega), getI_at hi, bind_some', bif_decT (by rw [room_val]; simp [upS]; omega), w64_succ (by omega), show upS (l.take (i + 1)) = _ from map_ts _ l hi]
  rfl
 ·show (bif _ then _ else _) = _
  rw [bif_decF (by omega), List.take_length]
def colsOf (l : List ApiPart) : List Int := l.map (·.Col)
def wideS (c : ApiColumn) (each : Int) : Int := if c.Kind = 1 ∨ c.Kind = 2 then 9 else if c.Kind = 3 then 2 else 3 + each * c.Max
theorem colS_ok {c : ApiColumn} (h : colS c = 0) : nameS c.Name = true ∧ 1 ≤ c.Kind ∧ c.Kind ≤ 5 ∧ (if c.Kind = 4 ∨ c.Kind = 5 then 1 ≤ c.Max ∧ c.Max ≤ 64 else c.Max = 0) ∧ fitS c c.Default = 0 := by
 unfold colS at h
 by_cases h1 : nameS c.Name = false
 ·rw [if_pos h1] at h; cases h
 rw [if_neg h1] at h
 by_cases h2 : c.Kind < 1 ∨ c.Kind > 5
 ·rw [if_pos h2] at h; cases h
 rw [if_neg h2] at h
 by_cases h3 : (if c.Kind = 4 ∨ c.Kind = 5 then c.Max < 1 ∨ c.Max > 64 else c.Max ≠ 0)
 ·rw [if_pos h3] at h; cases h
 rw [if_neg h3] at h
 refine ⟨by simpa using h1, by omega, by omega, ?_, h⟩
 by_cases k : c.Kind = 4 ∨ c.Kind = 5
 ·rw [if_pos k] at h3 ⊢; omega
 ·rw [if_neg k] at h3 ⊢; omega
theorem colS_max {c : ApiColumn} (h : colS c = 0) : 0 ≤ c.Max ∧ c.Max ≤ 64 := by
 have := (colS_ok h).2.2.2.1
 split at this <;> omega
theorem wideS_le {c : ApiColumn} {each : Int} (hc : 0 ≤ c.Max ∧ c.Max ≤ 64) (he : each = 1 ∨ each = 2) : 0 ≤ wideS c each ∧ wideS c each ≤ 131 := by
 unfold wideS
 have hm : 0 ≤ each * c.Max ∧ each * c.Max ≤ 128 := by rcases he with rfl | rfl <;> omega
 repeat' split
 all_goals omega
theorem sum_bound {α : Type} (f : α → Int) : ∀ {l : List α}, (∀ x ∈ l, 0 ≤ f x ∧ f x ≤ 131) → 0 ≤ (l.map f).sum ∧ (l.map f).sum ≤ 131 * l.length
 | [], _ => by simp
 | x :: l, h => by
  have h1 := h x (by simp)
  have h2 := sum_bound f (l := l) (fun y hy => h y (by simp [hy]))
  simp only [List.map_cons, List.sum_cons, List.length_cons]
  omega
theorem sum_take (l : List Int) (i : Nat) (hi : i < l.length) : (l.take (i + 1)).sum = (l.take i).sum + l[i] := by
 rw [List.take_succ_eq_append_getElem hi, List.sum_append]
 simp only [List.sum_cons, List.sum_nil, Int.add_zero]
def rowMaxS (l : List ApiColumn) : Int := 1 + (l.map fun c => wideS c 1).sum
def colAt (cols : List ApiColumn) (i : Int) : ApiColumn := (cols[i.toNat]?).getD default
theorem colAt_eq {cols : List ApiColumn} {i : Int} (h : 0 ≤ i ∧ i < cols.length) : getI cols i = some (colAt cols i) := by
 unfold getI colAt
 rw [if_pos h.1]
 have hl : i.toNat < cols.length := by omega
 rw [List.getElem?_eq_getElem hl]; rfl
theorem colAt_mem {cols : List ApiColumn} {i : Int} (h : 0 ≤ i ∧ i < cols.length) : colAt cols i ∈ cols := by
 unfold colAt
 have hl : i.toNat < cols.length := by omega
 rw [List.getElem?_eq_getElem hl]; exact List.getElem_mem hl
def keyMaxS (cols : List ApiColumn) (l : List ApiPart) : Int := (l.map fun p => wideS (colAt cols p.Col) 2).sum
def indexS (t : ApiTable) (x : ApiIndex) : Int :=
 if x.Parts.length < 1 ∨ x.Parts.length > 4 ∨ placesS t.Cols.length (colsOf x.Parts) = false ∨ placesS t.Cols.length x.Extra = false then 1
 else if (x.Extra.any fun c => hasS (colsOf x.Parts) c || hasS t.Primary c) = true then 1
 else if keyMaxS t.Cols x.Parts > 128 then 7 else 0
theorem parts_in {n : Int} {l : List ApiPart} (h : placesS n (colsOf l) = true) : ∀ p ∈ l, 0 ≤ p.Col ∧ p.Col < n := fun p hp => placesS_in h p.Col (List.mem_map.2 ⟨p, hp, rfl⟩)
def colE (l : List ApiColumn) (i : Nat) (c : ApiColumn) : Option Int := if colS c ≠ 0 then some (colS c) else if ((l.take i).any fun d => d.Name == c.Name) = true then some 6 else none
def idxE (t : ApiTable) (i : Nat) (x : ApiIndex) : Option Int :=
 if nameS x.Name = false then some 1 else if ((t.Indexes.take i).any fun y => y.Name == x.Name) = true then some 6 else if indexS t x ≠ 0 then some (indexS t x) else none
def chkS (t : ApiTable) : Int :=
 if nameS t.Name = false then 1 else if t.Cols.length < 1 ∨ t.Cols.length > 24 then 7 else match firstF (colE t.Cols) 0 t.Cols with
 | some e => e
 | none => if t.Primary.length < 1 ∨ t.Primary.length > 4 ∨ placesS t.Cols.length t.Primary = false then 1
  else if (t.Primary.any fun c => (colAt t.Cols c).Nulls) = true then 1
  else if rowMaxS t.Cols > 512 ∨ keyMaxS t.Cols (upS t.Primary) > 128 ∨ t.Indexes.length > 6 then 7
  else match firstF (idxE t) 0 t.Indexes with
   | some e => e
   | none => 0
theorem up_in {n : Int} {l : List Int} (h : placesS n l = true) : ∀ p ∈ upS l, 0 ≤ p.Col ∧ p.Col < n := by
 intro p hp
 obtain ⟨c, hc, rfl⟩ := List.mem_map.1 hp
 exact placesS_in h c hc
theorem firstF_map {α W V : Type} (f : Nat → α → Option W) (g : W → V) : ∀ (l : List α) (i : Nat), firstF (fun i x => (f i x).map g) i l = (firstF f i l).map g
 | [], i => rfl
 | x :: r, i => by rw [firstF, firstF]; cases f i x <;> simp [firstF_map f g r]
theorem cols_of_none {l : List ApiColumn} (h : firstF (colE l) 0 l = none) : ∀ c ∈ l, colS c = 0 := by
 rw [firstF_none] at h
 intro c hc
 obtain ⟨i, hi, rfl⟩ := List.mem_iff_getElem.1 hc
 have := h i hi
 unfold colE at this
 by_cases q : colS l[i] = 0
 ·exact q
 ·rw [if_pos q] at this; cases this
structure Right (t : ApiTable) : Prop where
 len : 1 ≤ t.Cols.length ∧ t.Cols.length ≤ 24
 col : ∀ c ∈ t.Cols, colS c = 0
 pri : 1 ≤ t.Primary.length ∧ t.Primary.length ≤ 4
 pla : placesS t.Cols.length t.Primary = true
 row : rowMaxS t.Cols ≤ 512
 key : keyMaxS t.Cols (upS t.Primary) ≤ 128
 ixs : t.Indexes.length ≤ 6
 idx : ∀ x ∈ t.Indexes, indexS t x = 0
theorem Right.of {t : ApiTable} (h : chkS t = 0) : Right t := by
 unfold chkS at h
 by_cases h1 : nameS t.Name = false
 ·rw [if_pos h1] at h; cases h
 rw [if_neg h1] at h
 by_cases h2 : t.Cols.length < 1 ∨ t.Cols.length > 24
 ·rw [if_pos h2] at h; cases h
 rw [if_neg h2] at h
 cases h3 : firstF (colE t.Cols) 0 t.Cols with
 | some e =>
  rw [h3] at h
  exfalso
  have : ∀ (l : List ApiColumn) (i : Nat) (e : Int), firstF (colE t.Cols) i l = some e → e ≠ 0 := by
   intro l
   induction l with
   | nil => intro i e h; cases h
   | cons x r ih =>
    intro i e h
    rw [firstF] at h
    cases hx : colE t.Cols i x with
    | none => rw [hx] at h; exact ih _ _ h
    | some e' =>
     rw [hx] at h
     cases h
     unfold colE at hx
     by_cases q : colS x = 0
     ·rw [if_neg (by simpa using q)] at hx
      by_cases q2 : ((t.Cols.take i).any fun d => d.Name == x.Name) = true
      ·rw [if_pos q2] at hx; cases hx; decide
      ·rw [if_neg q2] at hx; cases hx
     ·rw [if_pos q] at hx; cases hx; exact q
  exact this _ _ _ h3 h
 | none =>
 rw [h3] at h
 simp only at h
 by_cases h4 : t.Primary.length < 1 ∨ t.Primary.length > 4 ∨ placesS t.Cols.length t.Primary = false
 ·rw [if_pos h4] at h; cases h
 rw [if_neg h4] at h
 by_cases h5 : (t.Primary.any fun c => (colAt t.Cols c).Nulls) = true
 ·rw [if_pos h5] at h; cases h
 rw [if_neg h5] at h
 by_cases h6 : rowMaxS t.Cols > 512 ∨ keyMaxS t.Cols (upS t.Primary) > 128 ∨ t.Indexes.length > 6
 ·rw [if_pos h6] at h; cases h
 rw [if_neg h6] at h
 simp only [not_or, Bool.not_eq_false] at h2 h4 h6
 refine ⟨by omega, cols_of_none h3, by omega, h4.2.2, by omega, by omega, by omega, fun x hx => ?_⟩
 obtain ⟨i, hi, rfl⟩ := List.mem_iff_getElem.1 hx
 cases h7 : firstF (idxE t) 0 t.Indexes with
 | none =>
  rw [firstF_none] at h7
  have := h7 i hi
  unfold idxE at this
  by_cases q : nameS t.Indexes[i].Name = false
  ·rw [if_pos q] at this; cases this
  rw [if_neg q] at this
  by_cases q2 : ((t.Indexes.take (0 + i)).any fun y => y.Name == t.Indexes[i].Name) = true
  ·rw [if_pos q2] at this; cases this
  rw [if_neg q2] at this
  by_cases q3 : indexS t t.Indexes[i] = 0
  ·exact q3
  ·rw [if_pos q3] at this; cases this
 | some e =>
  rw [h7] at h
  exfalso
  have : ∀ (l : List ApiIndex) (i : Nat) (e : Int), firstF (idxE t) i l = some e → e ≠ 0 := by
   intro l
   induction l with
   | nil => intro i e h; cases h
   | cons x r ih =>
    intro i e h
    rw [firstF] at h
    cases hx : idxE t i x with
    | none => rw [hx] at h; exact ih _ _ h
    | some e' =>
     rw [hx] at h
     cases h
     unfold idxE at hx
     by_cases q : nameS x.Name = false
     ·rw [if_pos q] at hx; cases hx; decide
     rw [if_neg q] at hx
     by_cases q2 : ((t.Indexes.take i).any fun y => y.Name == x.Name) = true
     ·rw [if_pos q2] at hx; cases hx; decide
     rw [if_neg q2] at hx
     by_cases q3 : indexS t x = 0
     ·rw [if_neg (by simpa using q3)] at hx; cases hx
     ·rw [if_pos q3] at hx; cases hx; exact q3
  exact this _ _ _ h7 h
structure RightX (t : ApiTable) (x : ApiIndex) : Prop where
 par : 1 ≤ x.Parts.length ∧ x.Parts.length ≤ 4
 pla : placesS t.Cols.length (colsOf x.Parts) = true
 ext : placesS t.Cols.length x.Extra = true
 key : keyMaxS t.Cols x.Parts ≤ 128
theorem RightX.of {t : ApiTable} {x : ApiIndex} (h : indexS t x = 0) : RightX t x := by
 unfold indexS at h
 by_cases h1 : x.Parts.length < 1 ∨ x.Parts.length > 4 ∨ placesS t.Cols.length (colsOf x.Parts) = false ∨ placesS t.Cols.length x.Extra = false
 ·rw [if_pos h1] at h; cases h
 rw [if_neg h1] at h
 by_cases h2 : (x.Extra.any fun c => hasS (colsOf x.Parts) c || hasS t.Primary c) = true
 ·rw [if_pos h2] at h; cases h
 rw [if_neg h2] at h
 by_cases h3 : keyMaxS t.Cols x.Parts > 128
 ·rw [if_pos h3] at h; cases h
 simp only [not_or, Bool.not_eq_false] at h1
 exact ⟨by omega, h1.2.2.1, h1.2.2.2, by omega⟩
theorem nd_len : ∀ (n : Nat) (l : List Nat), l.Nodup → (∀ x ∈ l, x < n) → l.length ≤ n
 | 0, [], _, _ => by simp
 | 0, x :: l, _, h => absurd (h x (by simp)) (by omega)
 | n + 1, l, hd, h => by
  have h1 := nd_len n (l.erase n) (hd.erase n) (fun x hx => by
   have := (List.Nodup.mem_erase_iff hd).1 hx
   have := h x this.2
   omega)
  have := List.length_erase (a := n) (l := l)
  split at this <;> omega
theorem nodup_len {n : Nat} {l : List Int} (h : placesS n l = true) : l.length ≤ n := by
 have h1 := placesS_in h
 have h2 := placesS_nodup h
 have h3 : (l.map Int.toNat).Nodup := by
  show List.Pairwise (· ≠ ·) _
  rw [List.pairwise_map]
  refine List.Pairwise.imp_of_mem ?_ h2
  intro a b ha hb hab e
  have := h1 a ha; have := h1 b hb
  omega
 have h4 : ∀ x ∈ l.map Int.toNat, x < n := by
  intro x hx
  obtain ⟨c, hc, rfl⟩ := List.mem_map.1 hx
  have := h1 c hc; omega
 have := nd_len n _ h3 h4
 simpa using this
theorem fitS_ok {c : ApiColumn} {v : ApiValue} (h : fitS c v = 0) : val v = true ∧ (v.Kind = 0 ∨ v.Kind = c.Kind) ∧ ((v.Kind = 4 ∨ v.Kind = 5) → (v.S.length : Int) ≤ c.Max) := by
 unfold fitS at h
 by_cases h1 : val v = false
 ·rw [if_pos h1] at h; cases h
 rw [if_neg h1] at h
 have hv : val v = true := by simpa using h1
 by_cases h2 : v.Kind = 0
 ·exact ⟨hv, .inl h2, fun k => by omega⟩
 rw [if_neg h2] at h
 by_cases h3 : v.Kind ≠ c.Kind
 ·rw [if_pos h3] at h; cases h
 rw [if_neg h3] at h
 by_cases h4 : (v.Kind = 4 ∨ v.Kind = 5) ∧ (v.S.length : Int) > c.Max
 ·rw [if_pos h4] at h; cases h
 exact ⟨hv, .inr (by simpa using h3), fun k => by
  rcases Int.lt_or_le c.Max v.S.length with q | q
  ·exact absurd ⟨k, q⟩ h4
  ·exact q⟩
structure Fit (cols : List ApiColumn) (l : List ApiValue) : Prop where
 rc : colsS cols = true
 len : l.length = cols.length
 fit : ∀ i (h1 : i < cols.length) (h2 : i < l.length), fitS cols[i] l[i] = 0
theorem Fit.of {cols : List ApiColumn} {l : List ApiValue} (h : fitsS cols l = 0) : Fit cols l := by
 unfold fitsS at h
 by_cases q : colsS cols = false ∨ l.length ≠ cols.length
 ·rw [if_pos q] at h; cases h
 rw [if_neg q] at h
 simp only [not_or, Bool.not_eq_false, ne_eq, Decidable.not_not] at q
 refine ⟨q.1, q.2, fun i h1 h2 => ?_⟩
 have hn : (cols.zip l).findSome? fitE = none := by
  cases hf : (cols.zip l).findSome? fitE with
  | none => rfl
  | some e =>
   rw [hf] at h
   exfalso
   obtain ⟨p, _, hp⟩ := List.exists_of_findSome?_eq_some hf
   unfold fitE at hp
   by_cases k : fitS p.1 p.2 = 0
   ·rw [if_pos k] at hp; cases hp
   ·rw [if_neg k] at hp; cases hp; exact k h
 rw [List.findSome?_eq_none_iff] at hn
 have := hn (cols[i], l[i]) (List.mem_iff_getElem.2 ⟨i, by simp; omega, by rw [List.getElem_zip]⟩)
 unfold fitE at this
 by_cases k : fitS cols[i] l[i] = 0
 ·exact k
 ·rw [if_neg k] at this; cases this
theorem Fit.to {cols : List ApiColumn} {l : List ApiValue} (h : Fit cols l) : fitsS cols l = 0 := by
 unfold fitsS
 rw [if_neg (by rw [h.rc, h.len]; simp)]
 have hn : (cols.zip l).findSome? fitE = none := by
  rw [List.findSome?_eq_none_iff]
  intro p hp
  obtain ⟨i, hi, rfl⟩ := List.mem_iff_getElem.1 hp
  have hi' : i < cols.length ∧ i < l.length := by have := hi; simp at this; omega
  rw [List.getElem_zip]
  unfold fitE
  rw [if_pos (h.fit i hi'.1 hi'.2)]
 rw [hn]; rfl
theorem Fit.num {cols : List ApiColumn} {l : List ApiValue} (h : Fit cols l) : 1 ≤ cols.length ∧ cols.length ≤ 24 ∧ ∀ c ∈ cols, colS c = 0 := by
 have := h.rc
 unfold colsS at this
 simp only [Bool.and_eq_true, decide_eq_true_eq, List.all_eq_true, beq_iff_eq] at this
 exact ⟨this.1.1, this.1.2, this.2⟩
theorem Fit.val {cols : List ApiColumn} {l : List ApiValue} (h : Fit cols l) : ∀ v ∈ l, val v = true := by
 intro v hv
 obtain ⟨i, hi, rfl⟩ := List.mem_iff_getElem.1 hv
 exact (fitS_ok (h.fit i (by rw [← h.len]; exact hi) hi)).1
def vAt (l : List ApiValue) (i : Int) : ApiValue := (l[i.toNat]?).getD default
theorem Fit.at {cols : List ApiColumn} {l : List ApiValue} (h : Fit cols l) {i : Int} (hi : 0 ≤ i ∧ i < cols.length) : fitS (colAt cols i) (vAt l i) = 0 := by
 unfold colAt vAt
 have h1 : i.toNat < cols.length := by omega
 have h2 : i.toNat < l.length := by rw [h.len]; exact h1
 rw [List.getElem?_eq_getElem h1, List.getElem?_eq_getElem h2]
 exact h.fit _ h1 h2
end Lv
namespace Lv
open Go Go.Proofs
variable [BaseTab]
variable [BaseTab]
variable [BaseTab]
end Lv
namespace Lv
open Go Go.Proofs
variable [BaseTab]
theorem eqlp {α : Type} [DecidableEq α] (a b : List α) (eq : α → α → Bool) (heq : ∀ x y, eq x y = decide (x = y)) (hl : a.length = b.length) {B : Int → Option (Int ⊕ (Unit ⊕ Bool))}
  (h : ∀ i (h1 : i < a.length) (h2 : i < b.length), B (i : Int) = some (if eq a[i] b[i] = true then .inl ((i + 1 : Nat) : Int) else .inr (.inr false))) (he : B (a.length : Int) = some (.inr (.inl ()))) :
  loop B 0 = some (if a = b then .inl () else .inr false) := by
 have z : (a.zip b).length = a.length := by simp [hl]
 refine (lq3 (a.zip b) (fun p => !eq p.1 p.2) (.inr false) (.inl ()) (fun i => (i : Int)) (fun i hi => ?_) ?_ rfl).trans ?_
 ·rw [h i (by omega) (by omega), List.getElem_zip]
  cases eq a[i] b[i] <;> rfl
 ·rw [z]; exact he
 ·have key : ((a.zip b).any fun p => !eq p.1 p.2) = !decide (a = b) := by
   by_cases q : a = b
   ·subst q
    rw [decide_eq_true rfl, Bool.not_true, List.any_eq_false]
    intro p hp
    obtain ⟨i, hi, rfl⟩ := List.mem_iff_getElem.1 hp
    rw [List.getElem_zip, heq]; simp
   ·rw [decide_eq_false q, Bool.not_false, List.any_eq_true]
    have : ∃ i, ∃ h1 : i < a.length, ∃ h2 : i < b.length, a[i] ≠ b[i] := Decidable.byContradiction fun hn => q (List.ext_getElem hl fun i h1 h2 => Decidable.byContradiction fun hne => hn ⟨i, h1, h2, hne⟩)
    obtain ⟨i, h1, h2, hne⟩ := this
    refine ⟨(a[i], b[i]), List.mem_iff_getElem.2 ⟨i, by omega, by rw [List.getElem_zip]⟩, ?_⟩
    rw [heq, decide_eq_false hne]; rfl
  rw [key]
  by_cases q : a = b <;> simp [q]
theorem raw_Ints_eq (a b : List Int) (h : a.length < 4611686018427387904) : raw_Ints a b = some (decide (a = b)) := by
 unfold raw_Ints
 rw [nat_ne]
 by_cases hl : a.length = b.length
 rotate_left
 ·rw [show (a.length != b.length) = true by simpa using hl, cond_true, decide_eq_false (fun e => hl (by rw [e]))]
 rw [show (a.length != b.length) = false by simpa using hl, cond_false]
 refine lpE (eqlp a b (fun x y => x == y) (fun x y => by simp [Bool.beq_eq_decide_eq]) hl (fun i h1 h2 => ?_) ?_) (by by_cases q : a = b <;> simp [q])
 ·show (bif _ then _ else _) = _
  rw [bif_decT (by omega), getI_at h1, bind_some', getI_at h2, bind_some', w64_succ (by omega)]
  by_cases k : a[i] = b[i]
  ·rw [show (a[i] != b[i]) = false by simpa using k, if_pos (by simpa using k)]; rfl
  ·rw [show (a[i] != b[i]) = true by simpa using k, if_neg (by simpa using k)]; rfl
 ·show (bif _ then _ else _) = _
  rw [bif_decF (by omega)]
theorem eqCol (a b : ApiColumn) : eqApiColumn a b = decide (a = b) := by
 cases a; cases b
 simp only [eqApiColumn, ApiColumn.mk.injEq, eqV]
 rw [Bool.eq_iff_iff]
 simp
theorem eqPart (a b : ApiPart) : eqApiPart a b = decide (a = b) := by
 cases a; cases b
 simp only [eqApiPart, ApiPart.mk.injEq]
 rw [Bool.eq_iff_iff]
 simp
def sameX (a b : ApiIndex) : Bool := decide (a = b)
theorem ref17_Same_eq (a b : ApiTable) (h : OkT a) : ref17_Same a b = some (decide (a = b)) := by
 unfold ref17_Same
 have hcl := h.cols.1
 refine bo (a := !decide (a.Name = b.Name ∧ a.Tree = b.Tree ∧ a.Cols.length = b.Cols.length ∧ a.Primary = b.Primary ∧ a.Indexes.length = b.Indexes.length)) ?_ ?_
 ·by_cases h1 : a.Name = b.Name
  rotate_left
  ·rw [show (a.Name != b.Name) = true by simpa using h1]; simp [h1]
  rw [show (a.Name != b.Name) = false by simpa using h1, cond_false]
  by_cases h2 : a.Tree = b.Tree
  rotate_left
  ·rw [show (a.Tree != b.Tree) = true by simpa using h2]; simp [h2]
  rw [show (a.Tree != b.Tree) = false by simpa using h2, cond_false, nat_ne]
  by_cases h3 : a.Cols.length = b.Cols.length
  rotate_left
  ·rw [show (a.Cols.length != b.Cols.length) = true by simpa using h3]; simp [h3]
  rw [show (a.Cols.length != b.Cols.length) = false by simpa using h3, cond_false, raw_Ints_eq _ _ h.prim, bind_some']
  by_cases h4 : a.Primary = b.Primary
  rotate_left
  ·rw [decide_eq_false h4]; simp [h4]
  rw [decide_eq_true h4, Bool.not_true, cond_false, nat_ne]
  by_cases h5 : a.Indexes.length = b.Indexes.length
  ·simp [h1, h2, h3, h4, h5]
  ·rw [show (a.Indexes.length != b.Indexes.length) = true by simpa using h5]; simp [h5]
 by_cases q : a.Name = b.Name ∧ a.Tree = b.Tree ∧ a.Cols.length = b.Cols.length ∧ a.Primary = b.Primary ∧ a.Indexes.length = b.Indexes.length
 rotate_left
 ·rw [decide_eq_false q, Bool.not_false, cond_true, decide_eq_false (fun e => q (by rw [e]; simp))]
 rw [decide_eq_true q, Bool.not_true, cond_false]
 obtain ⟨q1, q2, q3, q4, q5⟩ := q
 refine lpE (eqlp a.Cols b.Cols eqApiColumn eqCol q3 (fun i h1 h2 => ?_) ?_) ?_
 ·show (bif _ then _ else _) = _
  rw [bif_decT (by omega), getI_at h1, bind_some', getI_at h2, bind_some', w64_succ (by omega)]
  cases eqApiColumn a.Cols[i] b.Cols[i] <;> rfl
 ·show (bif _ then _ else _) = _
  rw [bif_decF (by omega)]
 by_cases e1 : a.Cols = b.Cols
 rotate_left
 ·rw [if_neg e1, decide_eq_false (fun e => e1 (by rw [e]))]; rfl
 rw [if_pos e1, Sum.elim_inl]
 have hil := h.idxs
 refine lpE (eqlp a.Indexes b.Indexes sameX (fun x y => rfl) q5 (fun i h1 h2 => ?_) ?_) ?_
 ·have hm := h.idx _ (List.getElem_mem h1)
  show (bif _ then _ else _) = _
  rw [bif_decT (by omega), getI_at h1, getI_at h2, w64_succ (by omega)]
  generalize hx : a.Indexes[i] = x at hm ⊢
  generalize hy : b.Indexes[i] = y
  obtain ⟨m1, m2, m3⟩ := hm
  have key : ∀ (o : Option (Unit ⊕ Bool)), o = some (if sameX x y = true then .inl () else .inr false) → bindE o (fun _ => some (Sum.inl ((i + 1 : Nat) : Int))) (fun e => some (Sum.inr (Sum.inr e))) = some (if sameX x y = true then .inl ((i + 1 : Nat) : Int) else .inr (.inr false) : Int ⊕ (Unit ⊕ Bool)) := by
   intro o ho
   subst ho
   cases sameX x y <;> rfl
  refine key _ ?_
  rw [bind_some', bind_some']
  refine bo (a := !decide (x.Name = y.Name ∧ x.Unique = y.Unique ∧ x.Ready = y.Ready ∧ x.Tree = y.Tree ∧ x.Extra = y.Extra ∧ x.Parts.length = y.Parts.length)) ?_ ?_
  ·by_cases k1 : x.Name = y.Name
   rotate_left
   ·rw [show (x.Name != y.Name) = true by simpa using k1]; simp [k1]
   rw [show (x.Name != y.Name) = false by simpa using k1, cond_false]
   by_cases k2 : x.Unique = y.Unique
   rotate_left
   ·rw [show (x.Unique != y.Unique) = true by simpa using k2]; simp [k2]
   rw [show (x.Unique != y.Unique) = false by simpa using k2, cond_false]
   by_cases k3 : x.Ready = y.Ready
   rotate_left
   ·rw [show (x.Ready != y.Ready) = true by simpa using k3]; simp [k3]
   rw [show (x.Ready != y.Ready) = false by simpa using k3, cond_false]
   by_cases k4 : x.Tree = y.Tree
   rotate_left
   ·rw [show (x.Tree != y.Tree) = true by simpa using k4]; simp [k4]
   rw [show (x.Tree != y.Tree) = false by simpa using k4, cond_false, raw_Ints_eq _ _ m3, bind_some']
   by_cases k5 : x.Extra = y.Extra
   rotate_left
   ·rw [decide_eq_false k5]; simp [k5]
   rw [decide_eq_true k5, Bool.not_true, cond_false, nat_ne]
   by_cases k6 : x.Parts.length = y.Parts.length
   ·simp [k1, k2, k3, k4, k5, k6]
   ·rw [show (x.Parts.length != y.Parts.length) = true by simpa using k6]; simp [k6]
  by_cases k : x.Name = y.Name ∧ x.Unique = y.Unique ∧ x.Ready = y.Ready ∧ x.Tree = y.Tree ∧ x.Extra = y.Extra ∧ x.Parts.length = y.Parts.length
  rotate_left
  ·rw [decide_eq_false k, Bool.not_false, cond_true, sameX, decide_eq_false (fun e => k (by rw [e]; simp))]; rfl
  rw [decide_eq_true k, Bool.not_true, cond_false]
  obtain ⟨k1, k2, k3, k4, k5, k6⟩ := k
  refine lpE' (eqlp x.Parts y.Parts eqApiPart eqPart k6 (fun j j1 j2 => ?_) ?_) ?_
  ·show (bif _ then _ else _) = _
   rw [bif_decT (by omega), getI_at j1, bind_some', getI_at j2, bind_some', w64_succ (by omega)]
   cases eqApiPart x.Parts[j] y.Parts[j] <;> rfl
  ·show (bif _ then _ else _) = _
   rw [bif_decF (by omega)]
  ·have : sameX x y = decide (x.Parts = y.Parts) := by
    unfold sameX
    refine decI ⟨fun e => by rw [e], fun e => ?_⟩
    cases x; cases y; simp_all
   rw [this]
   by_cases p : x.Parts = y.Parts <;> simp [p]
 ·show (bif _ then _ else _) = _
  rw [bif_decF (by omega)]
 ·by_cases e2 : a.Indexes = b.Indexes
  ·rw [if_pos e2, decide_eq_true]; · rfl
   cases a; cases b; simp_all
  ·rw [if_neg e2, decide_eq_false (fun e => e2 (by rw [e]))]; rfl
end Lv
namespace Lv
open Go Go.Proofs
section
variable {κ : Type} [BEq κ] [LawfulBEq κ]
theorem mget_mset {β : Type} (k k' : κ) (v : β) : ∀ m : List (κ × β), mget (mset m k v) k' = if k' == k then some v else mget m k'
 | [] => by simp only [mset, mget]; cases k' == k <;> rfl
 | p :: m => by
  simp only [mset, mget]
  cases h : k == p.1 with
  | true =>
   have e := LawfulBEq.eq_of_beq h
   subst e
   simp only [cond_true, mget]
   cases hq : k' == p.1 <;> simp
  | false =>
   simp only [cond_false, mget, mget_mset k k' v m]
   cases h2 : k' == p.1 with
   | true =>
    have e := LawfulBEq.eq_of_beq h2
    subst e
    rw [show (p.1 == k) = false by rw [beq_eq_false_iff_ne] at h ⊢; exact fun e => h e.symm]
    rfl
   | false => rfl
def mS (l : List κ) : List (κ × Bool) := l.foldl (fun m k => mset m k true) []
theorem mS_get (l : List κ) (k : κ) : (mget (mS l) k).getD false = l.any fun x => x == k := by
 have key : ∀ (l : List κ) (m : List (κ × Bool)), (mget (l.foldl (fun m k => mset m k true) m) k).getD false = ((mget m k).getD false || l.any fun x => x == k) := by
  intro l
  induction l with
  | nil => intro m; simp
  | cons x l ih =>
   intro m
   rw [List.foldl_cons, ih, mget_mset, List.any_cons, show (x == k) = (k == x) from BEq.comm]
   cases k == x <;> simp
 rw [mS, key]
 rfl
theorem mS_succ (l : List κ) {i : Nat} (hi : i < l.length) : mS (l.take (i + 1)) = mset (mS (l.take i)) l[i] true := by
 unfold mS
 rw [List.take_succ_eq_append_getElem hi, List.foldl_append]
 rfl
end
variable [BaseTab]
theorem schema_columns_eq (l : List ApiColumn) (h : OkCs l) : schema_columns l = some (if l.length < 1 ∨ l.length > 24 then 7 else (firstF (colE l) 0 l).getD 0) := by
 unfold schema_columns
 refine bo (a := decide (l.length < 1 ∨ l.length > 24)) ?_ ?_
 ·by_cases k : l.length < 1
  ·rw [bif_decT (by omega)]; simp [k]
  ·rw [bif_decF (by omega)]; congr 1; exact decI (by omega)
 by_cases q : l.length < 1 ∨ l.length > 24
 ·rw [bif_decT q, if_pos q]
 rw [bif_decF q, if_neg q]
 refine lpE (lq5 l (fun i c => (colE l i c).map fun e => (.inr e : Unit ⊕ Int)) (.inl ()) (fun i => ((i : Int), mS ((l.take i).map (·.Name)))) (fun i hi => ?_) ?_ rfl) ?_
 ·have hm := List.getElem_mem hi
  show (bif _ then _ else _) = _
  rw [bif_decT (by omega), getI_at hi, bind_some', value_Column_eq _ (h.2 _ hm).1 (h.2 _ hm).2, bind_some', w64_succ (by omega), mS_get, List.any_map]
  unfold colE
  by_cases k : colS l[i] = 0
  rotate_left
  ·rw [show (colS l[i] != 0) = true by simpa using k, cond_true, if_pos k]; rfl
  rw [show (colS l[i] != 0) = false by simpa using k, cond_false, if_neg (by simpa using k)]
  show (bif ((l.take i).any fun d => d.Name == l[i].Name) then _ else _) = _
  cases ha : ((l.take i).any fun d => d.Name == l[i].Name) with
  | true => rfl
  | false =>
   have e : mS ((l.take (i + 1)).map (·.Name)) = mset (mS ((l.take i).map (·.Name))) l[i].Name true := by
    have := mS_succ (l.map (·.Name)) (i := i) (by simpa using hi)
    simpa [List.map_take] using this
   rw [e]; rfl
 ·show (bif _ then _ else _) = _
  rw [bif_decF (by omega)]
 rw [firstF_map]
 cases firstF (colE l) 0 l <;> rfl
theorem schema_places_eq (n : Int) (l : List Int) (h : l.length < 4611686018427387904) : schema_places n l = some (placesS n l) := by
 unfold schema_places
 refine lpE (lq5 l (fun i c => (plE n l i c).map fun _ => (.inr false : Unit ⊕ Bool)) (.inl ()) (fun i => ((i : Int), mS (l.take i))) (fun i hi => ?_) ?_ rfl) ?_
 ·show (bif _ then _ else _) = _
  rw [bif_decT (by omega), getI_at hi, w64_succ (by omega)]
  simp only [bind_some']
  refine bo (a := decide (l[i] < 0 ∨ l[i] ≥ n ∨ hasS (l.take i) l[i] = true)) ?_ ?_
  ·by_cases h1 : l[i] < 0
   ·rw [bif_decT h1]; simp [h1]
   rw [bif_decF h1]
   by_cases h2 : l[i] ≥ n
   ·rw [bif_decT h2]; simp [h2]
   rw [bif_decF h2, mS_get, show ((l.take i).any fun x => x == l[i]) = hasS (l.take i) l[i] from rfl]
   simp [h1, h2]
  ·unfold plE
   by_cases q : l[i] < 0 ∨ l[i] ≥ n ∨ hasS (l.take i) l[i] = true
   ·rw [bif_decT q, if_pos q]; rfl
   ·rw [bif_decF q, if_neg q, mS_succ l hi]; rfl
 ·show (bif _ then _ else _) = _
  rw [bif_decF (by omega)]
 ·unfold placesS
  have key : ∀ (r : List Int) (i : Nat), firstF (fun i c => (plE n l i c).map fun _ => (.inr false : Unit ⊕ Bool)) i r = (firstF (plE n l) i r).map fun _ => .inr false := by
   intro r
   induction r with
   | nil => intro i; rfl
   | cons x r ih => intro i; rw [firstF, firstF]; cases plE n l i x <;> simp [ih]
  rw [key]
  cases firstF (plE n l) 0 l <;> rfl
theorem idxF_nulls (l : List Int) (t : ApiTable) (h : l.length < 4611686018427387904) (hp : ∀ c ∈ l, 0 ≤ c ∧ c < t.Cols.length) : slices_ContainsFunc_int_int_1 l t = some (l.any fun c => (colAt t.Cols c).Nulls) := by
 unfold slices_ContainsFunc_int_int_1 slices_IndexFunc_int_int_1
 refine bo (a := idxI (fun c => (colAt t.Cols c).Nulls) l) (lqX l _ (fun i hi => ?_) ?_) (by rw [idxI_any])
 ·rw [bif_decT (by omega), getI_at hi, bind_some']
  unfold schema_Check_1
  rw [colAt_eq (hp _ (List.getElem_mem hi)), bind_some', bind_some', w64_succ (by omega)]
  cases (colAt t.Cols l[i]).Nulls <;> rfl
 ·rw [bif_decF (by omega)]
theorem schema_wide_eq (c : ApiColumn) (each : Int) (hc : 0 ≤ c.Max ∧ c.Max ≤ 64) (he : each = 1 ∨ each = 2) : schema_wide c each = some (wideS c each) := by
 unfold schema_wide wideS
 refine bo (a := decide (c.Kind = 1 ∨ c.Kind = 2)) ?_ ?_
 ·by_cases k : c.Kind = 1
  ·rw [k]; rfl
  ·rw [beq_eq_false_iff_ne.2 k, cond_false]; congr 1; simp [k, Bool.beq_eq_decide_eq]
 by_cases k : c.Kind = 1 ∨ c.Kind = 2
 ·rw [bif_decT k, if_pos k]
 rw [bif_decF k, if_neg k]
 by_cases k3 : c.Kind = 3
 ·rw [show (c.Kind == 3) = true by simpa using k3, cond_true, if_pos k3]
 rw [show (c.Kind == 3) = false by simpa using k3, cond_false, if_neg k3]
 have hm : 0 ≤ each * c.Max ∧ each * c.Max ≤ 128 := by rcases he with rfl | rfl <;> omega
 generalize each * c.Max = m at hm ⊢
 rw [w64_id (n := m) (by omega) (by omega), w64_id (by omega) (by omega)]
theorem schema_RowMax_eq (l : List ApiColumn) (h : l.length ≤ 24) (hc : ∀ c ∈ l, 0 ≤ c.Max ∧ c.Max ≤ 64) : schema_RowMax l = some (rowMaxS l) := by
 unfold schema_RowMax
 refine lpA (w := rowMaxS l) (lq1 (fun i => (rowMaxS (l.take i), (i : Int))) l.length (fun i hi => ?_) ?_ rfl) rfl
 ·have b := sum_bound (fun c => wideS c 1) (l := l.take i) (fun c h => wideS_le (hc c (List.mem_of_mem_take h)) (.inl rfl))
  have w := wideS_le (each := 1) (hc _ (List.getElem_mem hi)) (.inl rfl)
  have tl : (l.take i).length ≤ 24 := by simp; omega
  show (bif _ then _ else _) = _
  rw [bif_decT (by omega), getI_at hi, bind_some', schema_wide_eq _ _ (hc _ (List.getElem_mem hi)) (.inl rfl), bind_some', w64_succ (by omega)]
  have e : rowMaxS (l.take (i + 1)) = rowMaxS (l.take i) + wideS l[i] 1 := by
   unfold rowMaxS
   rw [List.map_take, List.map_take, sum_take _ _ (by simpa using hi)]; simp; omega
  rw [e, w64_id (by unfold rowMaxS; omega) (by unfold rowMaxS; omega)]
 ·show (bif _ then _ else _) = _
  rw [bif_decF (by omega), List.take_length]
theorem schema_KeyMax_eq (cols : List ApiColumn) (l : List ApiPart) (h : l.length ≤ 1048576) (hp : ∀ p ∈ l, 0 ≤ p.Col ∧ p.Col < cols.length) (hc : ∀ c ∈ cols, 0 ≤ c.Max ∧ c.Max ≤ 64) : schema_KeyMax cols l = some (keyMaxS cols l) := by
 unfold schema_KeyMax
 refine lpA (w := keyMaxS cols l) (lq1 (fun i => (keyMaxS cols (l.take i), (i : Int))) l.length (fun i hi => ?_) ?_ rfl) rfl
 ·have b := sum_bound (fun p : ApiPart => wideS (colAt cols p.Col) 2) (l := l.take i) (fun p h => wideS_le (hc _ (colAt_mem (hp p (List.mem_of_mem_take h)))) (.inr rfl))
  have hq := hp _ (List.getElem_mem hi)
  have w := wideS_le (each := 2) (hc _ (colAt_mem hq)) (.inr rfl)
  have tl : (l.take i).length ≤ 1048576 := by simp; omega
  show (bif _ then _ else _) = _
  rw [bif_decT (by omega), getI_at hi, bind_some', colAt_eq hq, bind_some', schema_wide_eq _ _ (hc _ (colAt_mem hq)) (.inr rfl), bind_some', w64_succ (by omega)]
  have e : keyMaxS cols (l.take (i + 1)) = keyMaxS cols (l.take i) + wideS (colAt cols l[i].Col) 2 := by
   unfold keyMaxS
   rw [List.map_take, List.map_take, sum_take _ _ (by simpa using hi)]; simp
  rw [e, w64_id (by unfold keyMaxS; omega) (by unfold keyMaxS; omega)]
 ·show (bif _ then _ else _) = _
  rw [bif_decF (by omega), List.take_length]
theorem schema_cols_eq (l : List ApiPart) (h : l.length * 8 ≤ room) : schema_cols l = some (colsOf l) := by
 have h' := h
 rw [room_val] at h'
 unfold schema_cols
 refine lpA (w := colsOf l) (lq1 (fun i => (colsOf (l.take i), (i : Int))) l.length (fun i hi => ?_) ?_ rfl) rfl
 ·show (bif _ then _ else _) = _
  rw [bif_decT (by omega), getI_at hi, bind_some', bif_decT (by rw [room_val]; simp [colsOf]; omega), w64_succ (by omega), show colsOf (l.take (i + 1)) = _ from map_ts _ l hi]
  rfl
 ·show (bif _ then _ else _) = _
  rw [bif_decF (by omega), List.take_length]
theorem contains_eq (l : List Int) (x : Int) (h : l.length < 4611686018427387904) : slices_Contains_int_int l x = some (hasS l x) := by
 unfold slices_Contains_int_int slices_Index_int_int
 refine bo (a := idxI (fun c => c == x) l) (lqX l _ (fun i hi => ?_) ?_) (by rw [idxI_any]; rfl)
 ·rw [bif_decT (by omega), getI_at hi, bind_some', w64_succ (by omega), show (x == l[i]) = (l[i] == x) from BEq.comm]
  cases l[i] == x <;> rfl
 ·rw [bif_decF (by omega)]
def OkY (x : ApiIndex) : Prop := OkX x ∧ x.Parts.length * 8 ≤ room
theorem schema_index_eq (t : ApiTable) (x : ApiIndex) (hc : ∀ c ∈ t.Cols, 0 ≤ c.Max ∧ c.Max ≤ 64) (hx : OkY x) (hp : t.Primary.length < 4611686018427387904) : schema_index t x = some (indexS t x) := by
 obtain ⟨⟨o1, o2, o3⟩, o4⟩ := hx
 unfold schema_index indexS
 rw [schema_cols_eq _ o4, bind_some']
 have hm : slices_ContainsFunc_int_int_2 x.Extra (colsOf x.Parts) t = some (x.Extra.any fun c => hasS (colsOf x.Parts) c || hasS t.Primary c) := by
  unfold slices_ContainsFunc_int_int_2 slices_IndexFunc_int_int_2
  refine bo (a := idxI (fun c => hasS (colsOf x.Parts) c || hasS t.Primary c) x.Extra) (lqX x.Extra _ (fun i hi => ?_) ?_) (by rw [idxI_any])
  ·rw [bif_decT (by omega), getI_at hi, bind_some']
   unfold schema_index_1
   rw [contains_eq _ _ (by simp [colsOf]; omega), contains_eq _ _ hp, w64_succ (by omega)]
   cases hasS (colsOf x.Parts) x.Extra[i] <;> cases hasS t.Primary x.Extra[i] <;> rfl
  ·rw [bif_decF (by omega)]
 rw [hm, bind_some']
 generalize x.Extra.any (fun c => hasS (colsOf x.Parts) c || hasS t.Primary c) = me
 have hl : (colsOf x.Parts).length = x.Parts.length := by simp [colsOf]
 rw [hl]
 refine bo (a := decide ((x.Parts.length < 1 ∨ x.Parts.length > 4 ∨ placesS t.Cols.length (colsOf x.Parts) = false ∨ placesS t.Cols.length x.Extra = false) ∨ me = true)) ?_ ?_
 ·by_cases h1 : x.Parts.length < 1
  ·rw [bif_decT (by omega), decide_eq_true (.inl (.inl h1))]
  rw [bif_decF (by omega)]
  by_cases h2 : x.Parts.length > 4
  ·rw [bif_decT (by omega), decide_eq_true (.inl (.inr (.inl h2)))]
  rw [bif_decF (by omega), schema_places_eq _ _ (by omega), bind_some']
  cases p1 : placesS t.Cols.length (colsOf x.Parts) with
  | false => simp
  | true =>
   rw [Bool.not_true, cond_false, schema_places_eq _ _ o3, bind_some']
   cases p2 : placesS t.Cols.length x.Extra <;> simp [h1, h2]
 by_cases q : x.Parts.length < 1 ∨ x.Parts.length > 4 ∨ placesS t.Cols.length (colsOf x.Parts) = false ∨ placesS t.Cols.length x.Extra = false
 ·rw [bif_decT (.inl q), if_pos q]
 rw [if_neg q]
 by_cases q2 : me = true
 ·rw [bif_decT (.inr q2), if_pos q2]
 rw [bif_decF (by rw [not_or]; exact ⟨q, q2⟩), if_neg q2]
 simp only [not_or, Bool.not_eq_false] at q
 rw [schema_KeyMax_eq _ _ (by omega) (parts_in q.2.2.1) hc, bind_some']
 by_cases k : keyMaxS t.Cols x.Parts > 128
 ·rw [bif_decT k, if_pos k]
 ·rw [bif_decF k, if_neg k]
theorem schema_Check_eq (t : ApiTable) (h : OkT t) (hy : ∀ x ∈ t.Indexes, OkY x) : schema_Check t = some (chkS t) := by
 unfold schema_Check chkS
 rw [value_Name_eq _ h.name, bind_some']
 cases nameS t.Name with
 | false => rfl
 | true =>
 rw [Bool.not_true, cond_false, if_neg (by simp), schema_columns_eq _ h.cols, bind_some']
 by_cases q : t.Cols.length < 1 ∨ t.Cols.length > 24
 ·rw [if_pos q, if_pos q]; rfl
 rw [if_neg q, if_neg q]
 cases hc : firstF (colE t.Cols) 0 t.Cols with
 | some e =>
  have he : e ≠ 0 := by
   have key : ∀ (l : List ApiColumn) (i : Nat), firstF (colE t.Cols) i l = some e → e ≠ 0 := by
    intro l
    induction l with
    | nil => intro i h; cases h
    | cons x l ih =>
     intro i h
     rw [firstF] at h
     cases hx : colE t.Cols i x with
     | none => rw [hx] at h; exact ih _ h
     | some e' =>
      rw [hx] at h
      obtain rfl := Option.some.inj h
      unfold colE at hx
      split at hx
      ·obtain rfl := Option.some.inj hx; assumption
      ·split at hx
       ·obtain rfl := Option.some.inj hx; decide
       ·cases hx
   exact key _ _ hc
  simp only [Option.getD_some]
  rw [show (e != 0) = true by simpa using he, cond_true]
 | none =>
 have hcol := cols_of_none hc
 have hmax : ∀ c ∈ t.Cols, 0 ≤ c.Max ∧ c.Max ≤ 64 := fun c hm => colS_max (hcol c hm)
 simp only [Option.getD_none]
 rw [show ((0 : Int) != 0) = false from rfl, cond_false]
 refine bo (a := decide (t.Primary.length < 1 ∨ t.Primary.length > 4 ∨ placesS t.Cols.length t.Primary = false)) ?_ ?_
 ·by_cases k : t.Primary.length < 1
  ·rw [bif_decT (by omega)]; simp [k]
  rw [bif_decF (by omega)]
  by_cases k2 : t.Primary.length > 4
  ·rw [bif_decT (by omega)]; simp [k2]
  rw [bif_decF (by omega), schema_places_eq _ _ h.prim, bind_some']
  cases placesS t.Cols.length t.Primary <;> simp [k, k2]
 by_cases q2 : t.Primary.length < 1 ∨ t.Primary.length > 4 ∨ placesS t.Cols.length t.Primary = false
 ·rw [bif_decT q2, if_pos q2]
 rw [bif_decF q2, if_neg q2]
 simp only [not_or, Bool.not_eq_false] at q2
 rw [idxF_nulls _ _ h.prim (placesS_in q2.2.2), bind_some']
 cases (t.Primary.any fun c => (colAt t.Cols c).Nulls) with
 | true => rfl
 | false =>
 rw [cond_false, if_neg (by simp)]
 refine bo (a := decide (rowMaxS t.Cols > 512 ∨ keyMaxS t.Cols (upS t.Primary) > 128 ∨ t.Indexes.length > 6)) ?_ ?_
 ·rw [schema_RowMax_eq _ (by omega) hmax, bind_some']
  by_cases k : rowMaxS t.Cols > 512
  ·rw [bif_decT k]; simp [k]
  rw [bif_decF k, schema_up_eq _ (by omega), bind_some', schema_KeyMax_eq _ _ (by simp [upS]; omega) (up_in q2.2.2) hmax, bind_some']
  by_cases k2 : keyMaxS t.Cols (upS t.Primary) > 128
  ·rw [bif_decT k2]; simp [k2]
  rw [bif_decF k2]; congr 1; simp only [k, k2, false_or]; exact decI (by omega)
 by_cases q3 : rowMaxS t.Cols > 512 ∨ keyMaxS t.Cols (upS t.Primary) > 128 ∨ t.Indexes.length > 6
 ·rw [bif_decT q3, if_pos q3]
 rw [bif_decF q3, if_neg q3]
 refine lpE (lq5 t.Indexes (fun i x => (idxE t i x).map fun e => (.inr e : Unit ⊕ Int)) (.inl ()) (fun i => ((i : Int), mS ((t.Indexes.take i).map (·.Name)))) (fun i hi => ?_) ?_ rfl) ?_
 ·have hm := List.getElem_mem hi
  show (bif _ then _ else _) = _
  rw [bif_decT (by omega), getI_at hi, bind_some', w64_succ (by omega), value_Name_eq _ (h.idx _ hm).1, bind_some', mS_get, List.any_map]
  unfold idxE
  cases hn : nameS t.Indexes[i].Name with
  | false => rfl
  | true =>
  rw [Bool.not_true, cond_false, if_neg (by simp)]
  show (bif ((t.Indexes.take i).any fun d => d.Name == t.Indexes[i].Name) then _ else _) = _
  cases ha : ((t.Indexes.take i).any fun d => d.Name == t.Indexes[i].Name) with
  | true => rfl
  | false =>
   rw [cond_false, if_neg (by simp), schema_index_eq t _ hmax (hy _ hm) h.prim, bind_some']
   by_cases k : indexS t t.Indexes[i] = 0
   ·have e : mS ((t.Indexes.take (i + 1)).map (·.Name)) = mset (mS ((t.Indexes.take i).map (·.Name))) t.Indexes[i].Name true := by
     have := mS_succ (t.Indexes.map (·.Name)) (i := i) (by simpa using hi)
     simpa [List.map_take] using this
    rw [k, e]; rfl
   ·rw [if_pos k, show (indexS t t.Indexes[i] != 0) = true by simpa using k]; rfl
 ·show (bif _ then _ else _) = _
  rw [bif_decF (by omega)]
 rw [firstF_map]
 cases firstF (idxE t) 0 t.Indexes <;> rfl
variable [BaseTab]
variable [BaseTab]
end Lv
namespace Lv
open Go
variable [BaseTab]
omit [BaseTab] in
theorem okY_ofB {R : Nat} (hR : R ≤ 140737488355328) {x : ApiIndex} (h : okApiIndex R x) : OkY x := by
 obtain ⟨k1, k2, k3, _⟩ := h
 have q2 := k2.1
 have q3 := k3.1
 exact ⟨⟨by omega, by omega, by omega⟩, by rw [room_val]; omega⟩
omit [BaseTab] in
theorem okT_ofB {R : Nat} (hR : R ≤ 140737488355328) {t : ApiTable} (h : okApiTable R t) : OkT t := by
 obtain ⟨h1, h2, h3, h4, h5, _⟩ := h
 have q2 := h2.1
 have q3 := h3.1
 have q4 := h4.1
 refine ⟨by omega, ⟨by omega, fun c hc => ?_⟩, by omega, by omega, fun x hx => (okY_ofB hR (h4.2 x hx)).1⟩
 obtain ⟨k1, k2, k3, k4, k5, _⟩ := h2.2 c hc
 exact ⟨by omega, by have := k5.2.2.1; omega⟩
omit [BaseTab] in
theorem okYs_ofB {R : Nat} (hR : R ≤ 140737488355328) {t : ApiTable} (h : okApiTable R t) : ∀ x ∈ t.Indexes, OkY x := fun x hx => okY_ofB hR (h.2.2.2.1.2 x hx)
end Lv
namespace Lv
open Go Go.Proofs
variable [BaseTab]
def num (l : List UInt8) : UInt64 := l.foldl (fun y b => shl64 y 8 ||| b.toUInt64) 0
theorem num_snoc (l : List UInt8) (b : UInt8) : num (l ++ [b]) = shl64 (num l) 8 ||| b.toUInt64 := by simp [num]
theorem shl_or (y : UInt64) (b : UInt8) : shl64 y 8 + b.toUInt64 = shl64 y 8 ||| b.toUInt64 := by
 unfold shl64
 rw [← UInt64.toNat_inj]
 have hb := b.toNat_lt
 have hy := y.toNat_lt
 rw [UInt64.toNat_add, UInt64.toNat_or, UInt64.toNat_ofNat']
 have e : y.toNat * 2 ^ 8 % 2 ^ 64 = (y.toNat % 2 ^ 56) <<< 8 := by rw [Nat.shiftLeft_eq]; omega
 rw [e, ← Nat.shiftLeft_add_eq_or_of_lt (by simpa using hb), Nat.shiftLeft_eq, UInt8.toNat_toUInt64, Nat.mod_eq_of_lt]
 omega
theorem num_one (b : UInt8) : num [b] = b.toUInt64 := by
 show shl64 0 8 ||| b.toUInt64 = _
 rw [show shl64 0 8 = 0 from rfl]; simp
theorem num_loop {R : Type} (p : List UInt8) (off n : Nat) (hn : off + n ≤ p.length) (hp : p.length < 4611686018427387904) (w : UInt64 → R) :
    loop (Y := UInt64 × Int) (W := R) (fun (y80, y81) =>
        bif (decide (y81 < (n : Int))) then
          Option.bind (getS p off n y81) fun v89 =>
          some (Sum.inl (((shl64 y80 8) ||| (v89.toUInt64)), (w64 (y81 + (1 : Int)))))
        else
          some (Sum.inr (w y80))) ((0 : UInt64), (0 : Int)) = some (w (num ((p.drop off).take n))) := by
  refine loop_seq (B := (fun (y80, y81) =>
        bif (decide (y81 < (n : Int))) then
          Option.bind (getS p off n y81) fun v89 =>
          some (Sum.inl (((shl64 y80 8) ||| (v89.toUInt64)), (w64 (y81 + (1 : Int)))))
        else
          some (Sum.inr (w y80)))) (fun i => (num ((p.drop off).take i), (i : Int))) n ?_ ?_
  · intro i hi
    show (bif _ then _ else _) = _
    have hlt : off + i < p.length := by omega
    have hg : getS p off n (i : Int) = some (p[off + i]'hlt) := by
      unfold getS
      rw [if_pos (by omega), Int.toNat_natCast, List.getElem?_eq_getElem hlt]
    rw [bif_decT (by omega), hg, bind_some', w64_succ (by omega), ← num_snoc]
    congr 3
    rw [List.take_succ_eq_append_getElem (by simp; omega), List.getElem_drop]
  · show (bif _ then _ else _) = _
    rw [bif_decF (by omega)]
theorem number_1_eq (p : List UInt8) (k off len : Nat) (b : Bool) (hp : p.length < 4611686018427387904) (h : off + len ≤ p.length) (hk : k < 100) :
  pack_In_number_1 k p off len b = some (if b = true ∨ len < k then (0, off, len, true) else (num ((p.drop off).take k), off + k, len - k, false)) := by
 unfold pack_In_number_1
 by_cases hb : b = true ∨ len < k
 ·have ht : pack_In_take_1 (k : Int) p off len b = some (0, 0, off, len, true) := by
   unfold pack_In_take_1
   cases b with
   | true => rfl
   | false =>
    have : len < k := by simpa using hb
    rw [cond_false, bind_some', bif_decT (by omega)]; rfl
  rw [if_pos hb, ht, bind_some']
  have q := num_loop p 0 0 (by omega) hp (fun y => (y, off, len, true))
  show (Option.bind (Option.bind (loop _ ((0 : UInt64), (0 : Int))) _) _) = _
  rw [show (loop _ ((0 : UInt64), (0 : Int))) = _ from q]
  rfl
 ·have hbf : b = false := by cases b <;> simp_all
  subst hbf
  have hlk : ¬ len < k := by simpa using hb
  have ht : pack_In_take_1 (k : Int) p off len false = some (off, k, off + k, len - k, false) := by
   unfold pack_In_take_1
   rw [cond_false, bind_some', bif_decF (show ¬ ((len : Int) < (k : Int)) by omega), bif_decT (by omega), bif_decT (by omega), Int.toNat_natCast]
  rw [if_neg hb, ht, bind_some']
  have q := num_loop p off k (by omega) hp (fun y => (y, off + k, len - k, false))
  show (Option.bind (Option.bind (loop _ ((0 : UInt64), (0 : Int))) _) _) = _
  rw [show (loop _ ((0 : UInt64), (0 : Int))) = _ from q]
  rfl
theorem num_cons_aux (l : List UInt8) : ∀ y : UInt64, (l.foldl (fun y b => shl64 y 8 ||| b.toUInt64) y).toNat = (y.toNat * 256 ^ l.length + l.foldl (fun a b => a * 256 + b.toNat) 0) % 18446744073709551616 := by
 have fold : ∀ (l : List UInt8) (a : Nat), l.foldl (fun a b => a * 256 + b.toNat) a = a * 256 ^ l.length + l.foldl (fun a b => a * 256 + b.toNat) 0 := by
  intro l
  induction l with
  | nil => intro a; simp
  | cons b l ih =>
   intro a
   rw [List.foldl_cons, List.foldl_cons, ih, ih (0 * 256 + b.toNat), List.length_cons, Nat.pow_succ]
   rw [Nat.add_mul, Nat.zero_mul, Nat.zero_add, Nat.mul_assoc, Nat.mul_comm 256 (256 ^ l.length), Nat.add_assoc]
 induction l with
 | nil =>
  intro y
  have := y.toNat_lt
  simp
 | cons b l ih =>
  intro y
  rw [List.foldl_cons, ih, List.foldl_cons, fold l (0 * 256 + b.toNat), ← shl_or]
  have h : (shl64 y 8 + b.toUInt64).toNat = (y.toNat * 256 + b.toNat) % 18446744073709551616 := by
   unfold shl64
   rw [UInt64.toNat_add, UInt64.toNat_ofNat', UInt8.toNat_toUInt64]
   omega
  rw [h, List.length_cons, Nat.pow_succ, Nat.zero_mul, Nat.zero_add]
  rw [← Nat.add_assoc, Nat.add_mod, Nat.mul_mod, Nat.mod_mod, ← Nat.mul_mod, ← Nat.add_mod]
  congr 2
  rw [Nat.add_mul, Nat.mul_assoc, Nat.mul_comm 256 (256 ^ l.length)]
theorem natB_bytesN (n : UInt64) : ∀ k, (bytesN n k).foldl (fun a b => a * 256 + b.toNat) 0 = n.toNat % 256 ^ k := by
 have fold : ∀ (l : List UInt8) (a : Nat), l.foldl (fun a b => a * 256 + b.toNat) a = a * 256 ^ l.length + l.foldl (fun a b => a * 256 + b.toNat) 0 := by
  intro l
  induction l with
  | nil => intro a; simp
  | cons b l ih =>
   intro a
   rw [List.foldl_cons, List.foldl_cons, ih, ih (0 * 256 + b.toNat), List.length_cons, Nat.pow_succ]
   rw [Nat.add_mul, Nat.zero_mul, Nat.zero_add, Nat.mul_assoc, Nat.mul_comm 256 (256 ^ l.length), Nat.add_assoc]
 intro k
 induction k with
 | zero => simp [bytesN, Nat.mod_one]
 | succ k ih =>
  rw [bytesN, List.foldl_cons, fold, bytesN_len, ih, Nat.zero_mul, Nat.zero_add, UInt8.toNat_ofNat']
  have e : (2 : Nat) ^ (8 * k) = 256 ^ k := by rw [Nat.pow_mul]
  have e2 : n.toNat % 256 ^ (k + 1) = n.toNat % 256 ^ k + 256 ^ k * (n.toNat / 256 ^ k % 256) := by rw [Nat.pow_succ, Nat.mod_mul]
  rw [e2, e, show (2 : Nat) ^ 8 = 256 from rfl, Nat.mul_comm, Nat.add_comm]
theorem num_bytes8 (n : UInt64) : num (bytesN n 8) = n := by
 have := n.toNat_lt
 rw [← UInt64.toNat_inj]
 unfold num
 rw [num_cons_aux, natB_bytesN]
 have e : (0 : UInt64).toNat = 0 := rfl
 rw [e]
 omega
theorem dr_lt {α : Type} {p : List α} {off : Nat} {x : α} {r : List α} (h : p.drop off = x :: r) : off < p.length := by
 have := congrArg List.length h
 simp at this
 omega
theorem dr_at {α : Type} {p : List α} {off : Nat} {x : α} {r : List α} (h : p.drop off = x :: r) : p[off]? = some x := by
 have := congrArg (fun l => l[0]?) h
 simpa using this
theorem dr_next {α : Type} {p : List α} {off : Nat} {x : α} {r : List α} (h : p.drop off = x :: r) : p.drop (off + 1) = r := by
 have := congrArg List.tail h
 simpa [List.tail_drop] using this
theorem dr_getS {α : Type} {p : List α} {off len : Nat} {x : α} {r : List α} (i : Nat) (h : p.drop (off + i) = x :: r) (hl : i < len) : getS p off len (i : Int) = some x := by
 unfold getS
 rw [if_pos (by omega), Int.toNat_natCast, dr_at h]
theorem take1_rd (k off len : Nat) (p : List UInt8) (hk : k ≤ len) : pack_In_take_1 (k : Int) p off len false = some (off, k, off + k, len - k, false) := by
 unfold pack_In_take_1
 rw [cond_false, bind_some', bif_decF (show ¬ ((len : Int) < (k : Int)) by omega), bif_decT (by omega), bif_decT (by omega), Int.toNat_natCast]
end Lv
namespace Lv
open Go Go.Proofs
variable [BaseTab]
variable [BaseTab]
end Lv
namespace Lv
open Go Go.Proofs
variable [BaseTab]
theorem u16_any (n : Int) : [((shr16 (u16i n) 8).toUInt8), ((u16i n).toUInt8)] = bytesN (u64i n) 2 := by
 have e : (u16i n).toNat = (u64i n).toNat / 2 ^ 0 % 65536 := by
  unfold u16i u64i
  simp
  omega
 rw [u16_hi (u64i n) 0 _ e, u16_lo (u64i n) 0 _ e]
 rfl
def fl (b : Bool) : UInt8 := if b = true then 1 else 0
theorem flag1_eq (b : Bool) (acc : List UInt8) (h : acc.length ≤ 1000000) : pack_Out_Flag_1 b acc = some (acc ++ [fl b]) := by
 unfold pack_Out_Flag_1
 cases b
 ·rw [cond_false, out_put1 _ _ (by simp; omega)]; rfl
 ·rw [cond_true, out_put1 _ _ (by simp; omega)]; rfl
theorem put8_eq (x : UInt8) (b : List UInt8) (h : b.length ≤ 1000000) : pack_Out_U8 x b = some () := by
 unfold pack_Out_U8
 rw [out_put1 _ _ (by simp; omega)]; rfl
theorem put0_eq (a : List UInt8) (h : a.length ≤ 1000000) : pack_Out_put a = some () := by
 unfold pack_Out_put
 rw [bif_decT (by rw [room_val]; omega)]
theorem U16_1_eq (x : UInt16) : pack_Out_U16_1 x = some () := by
 unfold pack_Out_U16_1
 rw [put0_eq _ (by simp)]; rfl
theorem text1_eq (s : List UInt8) (h : s.length ≤ 65535) : pack_Out_Text_1 s = some (true, bytesN (u64i s.length) 2 ++ s) := by
 unfold pack_Out_Text_1
 rw [bind_some', bif_decF (by omega), U16_1_eq, bind_some', bif_decT (by rw [room_val]; simp; omega), u16_any]
def putC (c : ApiColumn) : List UInt8 :=
 ((((((bytesN (u64i c.Name.length) 2 ++ c.Name) ++ [u8i c.Kind]) ++ [u8i c.Max]) ++ [fl c.Nulls]) ++ [u8i c.Default.Kind]) ++ bytesN c.Default.N 8) ++ (bytesN (u64i c.Default.S.length) 2 ++ c.Default.S)
theorem putColumn_eq (c : ApiColumn) (hn : c.Name.length ≤ 1000) (hs : c.Default.S.length ≤ 1000) : catalog_putColumn c = some (putC c) := by
 unfold catalog_putColumn
 rw [text1_eq _ (by omega), bind_some']
 show Option.bind (pack_Out_U8 _ _) _ = _
 rw [put8_eq _ _ (by simp [bytesN_len]; omega), bind_some', put8_eq _ _ (by simp [bytesN_len]; omega), bind_some', flag1_eq _ _ (by simp [bytesN_len]; omega), bind_some', put8_eq _ _ (by simp [bytesN_len]; omega), bind_some', Out_U64_eq _ _ (by simp [bytesN_len]; omega), bind_some', bytes8_eq, Out_Text_eq _ _ (by omega) (by simp [bytesN_len]; omega), bind_some']
 show Option.bind (pack_Out_Bytes _) _ = _
 unfold pack_Out_Bytes
 rw [bif_decT (by rw [room_val]; simp [bytesN_len]; omega)]
 rfl
theorem places18_eq (l : List Int) (b : List UInt8) (h : l.length ≤ 1000) (hb : b.length ≤ 100000) : catalog_places l b = some ((b ++ [u8i l.length]) ++ l.map u8i) := by
 unfold catalog_places
 rw [put8_eq _ _ (by omega), bind_some']
 refine bo (a := (b ++ [u8i l.length]) ++ l.map u8i) (lq1 (fun i => ((i : Int), (b ++ [u8i l.length]) ++ (l.take i).map u8i)) l.length (fun i hi => ?_) ?_ (by simp)) rfl
 ·show (bif _ then _ else _) = _
  rw [bif_decT (by omega), getI_at hi, bind_some', put8_eq _ _ (by simp; omega), bind_some', w64_succ (by omega), List.take_succ_eq_append_getElem hi, List.map_append, List.append_assoc]
  rfl
 ·show (bif _ then _ else _) = _
  rw [bif_decF (by omega), List.take_length]
def prt (p : ApiPart) : List UInt8 := [u8i p.Col] ++ [fl p.Down]
def putX (x : ApiIndex) : List UInt8 :=
 (((((((bytesN (u64i x.Name.length) 2 ++ x.Name) ++ [u8i x.Parts.length]) ++ (x.Parts.map prt).flatten) ++ [u8i x.Extra.length]) ++ x.Extra.map u8i) ++ [fl x.Unique]) ++ [fl x.Ready]) ++ bytesN (u64i x.Tree) 2
theorem prt_len (l : List ApiPart) : (l.map prt).flatten.length = 2 * l.length := by
 induction l with
 | nil => rfl
 | cons p l ih => simp [prt] at ih ⊢; omega
theorem take_prt (l : List ApiPart) (i : Nat) (hi : i < l.length) : ((l.take (i + 1)).map prt).flatten = (((l.take i).map prt).flatten ++ [u8i l[i].Col]) ++ [fl l[i].Down] := by
 rw [List.take_succ_eq_append_getElem hi, List.map_append, List.flatten_append]
 simp [prt]
theorem putIndex_eq (x : ApiIndex) (hn : x.Name.length ≤ 1000) (hp : x.Parts.length ≤ 100) (he : x.Extra.length ≤ 100) : catalog_putIndex x = some (putX x) := by
 unfold catalog_putIndex
 rw [text1_eq _ (by omega), bind_some']
 show Option.bind (pack_Out_U8 _ _) _ = _
 rw [put8_eq _ _ (by simp [bytesN_len]; omega), bind_some']
 refine lpA (w := ((bytesN (u64i x.Name.length) 2 ++ x.Name) ++ [u8i x.Parts.length]) ++ (x.Parts.map prt).flatten) (lq1 (fun i => ((i : Int), ((bytesN (u64i x.Name.length) 2 ++ x.Name) ++ [u8i x.Parts.length]) ++ ((x.Parts.take i).map prt).flatten)) x.Parts.length (fun i hi => ?_) ?_ (by simp)) ?_
 ·have hl := prt_len (x.Parts.take i)
  have hl2 : (x.Parts.take i).length ≤ 100 := by simp; omega
  show (bif _ then _ else _) = _
  rw [bif_decT (by omega), getI_at hi, bind_some', put8_eq _ _ (by simp only [List.length_append, bytesN_len, hl, List.length_cons, List.length_nil]; omega), bind_some', flag1_eq _ _ (by simp only [List.length_append, bytesN_len, hl, List.length_cons, List.length_nil]; omega), bind_some', w64_succ (by omega), take_prt _ _ hi]
  simp only [List.append_assoc]
 ·show (bif _ then _ else _) = _
  rw [bif_decF (by omega), List.take_length]
 have hl := prt_len x.Parts
 rw [places18_eq _ _ (by omega) (by simp only [List.length_append, bytesN_len, hl, List.length_cons, List.length_nil]; omega), bind_some', flag1_eq _ _ (by simp only [List.length_append, bytesN_len, hl, List.length_cons, List.length_nil, List.length_map]; omega), bind_some', flag1_eq _ _ (by simp only [List.length_append, bytesN_len, hl, List.length_cons, List.length_nil, List.length_map]; omega), bind_some', Out_U16_eq _ _ (by simp only [List.length_append, bytesN_len, hl, List.length_cons, List.length_nil, List.length_map]; omega), bind_some', u16_any]
 unfold pack_Out_Bytes
 rw [bif_decT (by rw [room_val]; simp only [List.length_append, bytesN_len, hl, List.length_cons, List.length_nil, List.length_map]; omega)]
 rfl
theorem idx_none {t : ApiTable} (h : chkS t = 0) : firstF (idxE t) 0 t.Indexes = none := by
 unfold chkS at h
 by_cases h1 : nameS t.Name = false
 ·rw [if_pos h1] at h; cases h
 rw [if_neg h1] at h
 by_cases h2 : t.Cols.length < 1 ∨ t.Cols.length > 24
 ·rw [if_pos h2] at h; cases h
 rw [if_neg h2] at h
 cases h3 : firstF (colE t.Cols) 0 t.Cols with
 | some e =>
  rw [h3] at h
  exfalso
  have : ∀ (l : List ApiColumn) (i : Nat) (e : Int), firstF (colE t.Cols) i l = some e → e ≠ 0 := by
   intro l
   induction l with
   | nil => intro i e h; cases h
   | cons x r ih =>
    intro i e h
    rw [firstF] at h
    cases hx : colE t.Cols i x with
    | none => rw [hx] at h; exact ih _ _ h
    | some e' =>
     rw [hx] at h
     cases h
     unfold colE at hx
     by_cases q : colS x = 0
     ·rw [if_neg (by simpa using q)] at hx
      by_cases q2 : ((t.Cols.take i).any fun d => d.Name == x.Name) = true
      ·rw [if_pos q2] at hx; cases hx; decide
      ·rw [if_neg q2] at hx; cases hx
     ·rw [if_pos q] at hx; cases hx; exact q
  exact this _ _ _ h3 h
 | none =>
 rw [h3] at h
 simp only at h
 by_cases h4 : t.Primary.length < 1 ∨ t.Primary.length > 4 ∨ placesS t.Cols.length t.Primary = false
 ·rw [if_pos h4] at h; cases h
 rw [if_neg h4] at h
 by_cases h5 : (t.Primary.any fun c => (colAt t.Cols c).Nulls) = true
 ·rw [if_pos h5] at h; cases h
 rw [if_neg h5] at h
 by_cases h6 : rowMaxS t.Cols > 512 ∨ keyMaxS t.Cols (upS t.Primary) > 128 ∨ t.Indexes.length > 6
 ·rw [if_pos h6] at h; cases h
 rw [if_neg h6] at h
 cases h7 : firstF (idxE t) 0 t.Indexes with
 | none => rfl
 | some e =>
  rw [h7] at h
  exfalso
  have : ∀ (l : List ApiIndex) (i : Nat) (e : Int), firstF (idxE t) i l = some e → e ≠ 0 := by
   intro l
   induction l with
   | nil => intro i e h; cases h
   | cons x r ih =>
    intro i e h
    rw [firstF] at h
    cases hx : idxE t i x with
    | none => rw [hx] at h; exact ih _ _ h
    | some e' =>
     rw [hx] at h
     cases h
     unfold idxE at hx
     by_cases q : nameS x.Name = false
     ·rw [if_pos q] at hx; cases hx; decide
     rw [if_neg q] at hx
     by_cases q2 : ((t.Indexes.take i).any fun y => y.Name == x.Name) = true
     ·rw [if_pos q2] at hx; cases hx; decide
     rw [if_neg q2] at hx
     by_cases q3 : indexS t x = 0
     ·rw [if_neg (by simpa using q3)] at hx; cases hx
     ·rw [if_pos q3] at hx; cases hx; exact q3
  exact this _ _ _ h7 h
theorem name_short {s : List UInt8} (h : nameS s = true) : s.length ≤ 16 := by
 cases s with
 | nil => simp
 | cons c r =>
  simp only [nameS, Bool.and_eq_true, decide_eq_true_eq] at h
  simp; omega
theorem idx_names {t : ApiTable} (h : chkS t = 0) : ∀ x ∈ t.Indexes, x.Name.length ≤ 16 := by
 intro x hx
 obtain ⟨i, hi, rfl⟩ := List.mem_iff_getElem.1 hx
 have h7 := idx_none h
 rw [firstF_none] at h7
 have := h7 i hi
 unfold idxE at this
 by_cases q : nameS t.Indexes[i].Name = false
 ·rw [if_pos q] at this; cases this
 ·exact name_short (by simpa using q)
def treeS (n : Int) : Bool := decide (1 ≤ n ∧ n ≤ 65535)
theorem right1_eq (n : Int) : catalog_right_1 n = some (treeS n) := by
 unfold catalog_right_1 treeS
 refine bo (a := decide (1 ≤ n ∧ n ≤ 65535)) ?_ rfl
 by_cases k : n ≥ 1
 ·rw [bif_decT k]; congr 1; exact decI (by omega)
 ·rw [bif_decF k]; congr 1; exact (decide_eq_false (by omega)).symm
def badX (x : ApiIndex) : Bool := !treeS x.Tree
theorem contains18_eq (l : List ApiIndex) (h : l.length < 4611686018427387904) : slices_ContainsFunc_api_Index_api_Index_1 l = some (l.any badX) := by
  unfold slices_ContainsFunc_api_Index_api_Index_1 slices_IndexFunc_api_Index_api_Index_2
  have key := loop_search (W := Unit ⊕ Int) (B := fun y78 : Int =>
        bif (decide (y78 < (l.length : Int))) then
          Option.bind (getI l y78) fun v85 =>
          Option.bind (catalog_right_2 v85) fun r87 =>
          bif r87 then
            some (Sum.inr (Sum.inr y78))
          else
            some (Sum.inl (w64 (y78 + (1 : Int))))
        else
          some (Sum.inr (Sum.inl ()))) l badX (fun i => .inr (i : Int)) (.inl ()) (fun i hi => by
    rw [bif_decT (by omega), getI_at hi, bind_some']
    unfold catalog_right_2
    rw [right1_eq, bind_some', bind_some', w64_succ (by omega)]
    show (bif badX l[i] then _ else _) = _
    cases badX l[i] <;> rfl) (by rw [bif_decF (by omega)])
  rcases key with ⟨ha, i, hi, _, e⟩ | ⟨ha, e⟩
  · rw [e, ha]
    show Option.bind (some (i : Int)) _ = _
    rw [bind_some']
    exact congrArg some (decide_eq_true (by omega))
  · rw [e, ha]
    rfl
def okS (t : ApiTable) : Bool := decide (chkS t = 0) && (treeS t.Tree && !(t.Indexes.any badX))
theorem right_eq (t : ApiTable) (h : OkT t) (hy : ∀ x ∈ t.Indexes, OkY x) : catalog_right t = some (okS t) := by
 unfold catalog_right okS
 rw [schema_Check_eq t h hy]
 refine bo (a := decide (chkS t = 0) && (treeS t.Tree && !(t.Indexes.any badX))) ?_ rfl
 rw [bind_some']
 by_cases k : chkS t = 0
 ·rw [show (chkS t == 0) = true by simpa using k, cond_true, right1_eq, bind_some', decide_eq_true k, Bool.true_and]
  cases treeS t.Tree with
  | false => rfl
  | true => rw [cond_true, contains18_eq _ h.idxs]; rfl
 ·rw [show (chkS t == 0) = false by simpa using k, cond_false, decide_eq_false k]; rfl
def cK (t : ApiTable) (k : UInt8) (i : Int) : List UInt8 := (([116] : List UInt8) ++ t.Name) ++ [(0 : UInt8), k, u8i i]
def headV (t : ApiTable) : List UInt8 := (((bytesN (u64i t.Tree) 2 ++ [u8i t.Cols.length]) ++ [u8i t.Primary.length]) ++ t.Primary.map u8i) ++ [u8i t.Indexes.length]
def colP (t : ApiTable) (i : Nat) : List ApiPair := (List.range i).map fun (j : Nat) => ApiPair.mk (cK t 99 (j : Int)) (putC (t.Cols.getD j default))
def idxP (t : ApiTable) (i : Nat) : List ApiPair := (List.range i).map fun (j : Nat) => ApiPair.mk (cK t 105 (j : Int)) (putX (t.Indexes.getD j default))
def pairsS (t : ApiTable) : List ApiPair := ([ApiPair.mk (([116] : List UInt8) ++ t.Name) (headV t)] ++ colP t t.Cols.length) ++ idxP t t.Indexes.length
theorem colP_succ (t : ApiTable) (i : Nat) (hi : i < t.Cols.length) : colP t (i + 1) = colP t i ++ [ApiPair.mk (cK t 99 i) (putC t.Cols[i])] := by
 unfold colP
 rw [List.range_succ, List.map_append]
 simp [List.getD, hi]
theorem idxP_succ (t : ApiTable) (i : Nat) (hi : i < t.Indexes.length) : idxP t (i + 1) = idxP t i ++ [ApiPair.mk (cK t 105 i) (putX t.Indexes[i])] := by
 unfold idxP
 rw [List.range_succ, List.map_append]
 simp [List.getD, hi]
theorem colP_len (t : ApiTable) (i : Nat) : (colP t i).length = i := by simp [colP]
theorem idxP_len (t : ApiTable) (i : Nat) : (idxP t i).length = i := by simp [idxP]
structure RightN (t : ApiTable) : Prop where
 r : Right t
 cn : ∀ c ∈ t.Cols, c.Name.length ≤ 16 ∧ c.Default.S.length ≤ 64
 xn : ∀ x ∈ t.Indexes, x.Name.length ≤ 16 ∧ x.Parts.length ≤ 4 ∧ x.Extra.length ≤ 24
theorem RightN.of {t : ApiTable} (h : chkS t = 0) : RightN t := by
 have r := Right.of h
 refine ⟨r, fun c hc => ?_, fun x hx => ?_⟩
 ·obtain ⟨k1, _, _, _, k5⟩ := colS_ok (r.col c hc)
  exact ⟨name_short k1, val_short (fitS_ok k5).1⟩
 ·have rx := RightX.of (r.idx x hx)
  have := nodup_len rx.ext
  have := r.len
  exact ⟨idx_names h x hx, rx.par.2, by omega⟩
theorem Pairs_eq (t : ApiTable) (h : OkT t) (hy : ∀ x ∈ t.Indexes, OkY x) : catalog_Pairs t = some (if okS t = true then (pairsS t, 0) else ([], 1)) := by
 unfold catalog_Pairs
 rw [right_eq t h hy, bind_some']
 by_cases ho : okS t = true
 rotate_left
 ·rw [if_neg ho, show okS t = false by simpa using ho]; rfl
 rw [if_pos ho, ho, Bool.not_true, cond_false]
 have hc : chkS t = 0 := by
  simp only [okS, Bool.and_eq_true, decide_eq_true_eq] at ho
  exact ho.1
 have R := RightN.of hc
 have l1 := R.r.len
 have l2 := R.r.pri
 have l3 := R.r.ixs
 have hn := h.name
 rw [U16_1_eq, bind_some', put8_eq _ _ (by simp), bind_some', u16_any, places18_eq _ _ (by omega) (by simp [bytesN_len]), bind_some', put8_eq _ _ (by simp [bytesN_len]; omega), bind_some', bif_decT (by simp; omega)]
 unfold pack_Out_Bytes
 rw [bif_decT (by rw [room_val]; simp [bytesN_len]; omega), bind_some']
 have sub : ∀ (k : UInt8) (i : Int), catalog_sub t.Name k i = some () := by
  intro k i
  unfold catalog_sub
  rw [bif_decT (by simp; omega), bif_decT (by simp; omega)]
 refine lpA (w := [ApiPair.mk (([116] : List UInt8) ++ t.Name) (headV t)] ++ colP t t.Cols.length) (lq1 (fun i => ([ApiPair.mk (([116] : List UInt8) ++ t.Name) (headV t)] ++ colP t i, (i : Int))) t.Cols.length (fun i hi => ?_) ?_ (by rw [show colP t 0 = [] from rfl, List.append_nil]; rfl)) ?_
 ·have cn := R.cn _ (List.getElem_mem hi)
  show (bif _ then _ else _) = _
  rw [bif_decT (by omega), getI_at hi, bind_some', sub, bind_some', putColumn_eq _ (by omega) (by omega), bind_some', bif_decT (by rw [room_val]; simp [colP_len]; omega), w64_succ (by omega), colP_succ _ _ hi, ← List.append_assoc]
  rfl
 ·show (bif _ then _ else _) = _
  rw [bif_decF (by omega)]
 refine lpA (w := pairsS t) (lq1 (fun i => (([ApiPair.mk (([116] : List UInt8) ++ t.Name) (headV t)] ++ colP t t.Cols.length) ++ idxP t i, (i : Int))) t.Indexes.length (fun i hi => ?_) ?_ ?_) rfl
 ·have xn := R.xn _ (List.getElem_mem hi)
  show (bif _ then _ else _) = _
  rw [bif_decT (by omega), getI_at hi, bind_some', sub, bind_some', putIndex_eq _ (by omega) (by omega) (by omega), bind_some', bif_decT (by rw [room_val]; simp [colP_len, idxP_len]; omega), w64_succ (by omega), idxP_succ _ _ hi, ← List.append_assoc]
  rfl
 ·show (bif _ then _ else _) = _
  rw [bif_decF (by omega)]
  rfl
 ·show (_ ++ [], _) = _
  rw [List.append_nil]
  rfl
abbrev Dec (α : Type) := List UInt8 → Option (α × List UInt8)
def dec1 : Dec Int
 | [] => none
 | b :: r => some ((b.toNat : Int), r)
def decF : Dec Bool
 | [] => none
 | b :: r => if 1 < b then none else some (b == 1, r)
def decN (k : Nat) : Dec UInt64 := fun s => if s.length < k then none else some (num (s.take k), s.drop k)
def dec2 : Dec Int := fun s => Option.bind (decN 2 s) fun (v, r) => some ((v.toUInt16.toNat : Int), r)
def decT : Dec (List UInt8)
 | a :: b :: r => if r.length < a.toNat * 256 + b.toNat then none else some (r.take (a.toNat * 256 + b.toNat), r.drop (a.toNat * 256 + b.toNat))
 | _ => none
def decL {α : Type} (d : Dec α) : Nat → Dec (List α)
 | 0 => fun s => some ([], s)
 | n + 1 => fun s => Option.bind (d s) fun (x, r) => Option.bind (decL d n r) fun (l, r) => some (x :: l, r)
def decP : Dec ApiPart := fun s => Option.bind (dec1 s) fun (c, r) => Option.bind (decF r) fun (f, r) => some (⟨c, f⟩, r)
def decIs : Dec (List Int) := fun s => Option.bind (dec1 s) fun (n, r) => decL dec1 n.toNat r
def decC : Dec ApiColumn := fun s => Option.bind (decT s) fun (n, r) => Option.bind (dec1 r) fun (k, r) => Option.bind (dec1 r) fun (m, r) => Option.bind (decF r) fun (f, r) =>
 Option.bind (dec1 r) fun (k2, r) => Option.bind (decN 8 r) fun (v, r) => Option.bind (decT r) fun (t, r) => some (⟨n, k, m, f, ⟨k2, v, t⟩⟩, r)
def decX : Dec ApiIndex := fun s => Option.bind (decT s) fun (n, r) => Option.bind (dec1 r) fun (k, r) => Option.bind (decL decP k.toNat r) fun (ps, r) => Option.bind (decIs r) fun (es, r) =>
 Option.bind (decF r) fun (u, r) => Option.bind (decF r) fun (y, r) => Option.bind (dec2 r) fun (t, r) => some (⟨n, ps, es, u, y, t⟩, r)
def SimG {α ρ : Type} (π : ρ → α × Nat × Nat × Bool) (p : List UInt8) (bad : Bool) (r : Option ρ) (d : Option (α × List UInt8)) : Prop :=
 ∃ y, r = some y ∧ (π y).2.1 + (π y).2.2.1 = p.length ∧ (bad = true → (π y).2.2.2 = true) ∧ (bad = false → (d = some ((π y).1, p.drop (π y).2.1) ∧ (π y).2.2.2 = false) ∨ (d = none ∧ (π y).2.2.2 = true))
theorem SimG.bind {α β ρ σ : Type} {π : ρ → α × Nat × Nat × Bool} {π' : σ → β × Nat × Nat × Bool} {p : List UInt8} {bad : Bool} {r : Option ρ} {d : Option (α × List UInt8)} {f : ρ → Option σ} {e : α × List UInt8 → Option (β × List UInt8)}
  (h : SimG π p bad r d) (k : ∀ y, (π y).2.1 + (π y).2.2.1 = p.length → SimG π' p (π y).2.2.2 (f y) (e ((π y).1, p.drop (π y).2.1))) : SimG π' p bad (Option.bind r f) (Option.bind d e) := by
 obtain ⟨y, rfl, h1, h2, h3⟩ := h
 obtain ⟨z, hz, k1, k2, k3⟩ := k y h1
 refine ⟨z, hz, k1, fun hb => k2 (h2 hb), fun hb => ?_⟩
 rcases h3 hb with ⟨rfl, q⟩ | ⟨rfl, q⟩
 ·exact k3 q
 ·exact .inr ⟨rfl, k2 q⟩
theorem SimG.ret {α ρ : Type} {π : ρ → α × Nat × Nat × Bool} {p : List UInt8} {bad : Bool} {y : ρ} {x : α} {off len : Nat} (h : π y = (x, off, len, bad)) (hl : off + len = p.length) : SimG π p bad (some y) (some (x, p.drop off)) := by
 refine ⟨y, rfl, by rw [h]; exact hl, fun hb => by rw [h]; exact hb, fun hb => .inl ⟨by rw [h], by rw [h]; exact hb⟩⟩
abbrev P0 {α : Type} : α × Nat × Nat × Bool → α × Nat × Nat × Bool := fun y => y
abbrev P1 {α : Type} : Nat × Nat × Bool × α → α × Nat × Nat × Bool := fun y => (y.2.2.2, y.1, y.2.1, y.2.2.1)
theorem num_sim (p : List UInt8) (hp : p.length < 1073741824) (k off len : Nat) (bad : Bool) (h : off + len = p.length) (hk : k < 100) : SimG P0 p bad (pack_In_number_1 (k : Int) p off len bad) (decN k (p.drop off)) := by
 rw [number_1_eq p k off len bad (by omega) (by omega) hk]
 unfold decN
 cases bad with
 | true => rw [if_pos (.inl rfl)]; exact ⟨_, rfl, h, fun _ => rfl, fun hb => (by cases hb)⟩
 | false =>
  by_cases q : len < k
  ·rw [if_pos (.inr q), if_pos (by simp; omega)]
   exact ⟨_, rfl, h, fun _ => rfl, fun _ => .inr ⟨rfl, rfl⟩⟩
  ·rw [if_neg (by simp; omega), if_neg (by simp; omega)]
   exact ⟨_, rfl, (by show off + k + (len - k) = _; omega), fun hb => (by cases hb), fun _ => .inl ⟨by rw [List.drop_drop], rfl⟩⟩
theorem decN_one (s : List UInt8) : decN 1 s = (match s with | [] => none | b :: r => some (b.toUInt64, r)) := by
 unfold decN
 cases s with
 | nil => rfl
 | cons b r =>
  rw [if_neg (by simp)]
  show some (num [b], r) = _
  rw [num_one]
theorem u8_back (b : UInt8) : b.toUInt64.toUInt8 = b := by rw [← UInt8.toNat_inj]; simp
theorem dec1_eq (s : List UInt8) : dec1 s = Option.bind (decN 1 s) fun y => some (((y.1.toUInt8).toNat : Int), y.2) := by
 rw [decN_one]
 cases s with
 | nil => rfl
 | cons b r =>
  show some ((b.toNat : Int), r) = some ((b.toUInt64.toUInt8.toNat : Int), r)
  rw [u8_back]
theorem u8_sim (p : List UInt8) (hp : p.length < 1073741824) (off len : Nat) (bad : Bool) (h : off + len = p.length) : SimG P0 p bad (pack_In_U8 p off len bad) (Option.bind (decN 1 (p.drop off)) fun y => some (y.1.toUInt8, y.2)) := by
 unfold pack_In_U8
 exact SimG.bind (num_sim p hp 1 off len bad h (by omega)) fun ⟨x, o, l, b⟩ q => SimG.ret rfl q
theorem place_sim (p : List UInt8) (hp : p.length < 1073741824) (off len : Nat) (bad : Bool) (h : off + len = p.length) : SimG P0 p bad (catalog_taker_place_1 p off len bad) (dec1 (p.drop off)) := by
 have e : dec1 (p.drop off) = Option.bind (Option.bind (decN 1 (p.drop off)) fun y => some (y.1.toUInt8, y.2)) fun y => some ((y.1.toNat : Int), y.2) := by
  rw [dec1_eq]
  cases decN 1 (p.drop off) <;> rfl
 rw [e]
 unfold catalog_taker_place_1
 exact SimG.bind (u8_sim p hp off len bad h) fun ⟨x, o, l, b⟩ q => SimG.ret rfl q
theorem flag_sim (p : List UInt8) (hp : p.length < 1073741824) (off len : Nat) (bad : Bool) (h : off + len = p.length) : SimG P0 p bad (pack_In_Flag_1 p off len bad) (decF (p.drop off)) := by
 unfold pack_In_Flag_1
 cases hd : p.drop off with
 | nil =>
  have hl : len = 0 := by
   have := congrArg List.length hd
   simp at this; omega
  subst hl
  obtain ⟨y, e1, e2, e3, e4⟩ := num_sim p hp 1 off 0 bad h (by omega)
  rw [bif_decF (by omega), bind_some', cond_false, show pack_In_number_1 (1 : Int) p off 0 bad = some y from e1, bind_some']
  obtain ⟨x, o, l, b⟩ := y
  refine ⟨_, rfl, e2, e3, fun hb => ?_⟩
  rcases e4 hb with ⟨q, _⟩ | ⟨_, q⟩
  ·rw [hd] at q; cases q
  ·exact .inr ⟨rfl, q⟩
 | cons c r =>
  have lt := dr_lt hd
  rw [bif_decT (by omega), show getS p off len (0 : Int) = some c from dr_getS 0 hd (by omega), bind_some', bind_some']
  show SimG P0 p bad _ (if 1 < c then none else some (c == 1, r))
  by_cases q : 1 < c
  ·rw [decide_eq_true q, if_pos q]
   exact ⟨_, rfl, h, fun _ => rfl, fun _ => .inr ⟨rfl, rfl⟩⟩
  ·rw [decide_eq_false q, if_neg q, cond_false]
   obtain ⟨y, e1, e2, e3, e4⟩ := num_sim p hp 1 off len bad h (by omega)
   rw [show pack_In_number_1 (1 : Int) p off len bad = some y from e1, bind_some']
   obtain ⟨x, o, l, b⟩ := y
   refine ⟨_, rfl, e2, e3, fun hb => ?_⟩
   rcases e4 hb with ⟨q1, q2⟩ | ⟨q1, _⟩
   ·rw [hd, decN_one] at q1
    simp only [Option.some.injEq, Prod.mk.injEq] at q1
    obtain ⟨rfl, q3⟩ := q1
    refine .inl ⟨?_, q2⟩
    show some (c == 1, r) = some (c.toUInt64 == 1, List.drop o p)
    rw [q3]
    congr 2
    rw [Bool.eq_iff_iff, beq_iff_eq, beq_iff_eq, ← UInt8.toNat_inj, ← UInt64.toNat_inj]
    simp
   ·rw [hd, decN_one] at q1; cases q1
theorem orI_nat (x y : Nat) (hx : x < 4611686018427387904) (hy : y < 256) (h : x % 256 = 0) : orI (x : Int) (y : Int) = ((x + y : Nat) : Int) := by
 unfold orI
 have e1 : (BitVec.ofInt 64 (x : Int)).toNat = x := by rw [BitVec.toNat_ofInt]; omega
 have e2 : (BitVec.ofInt 64 (y : Int)).toNat = y := by rw [BitVec.toNat_ofInt]; omega
 rw [BitVec.toNat_or, e1, e2]
 obtain ⟨z, rfl⟩ : ∃ z, x = z * 256 := ⟨x / 256, by omega⟩
 have e : z * 256 = z <<< 8 := by rw [Nat.shiftLeft_eq]
 rw [e, ← Nat.shiftLeft_add_eq_or_of_lt (show y < 2 ^ 8 by omega), ← e]
 exact w64_id (by omega) (by omega)
theorem or256 (a b : UInt8) : orI (w64 ((a.toNat : Int) * 2 ^ min ((8 : UInt64).toNat : Int).toNat 64)) (b.toNat : Int) = ((a.toNat * 256 + b.toNat : Nat) : Int) := by
 have ha := a.toNat_lt
 have hb := b.toNat_lt
 have e : (2 : Int) ^ min ((8 : UInt64).toNat : Int).toNat 64 = 256 := by decide
 rw [e, w64_id (by omega) (by omega), show (a.toNat : Int) * 256 = ((a.toNat * 256 : Nat) : Int) by omega]
 exact orI_nat _ _ (by omega) (by omega) (by omega)
theorem dr_short {p : List UInt8} {off len : Nat} (h : off + len = p.length) : (p.drop off).length = len := by simp; omega
theorem text_sim (p : List UInt8) (hp : p.length < 1073741824) (off len : Nat) (bad : Bool) (h : off + len = p.length) : SimG P0 p bad (pack_In_Text p off len bad) (decT (p.drop off)) := by
 have hs := dr_short h
 unfold pack_In_Text
 cases bad with
 | true =>
  rw [cond_true, bind_some', cond_true]
  exact ⟨_, rfl, h, fun _ => rfl, fun hb => (by cases hb)⟩
 | false =>
 rw [cond_false]
 match hd : p.drop off with
 | [] =>
  rw [hd] at hs
  simp only [List.length_nil] at hs
  rw [bif_decT (by omega), bind_some', cond_true]
  exact ⟨_, rfl, h, fun _ => rfl, fun _ => .inr ⟨rfl, rfl⟩⟩
 | [x] =>
  rw [hd] at hs
  simp only [List.length_cons, List.length_nil] at hs
  rw [bif_decT (by omega), bind_some', cond_true]
  exact ⟨_, rfl, h, fun _ => rfl, fun _ => .inr ⟨rfl, rfl⟩⟩
 | a :: b :: r =>
  rw [hd] at hs
  simp only [List.length_cons] at hs
  have ha := a.toNat_lt
  have hb := b.toNat_lt
  have lg : pack_In_long p off len false = some ((a.toNat * 256 + b.toNat : Nat) : Int) := by
   unfold pack_In_long
   rw [show getS p off len (0 : Int) = some a from dr_getS 0 hd (by omega), bind_some', show getS p off len (1 : Int) = some b from dr_getS 1 (dr_next hd) (by omega), bind_some', or256]
  have h2 : p.drop (off + 2) = r := dr_next (dr_next hd)
  generalize hn : a.toNat * 256 + b.toNat = n at lg
  rw [bif_decF (by omega), lg, bind_some', w64_id (n := (2 : Int) + (n : Int)) (by omega) (by omega), bind_some']
  show SimG P0 p false _ (if r.length < a.toNat * 256 + b.toNat then none else some (r.take (a.toNat * 256 + b.toNat), r.drop (a.toNat * 256 + b.toNat)))
  rw [hn]
  by_cases q : r.length < n
  ·rw [bif_decT (by omega), if_pos q]
   exact ⟨_, rfl, h, fun _ => rfl, fun _ => .inr ⟨rfl, rfl⟩⟩
  ·rw [bif_decF (by omega), if_neg q, bind_some', w64_id (n := (2 : Int) + (n : Int)) (by omega) (by omega), show (2 : Int) + (n : Int) = ((2 + n : Nat) : Int) by omega, take1_rd _ _ _ _ (by omega), bind_some']
   show SimG P0 p false (bif _ then _ else _) _
   rw [bif_decT (by omega), show (2 : Int).toNat = 2 from rfl, bif_decT (by omega), h2, show 2 + n - 2 = n by omega]
   refine ⟨_, rfl, by show off + (2 + n) + (len - (2 + n)) = _; omega, fun hb => (by cases hb), fun _ => .inl ⟨?_, rfl⟩⟩
   show some (List.take n r, List.drop n r) = some (List.take n r, List.drop (off + (2 + n)) p)
   rw [← h2, List.drop_drop]
   congr 3
   omega
theorem list_sim {α : Type} (d : Dec α) (N : Nat) (p : List UInt8) {B : (List α × Int × Nat × Nat × Bool) → Option ((List α × Int × Nat × Nat × Bool) ⊕ (List α × Nat × Nat × Bool))}
  (he : ∀ (l : List α) (i o ln : Nat) (b : Bool), (N ≤ i ∨ b = true) → B (l, (i : Int), o, ln, b) = some (.inr (l, o, ln, b)))
  (hs : ∀ (l : List α) (i o ln : Nat), i < N → l.length = i → o + ln = p.length → ∃ x o' ln' b', B (l, (i : Int), o, ln, false) = some (.inl (l ++ [x], ((i + 1 : Nat) : Int), o', ln', b')) ∧ o' + ln' = p.length ∧ ((d (p.drop o) = some (x, p.drop o') ∧ b' = false) ∨ (d (p.drop o) = none ∧ b' = true))) :
  ∀ (k i : Nat) (l : List α) (o ln : Nat) (b : Bool), i + k = N → l.length = i → o + ln = p.length → SimG P0 p b (loop B (l, (i : Int), o, ln, b)) (Option.bind (decL d k (p.drop o)) fun y => some (l ++ y.1, y.2)) := by
 intro k
 induction k with
 | zero =>
  intro i l o ln b hi hl ho
  rw [loop_end (he l i o ln b (.inl (by omega)))]
  show SimG P0 p b (some (l, o, ln, b)) (some (l ++ [], p.drop o))
  rw [List.append_nil]
  exact SimG.ret rfl ho
 | succ k ih =>
  intro i l o ln b hi hl ho
  cases b with
  | true =>
   rw [loop_end (he l i o ln true (.inr rfl))]
   exact ⟨_, rfl, ho, fun _ => rfl, fun hb => (by cases hb)⟩
  | false =>
   obtain ⟨x, o', ln', b', e, h1, h2⟩ := hs l i o ln (by omega) hl ho
   rw [loop_step e]
   obtain ⟨y, e1, e2, e3, e4⟩ := ih (i + 1) (l ++ [x]) o' ln' b' (by omega) (by simp; omega) h1
   refine ⟨y, e1, e2, fun hb => (by cases hb), fun _ => ?_⟩
   rcases h2 with ⟨q1, rfl⟩ | ⟨q1, rfl⟩
   ·have : (Option.bind (decL d (k + 1) (p.drop o)) fun y => some (l ++ y.1, y.2)) = Option.bind (decL d k (p.drop o')) fun y => some ((l ++ [x]) ++ y.1, y.2) := by
     show Option.bind (Option.bind (d (p.drop o)) _) _ = _
     rw [q1, bind_some']
     show Option.bind (Option.bind (decL d k (p.drop o')) _) _ = _
     cases decL d k (p.drop o') with
     | none => rfl
     | some z => simp
    rw [this]
    exact e4 rfl
   ·right
    refine ⟨?_, e3 rfl⟩
    show Option.bind (Option.bind (d (p.drop o)) _) _ = _
    rw [q1]; rfl
theorem decL_ret {α : Type} (d : Option (List α × List UInt8)) : (Option.bind d fun y => some ([] ++ y.1, y.2)) = d := by cases d <;> rfl
theorem ints_sim (p : List UInt8) (hp : p.length < 1073741824) (N off len : Nat) (bad : Bool) (hN : N ≤ 1000) (h : off + len = p.length) : SimG P0 p bad (catalog_list_int_1 (N : Int) p off len bad) (decL dec1 N (p.drop off)) := by
  unfold catalog_list_int_1
  have key := list_sim dec1 N p (B := fun (y245, y246, y247, y248, y249) =>
        Option.bind (α := Bool)
          (bif (decide (y246 < (N : Int))) then
            Option.bind (pack_In_Bad p y247 y248 y249) fun _ =>
            some (!y249)
          else
            some false)
          fun y268 =>
        bif y268 then
          Option.bind (catalog_taker_place_1 p y247 y248 y249) fun (r272, r273, r274, r275) =>
          bif decide ((y245.length + [r272].length) * 8 ≤ room) then
          some (Sum.inl ((y245 ++ [r272]), (w64 (y246 + (1 : Int))), r273, r274, r275))
          else none
        else
          some (Sum.inr (y245, y247, y248, y249))) (fun l i o ln b hib => by
    show Option.bind (bif _ then _ else _) _ = _
    by_cases q : i < N
    · rcases hib with k | k
      · omega
      · rw [bif_decT (by omega), k]; rfl
    · rw [bif_decF (by omega)]; rfl) (fun l i o ln hi hl ho => by
    obtain ⟨y, e1, e2, e3, e4⟩ := place_sim p hp o ln false ho
    refine ⟨y.1, y.2.1, y.2.2.1, y.2.2.2, ?_, e2, e4 rfl⟩
    show Option.bind (bif _ then _ else _) _ = _
    rw [bif_decT (by omega)]
    show Option.bind (catalog_taker_place_1 p o ln false) _ = _
    rw [e1, bind_some']
    show (bif _ then _ else _) = _
    rw [bif_decT (by rw [room_val]; simp; omega), w64_succ (by omega)]) N 0 [] off len bad (by omega) rfl h
  rw [decL_ret] at key
  obtain ⟨y, e1, e2, e3, e4⟩ := key
  have e1' : loop _ (([] : List Int), (0 : Int), off, len, bad) = some y := e1
  exact ⟨y, by rw [e1']; rfl, e2, e3, e4⟩
theorem part_sim (p : List UInt8) (hp : p.length < 1073741824) (off len : Nat) (bad : Bool) (h : off + len = p.length) : SimG P1 p bad (catalog_taker_part p off len bad) (decP (p.drop off)) := by
 unfold catalog_taker_part decP
 exact SimG.bind (place_sim p hp off len bad h) fun ⟨x, o, l, b⟩ q => SimG.bind (flag_sim p hp o l b q) fun ⟨x, o, l, b⟩ q => SimG.ret rfl q
theorem parts_sim (p : List UInt8) (hp : p.length < 1073741824) (N off len : Nat) (bad : Bool) (hN : N ≤ 1000) (h : off + len = p.length) : SimG P0 p bad (catalog_list_api_Part (N : Int) p off len bad) (decL decP N (p.drop off)) := by
  unfold catalog_list_api_Part
  have key := list_sim decP N p (B := fun (y245, y246, y247, y248, y249) =>
        Option.bind (α := Bool)
          (bif (decide (y246 < (N : Int))) then
            Option.bind (pack_In_Bad p y247 y248 y249) fun _ =>
            some (!y249)
          else
            some false)
          fun y268 =>
        bif y268 then
          Option.bind (catalog_taker_part p y247 y248 y249) fun (r272, r273, r274, r275) =>
          bif decide ((y245.length + [r275].length) * 16 ≤ room) then
          some (Sum.inl ((y245 ++ [r275]), (w64 (y246 + (1 : Int))), r272, r273, r274))
          else none
        else
          some (Sum.inr (y245, y247, y248, y249))) (fun l i o ln b hib => by
    show Option.bind (bif _ then _ else _) _ = _
    by_cases q : i < N
    · rcases hib with k | k
      · omega
      · rw [bif_decT (by omega), k]; rfl
    · rw [bif_decF (by omega)]; rfl) (fun l i o ln hi hl ho => by
    obtain ⟨y, e1, e2, e3, e4⟩ := part_sim p hp o ln false ho
    refine ⟨y.2.2.2, y.1, y.2.1, y.2.2.1, ?_, e2, e4 rfl⟩
    show Option.bind (bif _ then _ else _) _ = _
    rw [bif_decT (by omega)]
    show Option.bind (catalog_taker_part p o ln false) _ = _
    rw [e1, bind_some']
    show (bif _ then _ else _) = _
    rw [bif_decT (by rw [room_val]; simp; omega), w64_succ (by omega)]) N 0 [] off len bad (by omega) rfl h
  rw [decL_ret] at key
  obtain ⟨y, e1, e2, e3, e4⟩ := key
  have e1' : loop _ (([] : List ApiPart), (0 : Int), off, len, bad) = some y := e1
  exact ⟨y, by rw [e1']; rfl, e2, e3, e4⟩
theorem u64_sim (p : List UInt8) (hp : p.length < 1073741824) (off len : Nat) (bad : Bool) (h : off + len = p.length) : SimG P0 p bad (pack_In_U64 p off len bad) (decN 8 (p.drop off)) := by
 have e : decN 8 (p.drop off) = Option.bind (decN 8 (p.drop off)) fun y => some (y.1, y.2) := by cases decN 8 (p.drop off) <;> rfl
 rw [e]
 unfold pack_In_U64
 exact SimG.bind (num_sim p hp 8 off len bad h (by omega)) fun ⟨x, o, l, b⟩ q => SimG.ret rfl q
def d16 : Dec UInt16 := fun s => Option.bind (decN 2 s) fun y => some (y.1.toUInt16, y.2)
theorem u16_2_sim (p : List UInt8) (hp : p.length < 1073741824) (off len : Nat) (bad : Bool) (h : off + len = p.length) : SimG P0 p bad (pack_In_U16_2 p off len bad) (d16 (p.drop off)) := by
 unfold pack_In_U16_2 d16
 exact SimG.bind (num_sim p hp 2 off len bad h (by omega)) fun ⟨x, o, l, b⟩ q => SimG.ret rfl q
theorem dec2_16 (s : List UInt8) : dec2 s = Option.bind (d16 s) fun y => some ((y.1.toNat : Int), y.2) := by
 unfold dec2 d16
 cases decN 2 s <;> rfl
theorem dec1_rng {s : List UInt8} {x : Int} {r : List UInt8} (h : dec1 s = some (x, r)) : ∃ n : Nat, x = (n : Int) ∧ n < 256 := by
 cases s with
 | nil => cases h
 | cons b r' =>
  simp only [dec1, Option.some.injEq, Prod.mk.injEq] at h
  exact ⟨b.toNat, h.1.symm, b.toNat_lt⟩
theorem place_rng (p : List UInt8) (off len : Nat) (bad : Bool) (y : Int × Nat × Nat × Bool) (h : catalog_taker_place_1 p off len bad = some y) : ∃ n : Nat, y.1 = (n : Int) ∧ n < 256 := by
 unfold catalog_taker_place_1 at h
 cases hu : pack_In_U8 p off len bad with
 | none => rw [hu] at h; cases h
 | some z =>
  rw [hu, bind_some'] at h
  obtain ⟨x, o, l, b⟩ := z
  have := Option.some.inj h
  subst this
  exact ⟨x.toNat, rfl, x.toNat_lt⟩
theorem SimG.bindP {α β ρ σ : Type} {π : ρ → α × Nat × Nat × Bool} {π' : σ → β × Nat × Nat × Bool} {p : List UInt8} {bad : Bool} {r : Option ρ} {d : Option (α × List UInt8)} {f : ρ → Option σ} {e : α × List UInt8 → Option (β × List UInt8)}
  (h : SimG π p bad r d) (k : ∀ y, r = some y → (π y).2.1 + (π y).2.2.1 = p.length → SimG π' p (π y).2.2.2 (f y) (e ((π y).1, p.drop (π y).2.1))) : SimG π' p bad (Option.bind r f) (Option.bind d e) := by
 obtain ⟨y, rfl, h1, h2, h3⟩ := h
 obtain ⟨z, hz, k1, k2, k3⟩ := k y rfl h1
 refine ⟨z, hz, k1, fun hb => k2 (h2 hb), fun hb => ?_⟩
 rcases h3 hb with ⟨rfl, q⟩ | ⟨rfl, q⟩
 ·exact k3 q
 ·exact .inr ⟨rfl, k2 q⟩
theorem places_sim (p : List UInt8) (hp : p.length < 1073741824) (off len : Nat) (bad : Bool) (h : off + len = p.length) : SimG P0 p bad (catalog_taker_places_1 p off len bad) (decIs (p.drop off)) := by
 have e : decIs (p.drop off) = Option.bind (dec1 (p.drop off)) fun y => Option.bind (decL dec1 y.1.toNat y.2) fun z => some (z.1, z.2) := by
  unfold decIs
  cases dec1 (p.drop off) with
  | none => rfl
  | some y =>
   rw [bind_some', bind_some']
   show decL dec1 y.1.toNat y.2 = _
   cases decL dec1 y.1.toNat y.2 <;> rfl
 rw [e]
 unfold catalog_taker_places_1
 refine SimG.bindP (place_sim p hp off len bad h) fun y hy q => ?_
 obtain ⟨n, e, hn⟩ := place_rng p off len bad y hy
 obtain ⟨x, o, l, b⟩ := y
 simp only at e
 subst e
 refine SimG.bind (ints_sim p hp n o l b (by omega) q) fun ⟨x, o, l, b⟩ q => SimG.ret rfl q
theorem getI_S {α : Type} (p : List α) (i : Int) : getI p i = getS p 0 p.length i := by
 unfold getI getS
 by_cases h : 0 ≤ i
 ·by_cases h2 : i < (p.length : Int)
  ·rw [if_pos h, if_pos ⟨h, h2⟩, Nat.zero_add]
  ·rw [if_pos h, if_neg (fun k => h2 k.2)]
   exact List.getElem?_eq_none (by omega)
 ·rw [if_neg h, if_neg (fun k => h k.1)]
theorem fresh_take (n : Nat) (p : List UInt8) : (n ≤ p.length ∧ pack_In_take (n : Int) p false = some (n, 0 + n, p.length - n, false) ∧ pack_In_take_1 (n : Int) p 0 p.length false = some (0, n, 0 + n, p.length - n, false)) ∨ (p.length < n ∧ pack_In_take (n : Int) p false = some (0, 0, p.length, true) ∧ pack_In_take_1 (n : Int) p 0 p.length false = some (0, 0, 0, p.length, true)) := by
 unfold pack_In_take pack_In_take_1
 by_cases h : n ≤ p.length
 ·left
  refine ⟨h, ?_, ?_⟩
  ·rw [cond_false, bind_some', bif_decF (by omega), bif_decT (by omega), bif_decT (by omega)]; rfl
  ·rw [cond_false, bind_some', bif_decF (by omega), bif_decT (by omega), bif_decT (by omega)]; rfl
 ·right
  refine ⟨by omega, ?_, ?_⟩
  ·rw [cond_false, bind_some', bif_decT (by omega)]; rfl
  ·rw [cond_false, bind_some', bif_decT (by omega)]; rfl
theorem fresh_num (n : Nat) (p : List UInt8) : pack_In_number (n : Int) p false = pack_In_number_1 (n : Int) p 0 p.length false := by
 unfold pack_In_number pack_In_number_1
 rcases fresh_take n p with ⟨_, e1, e2⟩ | ⟨_, e1, e2⟩
 ·rw [e1, e2]; rfl
 ·rw [e1, e2]; rfl
theorem fresh_long (p : List UInt8) : pack_In_long_1 p false = pack_In_long p 0 p.length false := by
 unfold pack_In_long_1 pack_In_long
 rw [getI_S, getI_S]
theorem fresh_text (p : List UInt8) (hp : p.length < 1073741824) : pack_In_Text_1 p false = pack_In_Text p 0 p.length false := by
 unfold pack_In_Text_1 pack_In_Text
 rw [fresh_long]
 by_cases h2 : p.length < 2
 ·rw [bif_decT (by omega)]; rfl
 ·have ex : ∃ a b : UInt8, pack_In_long p 0 p.length false = some ((a.toNat * 256 + b.toNat : Nat) : Int) := by
   match p, h2 with
   | a :: b :: r, _ =>
    refine ⟨a, b, ?_⟩
    unfold pack_In_long
    rw [show getS (a :: b :: r) 0 (a :: b :: r).length (0 : Int) = some a from dr_getS 0 rfl (by simp), bind_some', show getS (a :: b :: r) 0 (a :: b :: r).length (1 : Int) = some b from dr_getS 1 rfl (by simp), bind_some', or256]
   | [], h2 => simp at h2
   | [a], h2 => simp at h2
  obtain ⟨a, b, e⟩ := ex
  have ha := a.toNat_lt
  have hb := b.toNat_lt
  generalize hn : a.toNat * 256 + b.toNat = n at e
  rw [e, bind_some', w64_id (n := (2 : Int) + (n : Int)) (by omega) (by omega), cond_false, bif_decF (by omega), bind_some']
  by_cases q : (p.length : Int) < 2 + (n : Int)
  ·rw [bif_decT q, bind_some', bind_some', bif_decT q]
  ·rw [bif_decF q, bind_some', bind_some', bif_decF q, bind_some', w64_id (n := (2 : Int) + (n : Int)) (by omega) (by omega), show (2 : Int) + (n : Int) = ((2 + n : Nat) : Int) by omega]
   rcases fresh_take (2 + n) p with ⟨_, e1, e2⟩ | ⟨_, e1, e2⟩
   ·rw [e1, e2]; rfl
   ·rw [e1, e2]; rfl
theorem u16_1_sim (p : List UInt8) (hp : p.length < 1073741824) : SimG P0 p false (pack_In_U16_1 p false) (d16 p) := by
 have e : d16 p = Option.bind (decN 2 (p.drop 0)) fun y => some (y.1.toUInt16, y.2) := rfl
 rw [e]
 unfold pack_In_U16_1
 rw [show pack_In_number (2 : Int) p false = _ from fresh_num 2 p]
 exact SimG.bind (num_sim p hp 2 0 p.length false (by omega) (by omega)) fun ⟨x, o, l, b⟩ q => SimG.ret rfl q
theorem column_sim (p : List UInt8) (hp : p.length < 1073741824) : SimG P1 p false (catalog_taker_column p false) (decC p) := by
 show SimG P1 p false _ (decC (p.drop 0))
 unfold catalog_taker_column decC
 rw [fresh_text p hp]
 exact SimG.bind (text_sim p hp 0 p.length false (by omega)) fun ⟨x, o, l, b⟩ q => SimG.bind (place_sim p hp o l b q) fun ⟨x, o, l, b⟩ q => SimG.bind (place_sim p hp o l b q) fun ⟨x, o, l, b⟩ q => SimG.bind (flag_sim p hp o l b q) fun ⟨x, o, l, b⟩ q =>
  SimG.bind (place_sim p hp o l b q) fun ⟨x, o, l, b⟩ q => SimG.bind (u64_sim p hp o l b q) fun ⟨x, o, l, b⟩ q => SimG.bind (text_sim p hp o l b q) fun ⟨x, o, l, b⟩ q => SimG.ret rfl q
theorem index_sim (p : List UInt8) (hp : p.length < 1073741824) : SimG P1 p false (catalog_taker_index p false) (decX p) := by
 show SimG P1 p false _ (decX (p.drop 0))
 unfold catalog_taker_index decX
 rw [fresh_text p hp]
 refine SimG.bind (text_sim p hp 0 p.length false (by omega)) fun ⟨x, o, l, b⟩ q => SimG.bindP (place_sim p hp o l b q) fun y hy q => ?_
 obtain ⟨n, e, hn⟩ := place_rng p o l b y hy
 obtain ⟨x, o, l, b⟩ := y
 simp only at e
 subst e
 refine SimG.bind (parts_sim p hp n o l b (by omega) q) fun ⟨x, o, l, b⟩ q => SimG.bind (places_sim p hp o l b q) fun ⟨x, o, l, b⟩ q => SimG.bind (flag_sim p hp o l b q) fun ⟨x, o, l, b⟩ q => SimG.bind (flag_sim p hp o l b q) fun ⟨x, o, l, b⟩ q => ?_
 show SimG P1 p b _ (Option.bind (dec2 (p.drop o)) _)
 rw [dec2_16]
 obtain ⟨y, e1, e2, e3, e4⟩ := u16_2_sim p hp o l b q
 obtain ⟨x, o, l, b'⟩ := y
 show SimG P1 p b (Option.bind (pack_In_U16_2 p _ _ b) _) _
 rw [e1, bind_some']
 refine ⟨_, rfl, e2, e3, fun hb => ?_⟩
 rcases e4 hb with ⟨q1, q2⟩ | ⟨q1, q2⟩
 ·rw [q1]; exact .inl ⟨rfl, q2⟩
 ·rw [q1]; exact .inr ⟨rfl, q2⟩
structure Codec {α : Type} (d : Dec α) (e : α → List UInt8) (ok : α → Prop) : Prop where
 rt : ∀ x r, ok x → d (e x ++ r) = some (x, r)
 ex : ∀ s x r, d s = some (x, r) → s = e x ++ r
theorem u8_nat (b : UInt8) : u8i (b.toNat : Int) = b := by
 unfold u8i
 rw [← UInt8.toNat_inj]
 have := b.toNat_lt
 simp
 omega
theorem cd1 : Codec dec1 (fun n => [u8i n]) (fun n => 0 ≤ n ∧ n < 256) where
 rt x r h := by
  obtain ⟨n, rfl⟩ := Int.eq_ofNat_of_zero_le h.1
  show some (((u8i (n : Int)).toNat : Int), r) = _
  have : (u8i (n : Int)).toNat = n := by
   unfold u8i
   simp
   omega
  rw [this]
 ex s x r h := by
  cases s with
  | nil => cases h
  | cons b r' =>
   simp only [dec1, Option.some.injEq, Prod.mk.injEq] at h
   obtain ⟨rfl, rfl⟩ := h
   simp [u8_nat]
theorem cdF : Codec decF (fun b => [fl b]) (fun _ => True) where
 rt x r _ := by cases x <;> rfl
 ex s x r h := by
  cases s with
  | nil => cases h
  | cons b r' =>
   have h : (if 1 < b then none else some (b == 1, r')) = some (x, r) := h
   by_cases q : 1 < b
   ·rw [if_pos q] at h; cases h
   ·rw [if_neg q] at h
    simp only [Option.some.injEq, Prod.mk.injEq] at h
    obtain ⟨rfl, rfl⟩ := h
    have : b = 0 ∨ b = 1 := by
     rw [UInt8.lt_iff_toNat_lt] at q
     have e1 : (1 : UInt8).toNat = 1 := rfl
     rw [e1] at q
     rcases Nat.lt_or_ge b.toNat 1 with k | k
     ·exact .inl (UInt8.toNat_inj.1 (by simp; omega))
     ·exact .inr (UInt8.toNat_inj.1 (by simp; omega))
    rcases this with rfl | rfl <;> rfl
theorem natB2 (a b : UInt8) : (num [a, b]).toNat = a.toNat * 256 + b.toNat := by
 have ha := a.toNat_lt
 have hb := b.toNat_lt
 unfold num
 rw [num_cons_aux]
 simp
 omega
theorem two_bytes (n : UInt64) : bytesN n 2 = [UInt8.ofNat (n.toNat / 256), UInt8.ofNat n.toNat] := by
 show [UInt8.ofNat (n.toNat / 2 ^ (8 * 1)), UInt8.ofNat (n.toNat / 2 ^ (8 * 0))] = _
 simp
theorem cd2 : Codec dec2 (fun n => bytesN (u64i n) 2) (fun n => 0 ≤ n ∧ n < 65536) where
 rt x r h := by
  obtain ⟨n, rfl⟩ := Int.eq_ofNat_of_zero_le h.1
  have hn : (u64i (n : Int)).toNat = n := by
   unfold u64i
   rw [UInt64.toNat_ofNat']
   omega
  rw [two_bytes, hn]
  unfold dec2 decN
  rw [if_neg (by simp)]
  show some (((num [UInt8.ofNat (n / 256), UInt8.ofNat n]).toUInt16.toNat : Int), r) = _
  have : (num [UInt8.ofNat (n / 256), UInt8.ofNat n]).toUInt16.toNat = n := by
   have := natB2 (UInt8.ofNat (n / 256)) (UInt8.ofNat n)
   simp at this ⊢
   omega
  rw [this]
 ex s x r h := by
  match s with
  | [] => cases h
  | [a] => cases h
  | a :: b :: t =>
   unfold dec2 decN at h
   rw [if_neg (by simp)] at h
   have h' := Option.some.inj h
   simp only [Prod.mk.injEq] at h'
   obtain ⟨rfl, rfl⟩ := h'
   have ha := a.toNat_lt
   have hb := b.toNat_lt
   have hn := natB2 a b
   show a :: b :: t = bytesN (u64i ((num [a, b]).toUInt16.toNat : Int)) 2 ++ t
   have e : (u64i ((num [a, b]).toUInt16.toNat : Int)).toNat = a.toNat * 256 + b.toNat := by
    unfold u64i
    rw [UInt64.toNat_ofNat']
    simp
    omega
   rw [two_bytes, e]
   have e1 : UInt8.ofNat ((a.toNat * 256 + b.toNat) / 256) = a := by
    rw [← UInt8.toNat_inj]; simp; omega
   have e2 : UInt8.ofNat (a.toNat * 256 + b.toNat) = b := by
    rw [← UInt8.toNat_inj]; simp
   rw [e1, e2]; rfl
theorem cdT : Codec decT (fun s => bytesN (u64i s.length) 2 ++ s) (fun s => s.length < 65536) where
 rt x r h := by
  have hn : (u64i (x.length : Int)).toNat = x.length := by
   unfold u64i
   rw [UInt64.toNat_ofNat']
   omega
  rw [two_bytes, hn]
  show (if (x ++ r).length < (UInt8.ofNat (x.length / 256)).toNat * 256 + (UInt8.ofNat x.length).toNat then none else some ((x ++ r).take ((UInt8.ofNat (x.length / 256)).toNat * 256 + (UInt8.ofNat x.length).toNat), (x ++ r).drop ((UInt8.ofNat (x.length / 256)).toNat * 256 + (UInt8.ofNat x.length).toNat))) = _
  have : (UInt8.ofNat (x.length / 256)).toNat * 256 + (UInt8.ofNat x.length).toNat = x.length := by simp; omega
  rw [this, if_neg (by simp), List.take_left, List.drop_left]
 ex s x r h := by
  match s with
  | [] => cases h
  | [a] => cases h
  | a :: b :: t =>
   have h : (if t.length < a.toNat * 256 + b.toNat then none else some (t.take (a.toNat * 256 + b.toNat), t.drop (a.toNat * 256 + b.toNat))) = some (x, r) := h
   have ha := a.toNat_lt
   have hb := b.toNat_lt
   by_cases q : t.length < a.toNat * 256 + b.toNat
   ·rw [if_pos q] at h; cases h
   ·rw [if_neg q] at h
    have h' := Option.some.inj h
    simp only [Prod.mk.injEq] at h'
    obtain ⟨rfl, rfl⟩ := h'
    have hl : (t.take (a.toNat * 256 + b.toNat)).length = a.toNat * 256 + b.toNat := by simp; omega
    show a :: b :: t = (bytesN (u64i ((t.take (a.toNat * 256 + b.toNat)).length : Int)) 2 ++ t.take (a.toNat * 256 + b.toNat)) ++ t.drop (a.toNat * 256 + b.toNat)
    have e : (u64i ((a.toNat * 256 + b.toNat : Nat) : Int)).toNat = a.toNat * 256 + b.toNat := by
     unfold u64i
     rw [UInt64.toNat_ofNat']
     omega
    rw [hl, two_bytes, e, List.append_assoc, List.take_append_drop]
    have e1 : UInt8.ofNat ((a.toNat * 256 + b.toNat) / 256) = a := by
     rw [← UInt8.toNat_inj]; simp; omega
    have e2 : UInt8.ofNat (a.toNat * 256 + b.toNat) = b := by
     rw [← UInt8.toNat_inj]; simp
    rw [e1, e2]; rfl
theorem bytes8_num' (l : List UInt8) (h : l.length = 8) : bytesN (num l) 8 = l := by
 match l, h with
 | [a, b, c, d, e, f, g, i], _ =>
  have ha := a.toNat_lt
  have hb := b.toNat_lt
  have hc := c.toNat_lt
  have hd := d.toNat_lt
  have he := e.toNat_lt
  have hf := f.toNat_lt
  have hg := g.toNat_lt
  have hi := i.toNat_lt
  have hn : (num [a, b, c, d, e, f, g, i]).toNat = ((((((a.toNat * 256 + b.toNat) * 256 + c.toNat) * 256 + d.toNat) * 256 + e.toNat) * 256 + f.toNat) * 256 + g.toNat) * 256 + i.toNat := by
   unfold num
   rw [num_cons_aux]
   simp
   omega
  simp only [bytesN, hn]
  have back : ∀ (x : UInt8) (n : Nat), n % 256 = x.toNat → UInt8.ofNat n = x := by
   intro x n h
   rw [← UInt8.toNat_inj]; simp; omega
  rw [back a _ (by omega), back b _ (by omega), back c _ (by omega), back d _ (by omega), back e _ (by omega), back f _ (by omega), back g _ (by omega), back i _ (by omega)]
theorem cd8 : Codec (decN 8) (fun n => bytesN n 8) (fun _ => True) where
 rt x r _ := by
  unfold decN
  have hl := bytesN_len x 8
  rw [if_neg (by rw [List.length_append, hl]; omega), List.take_left' hl, List.drop_left' hl, num_bytes8]
 ex s x r h := by
  unfold decN at h
  by_cases q : s.length < 8
  ·rw [if_pos q] at h; cases h
  ·rw [if_neg q] at h
   have h' := Option.some.inj h
   simp only [Prod.mk.injEq] at h'
   obtain ⟨rfl, rfl⟩ := h'
   show s = bytesN (num (s.take 8)) 8 ++ s.drop 8
   rw [bytes8_num' _ (by simp; omega), List.take_append_drop]
theorem decL_len {α : Type} {d : Dec α} : ∀ (n : Nat) (s : List UInt8) (l : List α) (r : List UInt8), decL d n s = some (l, r) → l.length = n
 | 0, s, l, r, h => by
  have h' := Option.some.inj h
  simp only [Prod.mk.injEq] at h'
  rw [← h'.1]; rfl
 | n + 1, s, l, r, h => by
  unfold decL at h
  cases hd : d s with
  | none => rw [hd] at h; cases h
  | some y =>
   rw [hd, bind_some'] at h
   obtain ⟨x, r1⟩ := y
   have h2 : Option.bind (decL d n r1) (fun (l, r) => some (x :: l, r)) = some (l, r) := h
   cases hd2 : decL d n r1 with
   | none => rw [hd2] at h2; cases h2
   | some z =>
    rw [hd2, bind_some'] at h2
    obtain ⟨l2, r2⟩ := z
    have h' := Option.some.inj h2
    simp only [Prod.mk.injEq] at h'
    rw [← h'.1, List.length_cons, decL_len n r1 l2 r2 hd2]
theorem cdL {α : Type} {d : Dec α} {e : α → List UInt8} {ok : α → Prop} (c : Codec d e ok) (n : Nat) : Codec (decL d n) (fun l => (l.map e).flatten) (fun l => l.length = n ∧ ∀ x ∈ l, ok x) where
 rt l := by
  induction n generalizing l with
  | zero =>
   intro r h
   have : l = [] := List.length_eq_zero_iff.1 h.1
   subst this; rfl
  | succ n ih =>
   intro r h
   cases l with
   | nil => simp at h
   | cons x l =>
    show Option.bind (d (((x :: l).map e).flatten ++ r)) _ = _
    rw [List.map_cons, List.flatten_cons, List.append_assoc, c.rt x _ (h.2 x (by simp)), bind_some']
    show Option.bind (decL d n _) _ = _
    rw [ih l r ⟨by simpa using h.1, fun y hy => h.2 y (by simp [hy])⟩, bind_some']
 ex s := by
  induction n generalizing s with
  | zero =>
   intro l r h
   have h' := Option.some.inj h
   simp only [Prod.mk.injEq] at h'
   obtain ⟨rfl, rfl⟩ := h'
   rfl
  | succ n ih =>
   intro l r h
   unfold decL at h
   cases hd : d s with
   | none => rw [hd] at h; cases h
   | some y =>
    rw [hd, bind_some'] at h
    obtain ⟨x, r1⟩ := y
    have h2 : Option.bind (decL d n r1) (fun (l, r) => some (x :: l, r)) = some (l, r) := h
    cases hd2 : decL d n r1 with
    | none => rw [hd2] at h2; cases h2
    | some z =>
     rw [hd2, bind_some'] at h2
     obtain ⟨l2, r2⟩ := z
     have h' := Option.some.inj h2
     simp only [Prod.mk.injEq] at h'
     obtain ⟨rfl, rfl⟩ := h'
     rw [c.ex _ _ _ hd, ih _ _ _ hd2]
     simp
def BC (c : ApiColumn) : Prop := c.Name.length < 65536 ∧ (0 ≤ c.Kind ∧ c.Kind < 256) ∧ (0 ≤ c.Max ∧ c.Max < 256) ∧ (0 ≤ c.Default.Kind ∧ c.Default.Kind < 256) ∧ c.Default.S.length < 65536
theorem cdC : Codec decC putC BC where
 rt c r h := by
  obtain ⟨h1, h2, h3, h4, h5⟩ := h
  have e : putC c ++ r = (bytesN (u64i c.Name.length) 2 ++ c.Name) ++ ([u8i c.Kind] ++ ([u8i c.Max] ++ ([fl c.Nulls] ++ ([u8i c.Default.Kind] ++ (bytesN c.Default.N 8 ++ ((bytesN (u64i c.Default.S.length) 2 ++ c.Default.S) ++ r)))))) := by
   unfold putC
   simp only [List.append_assoc]
  rw [e]
  unfold decC
  refine bo (cdT.rt _ _ h1) (bo (cd1.rt _ _ h2) (bo (cd1.rt _ _ h3) (bo (cdF.rt _ _ trivial) (bo (cd1.rt _ _ h4) (bo (cd8.rt _ _ trivial) (bo (cdT.rt _ _ h5) rfl))))))
 ex s c r h := by
  unfold decC at h
  obtain ⟨⟨a1, s1⟩, e1, h⟩ := ob h
  obtain ⟨⟨a2, s2⟩, e2, h⟩ := ob h
  obtain ⟨⟨a3, s3⟩, e3, h⟩ := ob h
  obtain ⟨⟨a4, s4⟩, e4, h⟩ := ob h
  obtain ⟨⟨a5, s5⟩, e5, h⟩ := ob h
  obtain ⟨⟨a6, s6⟩, e6, h⟩ := ob h
  obtain ⟨⟨a7, s7⟩, e7, h⟩ := ob h
  have h' := Option.some.inj h
  simp only [Prod.mk.injEq] at h'
  obtain ⟨rfl, rfl⟩ := h'
  rw [cdT.ex _ _ _ e1, cd1.ex _ _ _ e2, cd1.ex _ _ _ e3, cdF.ex _ _ _ e4, cd1.ex _ _ _ e5, cd8.ex _ _ _ e6, cdT.ex _ _ _ e7]
  unfold putC
  simp only [List.append_assoc]
theorem cdP : Codec decP prt (fun p => 0 ≤ p.Col ∧ p.Col < 256) where
 rt p r h := by
  have e : prt p ++ r = [u8i p.Col] ++ ([fl p.Down] ++ r) := by
   unfold prt
   simp only [List.append_assoc]
  rw [e]
  unfold decP
  exact bo (cd1.rt _ _ h) (bo (cdF.rt _ _ trivial) rfl)
 ex s p r h := by
  unfold decP at h
  obtain ⟨⟨a1, s1⟩, e1, h⟩ := ob h
  obtain ⟨⟨a2, s2⟩, e2, h⟩ := ob h
  have h' := Option.some.inj h
  simp only [Prod.mk.injEq] at h'
  obtain ⟨rfl, rfl⟩ := h'
  rw [cd1.ex _ _ _ e1, cdF.ex _ _ _ e2]
  unfold prt
  simp only [List.append_assoc]
theorem flat_u8 (l : List Int) : (l.map fun n => [u8i n]).flatten = l.map u8i := by
 induction l with
 | nil => rfl
 | cons x l ih => simp [ih]
theorem cdIs : Codec decIs (fun l => [u8i l.length] ++ l.map u8i) (fun l => l.length < 256 ∧ ∀ x ∈ l, 0 ≤ x ∧ x < 256) where
 rt l r h := by
  rw [List.append_assoc]
  unfold decIs
  refine bo (cd1.rt (l.length : Int) _ ⟨by omega, by omega⟩) ?_
  show decL dec1 (l.length : Int).toNat _ = _
  rw [Int.toNat_natCast, ← flat_u8]
  exact (cdL cd1 l.length).rt l r ⟨rfl, h.2⟩
 ex s l r h := by
  unfold decIs at h
  obtain ⟨⟨a1, s1⟩, e1, h⟩ := ob h
  have hl := decL_len _ _ _ _ h
  have h2 := (cdL cd1 a1.toNat).ex _ _ _ h
  obtain ⟨n, rfl, hn⟩ := dec1_rng e1
  rw [Int.toNat_natCast] at hl
  rw [cd1.ex _ _ _ e1, h2, flat_u8, hl, List.append_assoc]
def BX (x : ApiIndex) : Prop := x.Name.length < 65536 ∧ (x.Parts.length < 256 ∧ ∀ p ∈ x.Parts, 0 ≤ p.Col ∧ p.Col < 256) ∧ (x.Extra.length < 256 ∧ ∀ c ∈ x.Extra, 0 ≤ c ∧ c < 256) ∧ (0 ≤ x.Tree ∧ x.Tree < 65536)
theorem cdX : Codec decX putX BX where
 rt x r h := by
  obtain ⟨h1, h2, h3, h4⟩ := h
  have e : putX x ++ r = (bytesN (u64i x.Name.length) 2 ++ x.Name) ++ ([u8i x.Parts.length] ++ ((x.Parts.map prt).flatten ++ (([u8i x.Extra.length] ++ x.Extra.map u8i) ++ ([fl x.Unique] ++ ([fl x.Ready] ++ (bytesN (u64i x.Tree) 2 ++ r)))))) := by
   unfold putX
   simp only [List.append_assoc]
  rw [e]
  unfold decX
  refine bo (cdT.rt _ _ h1) (bo (cd1.rt (x.Parts.length : Int) _ ⟨by omega, by omega⟩) ?_)
  show Option.bind (decL decP (x.Parts.length : Int).toNat _) _ = _
  rw [Int.toNat_natCast]
  exact bo ((cdL cdP x.Parts.length).rt _ _ ⟨rfl, h2.2⟩) (bo (cdIs.rt _ _ h3) (bo (cdF.rt _ _ trivial) (bo (cdF.rt _ _ trivial) (bo (cd2.rt _ _ h4) rfl))))
 ex s x r h := by
  unfold decX at h
  obtain ⟨⟨a1, s1⟩, e1, h⟩ := ob h
  obtain ⟨⟨a2, s2⟩, e2, h⟩ := ob h
  obtain ⟨⟨a3, s3⟩, e3, h⟩ := ob h
  obtain ⟨⟨a4, s4⟩, e4, h⟩ := ob h
  obtain ⟨⟨a5, s5⟩, e5, h⟩ := ob h
  obtain ⟨⟨a6, s6⟩, e6, h⟩ := ob h
  obtain ⟨⟨a7, s7⟩, e7, h⟩ := ob h
  have h' := Option.some.inj h
  simp only [Prod.mk.injEq] at h'
  obtain ⟨rfl, rfl⟩ := h'
  have hl := decL_len _ _ _ _ e3
  have h3 := (cdL cdP a2.toNat).ex _ _ _ e3
  obtain ⟨n, rfl, hn⟩ := dec1_rng e2
  rw [Int.toNat_natCast] at hl
  rw [cdT.ex _ _ _ e1, cd1.ex _ _ _ e2, h3, cdIs.ex _ _ _ e4, cdF.ex _ _ _ e5, cdF.ex _ _ _ e6, cd2.ex _ _ _ e7]
  unfold putX
  simp only [List.append_assoc, hl]
def decH : Dec (Int × Int × List Int × Int) := fun s => Option.bind (dec2 s) fun (t, r) => Option.bind (dec1 r) fun (c, r) => Option.bind (decIs r) fun (p, r) => Option.bind (dec1 r) fun (x, r) => some ((t, c, p, x), r)
theorem cdH : Codec decH (fun y => (((bytesN (u64i y.1) 2 ++ [u8i y.2.1]) ++ [u8i y.2.2.1.length]) ++ y.2.2.1.map u8i) ++ [u8i y.2.2.2]) (fun y => (0 ≤ y.1 ∧ y.1 < 65536) ∧ (0 ≤ y.2.1 ∧ y.2.1 < 256) ∧ (y.2.2.1.length < 256 ∧ ∀ x ∈ y.2.2.1, 0 ≤ x ∧ x < 256) ∧ (0 ≤ y.2.2.2 ∧ y.2.2.2 < 256)) where
 rt y r h := by
  obtain ⟨t, c, p, x⟩ := y
  obtain ⟨h1, h2, h3, h4⟩ := h
  have e : ((((bytesN (u64i t) 2 ++ [u8i c]) ++ [u8i p.length]) ++ p.map u8i) ++ [u8i x]) ++ r = bytesN (u64i t) 2 ++ ([u8i c] ++ (([u8i p.length] ++ p.map u8i) ++ ([u8i x] ++ r))) := by
   simp only [List.append_assoc]
  show decH (((((bytesN (u64i t) 2 ++ [u8i c]) ++ [u8i p.length]) ++ p.map u8i) ++ [u8i x]) ++ r) = _
  rw [e]
  unfold decH
  exact bo (cd2.rt _ _ h1) (bo (cd1.rt _ _ h2) (bo (cdIs.rt _ _ h3) (bo (cd1.rt _ _ h4) rfl)))
 ex s y r h := by
  unfold decH at h
  obtain ⟨⟨a1, s1⟩, e1, h⟩ := ob h
  obtain ⟨⟨a2, s2⟩, e2, h⟩ := ob h
  obtain ⟨⟨a3, s3⟩, e3, h⟩ := ob h
  obtain ⟨⟨a4, s4⟩, e4, h⟩ := ob h
  have h' := Option.some.inj h
  simp only [Prod.mk.injEq] at h'
  obtain ⟨rfl, rfl⟩ := h'
  rw [cd2.ex _ _ _ e1, cd1.ex _ _ _ e2, cdIs.ex _ _ _ e3, cd1.ex _ _ _ e4]
  simp only [List.append_assoc]
def full {α : Type} (d : Dec α) (s : List UInt8) : Option α := match d s with
 | some (x, []) => some x
 | _ => none
theorem full_rt {α : Type} {d : Dec α} {e : α → List UInt8} {ok : α → Prop} (c : Codec d e ok) {x : α} (h : ok x) : full d (e x) = some x := by
 have := c.rt x [] h
 rw [List.append_nil] at this
 unfold full
 rw [this]
theorem full_ex {α : Type} {d : Dec α} {e : α → List UInt8} {ok : α → Prop} (c : Codec d e ok) {s : List UInt8} {x : α} (h : full d s = some x) : s = e x := by
 unfold full at h
 split at h
 ·rename_i y hy
  obtain rfl := Option.some.inj h
  have := c.ex _ _ _ hy
  rw [List.append_nil] at this
  exact this
 ·cases h
theorem full_dec {α : Type} {d : Dec α} {s : List UInt8} {x : α} (h : full d s = some x) : d s = some (x, []) := by
 unfold full at h
 split at h
 ·rename_i y hy
  obtain rfl := Option.some.inj h
  exact hy
 ·cases h
theorem done_eq (p : List UInt8) (o l : Nat) (b : Bool) : pack_In_Done p o l b = some (!b && decide (l = 0)) := by
 unfold pack_In_Done
 cases b with
 | true => rfl
 | false =>
  refine bo (a := decide (l = 0)) ?_ rfl
  show some ((l : Int) == 0) = _
  refine congrArg some ?_
  rw [Bool.eq_iff_iff]
  simp
theorem sim_done {α ρ : Type} {π : ρ → α × Nat × Nat × Bool} {p : List UInt8} {r : Option ρ} {d : Dec α} (h : SimG π p false r (d p)) :
  ∃ y, r = some y ∧ ((full d p = some (π y).1 ∧ pack_In_Done p (π y).2.1 (π y).2.2.1 (π y).2.2.2 = some true) ∨ (full d p = none ∧ pack_In_Done p (π y).2.1 (π y).2.2.1 (π y).2.2.2 = some false)) := by
 obtain ⟨y, e, h1, _, h3⟩ := h
 refine ⟨y, e, ?_⟩
 rw [done_eq]
 rcases h3 rfl with ⟨q1, q2⟩ | ⟨q1, q2⟩
 ·rw [q2]
  unfold full
  rw [q1]
  by_cases k : (π y).2.2.1 = 0
  ·left
   have : p.drop (π y).2.1 = [] := List.drop_eq_nil_iff.2 (by omega)
   rw [this, decide_eq_true k]
   exact ⟨rfl, rfl⟩
  ·right
   rw [decide_eq_false k]
   refine ⟨?_, rfl⟩
   cases hd : p.drop (π y).2.1 with
   | nil => have := List.drop_eq_nil_iff.1 hd; omega
   | cons a l => rfl
 ·right
  unfold full
  rw [q1, q2]
  exact ⟨rfl, rfl⟩
def Small (l : List ApiPair) : Prop := ∀ x ∈ l, x.Val.length < 1073741824 ∧ x.Key.length < 1073741824
theorem Small.tail {x : ApiPair} {l : List ApiPair} (h : Small (x :: l)) : Small l := fun y hy => h y (by simp [hy])
def takeS (key : List UInt8) : List ApiPair → Option (List UInt8 × List ApiPair)
 | [] => none
 | x :: r => if x.Key = key then some (x.Val, r) else none
theorem take_eq (key : List UInt8) (l : List ApiPair) (hl : Small l) : (takeS key l = none ∧ catalog_take key l = some (.inl ())) ∨ ∃ v r, takeS key l = some (v, r) ∧ catalog_take key l = some (.inr v) ∧ l.drop (1 : Int).toNat = r ∧ v.length < 1073741824 ∧ Small r ∧ l = ApiPair.mk key v :: r := by
 cases l with
 | nil => exact .inl ⟨rfl, rfl⟩
 | cons x r =>
  have hx := hl x (by simp)
  unfold catalog_take takeS
  have g0 : getI (x :: r) (0 : Int) = some x := rfl
  by_cases k : x.Key = key
  ·right
   refine ⟨x.Val, r, (by show (if x.Key = key then some (x.Val, r) else none) = _; rw [if_pos k]), ?_, rfl, hx.1, hl.tail, by rw [← k]⟩
   refine bo (a := false) ?_ ?_
   ·rw [show (((x :: r).length : Int) == 0) = false by simp; omega, cond_false, g0, bind_some', k]
    simp
   ·rw [cond_false, g0, bind_some']
    unfold pack_To
    rw [bif_decT (by rw [room_val]; omega), bind_some', bif_decT (by simp; omega)]
  ·left
   refine ⟨(by show (if x.Key = key then some (x.Val, r) else none) = _; rw [if_neg k]), ?_⟩
   refine bo (a := true) ?_ rfl
   rw [show (((x :: r).length : Int) == 0) = false by simp; omega, cond_false, g0, bind_some']
   simpa using k
def cN (nm : List UInt8) (kd : UInt8) (i : Nat) : List UInt8 := (([116] : List UInt8) ++ nm) ++ [(0 : UInt8), kd, u8i (i : Int)]
def partsD {α : Type} (D : List UInt8 → Option α) (nm : List UInt8) (kd : UInt8) : Nat → Nat → List ApiPair → Option (List α × List ApiPair)
 | 0, _, l => some ([], l)
 | k + 1, i, l => Option.bind (takeS (cN nm kd i) l) fun (v, r) => Option.bind (D v) fun c => Option.bind (partsD D nm kd k (i + 1) r) fun (cs, r) => some (c :: cs, r)
theorem part_loop {α E : Type} (D : List UInt8 → Option α) (nm : List UInt8) (kd : UInt8) (N : Nat) (F : E → Bool) {B : Int × List ApiPair × List α → Option ((Int × List ApiPair × List α) ⊕ ((List ApiPair × List α) ⊕ E))}
  (he : ∀ (i : Nat) (l : List ApiPair) (cs : List α), N ≤ i → B ((i : Int), l, cs) = some (.inr (.inl (l, cs))))
  (hs : ∀ (i : Nat) (l : List ApiPair) (cs : List α), i < N → cs.length = i → Small l → (∃ v r c, takeS (cN nm kd i) l = some (v, r) ∧ Small r ∧ D v = some c ∧ B ((i : Int), l, cs) = some (.inl (((i + 1 : Nat) : Int), r, cs ++ [c]))) ∨
   ((takeS (cN nm kd i) l = none ∨ ∃ v r, takeS (cN nm kd i) l = some (v, r) ∧ D v = none) ∧ ∃ e, F e = false ∧ B ((i : Int), l, cs) = some (.inr (.inr e)))) :
  ∀ (k i : Nat) (l : List ApiPair) (cs : List α), i + k = N → cs.length = i → Small l → (∃ c2 r, partsD D nm kd k i l = some (c2, r) ∧ Small r ∧ loop B ((i : Int), l, cs) = some (.inl (r, cs ++ c2))) ∨ (partsD D nm kd k i l = none ∧ ∃ e, F e = false ∧ loop B ((i : Int), l, cs) = some (.inr e)) := by
 intro k
 induction k with
 | zero =>
  intro i l cs hi hc hl
  exact .inl ⟨[], l, rfl, hl, by rw [loop_end (he i l cs (by omega)), List.append_nil]⟩
 | succ k ih =>
  intro i l cs hi hc hl
  rcases hs i l cs (by omega) hc hl with ⟨v, r, c, e1, hr, e2, e3⟩ | ⟨e1, e, e2, e3⟩
  ·rw [loop_step e3]
   rcases ih (i + 1) r (cs ++ [c]) (by omega) (by simp; omega) hr with ⟨c2, r2, q1, q2, q3⟩ | ⟨q1, q2⟩
   ·refine .inl ⟨c :: c2, r2, ?_, q2, by rw [q3]; simp⟩
    unfold partsD
    exact bo e1 (bo e2 (bo q1 rfl))
   ·refine .inr ⟨?_, q2⟩
    unfold partsD
    refine bo e1 (bo e2 ?_)
    rw [q1]; rfl
  ·refine .inr ⟨?_, e, e2, loop_end e3⟩
   unfold partsD
   rcases e1 with e1 | ⟨v, r, e1, e4⟩
   ·rw [e1]; rfl
   ·refine bo e1 ?_
    show Option.bind (D v) _ = _
    rw [e4]; rfl
theorem head_sim (v : List UInt8) (hv : v.length < 1073741824) : ∃ (y1 : UInt16 × Nat × Nat × Bool) (n : Nat) (o2 l2 : Nat) (b2 : Bool) (y3 : List Int × Nat × Nat × Bool) (m : Nat) (o4 l4 : Nat) (b4 : Bool),
  pack_In_U16_1 v false = some y1 ∧ catalog_taker_place_1 v y1.2.1 y1.2.2.1 y1.2.2.2 = some ((n : Int), o2, l2, b2) ∧ catalog_taker_places_1 v o2 l2 b2 = some y3 ∧ catalog_taker_place_1 v y3.2.1 y3.2.2.1 y3.2.2.2 = some ((m : Int), o4, l4, b4) ∧ n < 256 ∧ m < 256 ∧
   ((full decH v = some ((y1.1.toNat : Int), (n : Int), y3.1, (m : Int)) ∧ pack_In_Done v o4 l4 b4 = some true) ∨ (full decH v = none ∧ pack_In_Done v o4 l4 b4 = some false)) := by
 obtain ⟨y1, e1, p1, _, _⟩ := u16_1_sim v hv
 obtain ⟨y2, e2, p2, _, _⟩ := place_sim v hv y1.2.1 y1.2.2.1 y1.2.2.2 p1
 obtain ⟨n, hn, hn2⟩ := place_rng _ _ _ _ _ e2
 obtain ⟨y3, e3, p3, _, _⟩ := places_sim v hv y2.2.1 y2.2.2.1 y2.2.2.2 p2
 obtain ⟨y4, e4, p4, _, _⟩ := place_sim v hv y3.2.1 y3.2.2.1 y3.2.2.2 p3
 obtain ⟨m, hm, hm2⟩ := place_rng _ _ _ _ _ e4
 have key : SimG P0 v false (Option.bind (pack_In_U16_1 v false) fun (r468, r469, r470, r471) => Option.bind (catalog_taker_place_1 v r469 r470 r471) fun (r473, r474, r475, r476) => Option.bind (catalog_taker_places_1 v r474 r475 r476) fun (r478, r479, r480, r481) =>
   Option.bind (catalog_taker_place_1 v r479 r480 r481) fun (r483, r484, r485, r486) => some (((r468.toNat : Int), r473, r478, r483), r484, r485, r486)) (decH v) := by
  have ed : decH v = Option.bind (d16 v) fun (x, r) => Option.bind (dec1 r) fun (c, r) => Option.bind (decIs r) fun (p, r) => Option.bind (dec1 r) fun (m, r) => some (((x.toNat : Int), c, p, m), r) := by
   unfold decH
   rw [dec2_16]
   cases d16 v <;> rfl
  rw [ed]
  exact SimG.bind (u16_1_sim v hv) fun ⟨x, o, l, b⟩ q => SimG.bind (place_sim v hv o l b q) fun ⟨x, o, l, b⟩ q => SimG.bind (places_sim v hv o l b q) fun ⟨x, o, l, b⟩ q => SimG.bind (place_sim v hv o l b q) fun ⟨x, o, l, b⟩ q => SimG.ret rfl q
 obtain ⟨z, ez, hz⟩ := sim_done key
 obtain ⟨x1, o1, l1, b1⟩ := y1
 obtain ⟨x2, o2, l2, b2⟩ := y2
 obtain ⟨x3, o3, l3, b3⟩ := y3
 obtain ⟨x4, o4, l4, b4⟩ := y4
 simp only at hn hm e2 e3 e4
 subst hn
 subst hm
 rw [e1, bind_some'] at ez
 have ez2 : Option.bind (catalog_taker_place_1 v o1 l1 b1) _ = some z := ez
 rw [e2, bind_some'] at ez2
 have ez3 : Option.bind (catalog_taker_places_1 v o2 l2 b2) _ = some z := ez2
 rw [e3, bind_some'] at ez3
 have ez4 : Option.bind (catalog_taker_place_1 v o3 l3 b3) _ = some z := ez3
 rw [e4, bind_some'] at ez4
 have := Option.some.inj ez4
 subst this
 exact ⟨_, n, o2, l2, b2, _, m, o4, l4, b4, e1, e2, e3, e4, hn2, hm2, hz⟩
theorem part_run {α E R : Type} (P : Option R → Prop) (D : List UInt8 → Option α) (nm : List UInt8) (kd : UInt8) (N : Nat) (F : E → Bool) {B : Int × List ApiPair × List α → Option ((Int × List ApiPair × List α) ⊕ ((List ApiPair × List α) ⊕ E))} {l : List ApiPair} {K : List ApiPair × List α → Option R} {G : E → Option R} (hl : Small l)
  (he : ∀ (i : Nat) (l : List ApiPair) (cs : List α), N ≤ i → B ((i : Int), l, cs) = some (.inr (.inl (l, cs))))
  (hs : ∀ (i : Nat) (l : List ApiPair) (cs : List α), i < N → cs.length = i → Small l → (∃ v r c, takeS (cN nm kd i) l = some (v, r) ∧ Small r ∧ D v = some c ∧ B ((i : Int), l, cs) = some (.inl (((i + 1 : Nat) : Int), r, cs ++ [c]))) ∨
   ((takeS (cN nm kd i) l = none ∨ ∃ v r, takeS (cN nm kd i) l = some (v, r) ∧ D v = none) ∧ ∃ e, F e = false ∧ B ((i : Int), l, cs) = some (.inr (.inr e))))
  (hK : ∀ c2 r, partsD D nm kd N 0 l = some (c2, r) → Small r → P (K (r, c2))) (hG : partsD D nm kd N 0 l = none → ∀ e, F e = false → P (G e)) :
  P (bindE (Option.bind (loop B ((0 : Int), l, ([] : List α))) (Sum.elim (fun e => some (Sum.inl e)) (fun e => some (Sum.inr e)))) K G) := by
 rcases part_loop D nm kd N F he hs N 0 l [] (by omega) rfl hl with ⟨c2, r, e1, e2, e3⟩ | ⟨e1, e, e2, e3⟩
 ·have e3' : loop B ((0 : Int), l, ([] : List α)) = some (.inl (r, c2)) := e3
  rw [e3']
  exact hK c2 r e1 e2
 ·have e3' : loop B ((0 : Int), l, ([] : List α)) = some (.inr e) := e3
  rw [e3']
  exact hG e1 e e2
theorem parts_mem {α : Type} {D : List UInt8 → Option α} {nm : List UInt8} {kd : UInt8} : ∀ (k i : Nat) (l : List ApiPair) (cs : List α) (r : List ApiPair), Small l → partsD D nm kd k i l = some (cs, r) → cs.length = k ∧ ∀ c ∈ cs, ∃ v : List UInt8, v.length < 1073741824 ∧ D v = some c
 | 0, i, l, cs, r, _, h => by
  have h' := Option.some.inj h
  simp only [Prod.mk.injEq] at h'
  obtain ⟨rfl, rfl⟩ := h'
  exact ⟨rfl, fun c hc => by cases hc⟩
 | k + 1, i, l, cs, r, hl, h => by
  unfold partsD at h
  obtain ⟨⟨v, r1⟩, e1, h⟩ := ob h
  obtain ⟨c, e2, h⟩ := ob h
  obtain ⟨⟨cs2, r2⟩, e3, h⟩ := ob h
  have h' := Option.some.inj h
  simp only [Prod.mk.injEq] at h'
  obtain ⟨rfl, rfl⟩ := h'
  rcases take_eq (cN nm kd i) l hl with ⟨q, _⟩ | ⟨v', r', q, _, _, q4, q5, _⟩
  ·rw [q] at e1; cases e1
  ·rw [q] at e1
   have h' := Option.some.inj e1
   simp only [Prod.mk.injEq] at h'
   obtain ⟨rfl, rfl⟩ := h'
   obtain ⟨m1, m2⟩ := parts_mem k (i + 1) _ _ _ q5 e3
   refine ⟨by simp [m1], fun c hc => ?_⟩
   rcases List.mem_cons.1 hc with rfl | hc
   ·exact ⟨_, q4, e2⟩
   ·exact m2 c hc
def tableD : List ApiPair → Option (ApiTable × List ApiPair)
 | [] => none
 | x :: r => if Go.Lib.hasPrefix x.Key [116] = true then Option.bind (full decH x.Val) fun (tr, c, ps, m) => Option.bind (partsD (full decC) (Go.Lib.trimPrefix x.Key [116]) 99 c.toNat 0 r) fun (cs, r2) =>
   Option.bind (partsD (full decX) (Go.Lib.trimPrefix x.Key [116]) 105 m.toNat 0 r2) fun (xs, r3) => if okS (ApiTable.mk (Go.Lib.trimPrefix x.Key [116]) cs ps xs tr) = true then some (ApiTable.mk (Go.Lib.trimPrefix x.Key [116]) cs ps xs tr, r3) else none
  else none
theorem putC_len (c : ApiColumn) : c.Name.length ≤ (putC c).length ∧ c.Default.S.length ≤ (putC c).length := by
 unfold putC
 simp only [List.length_append]
 omega
theorem putX_len (x : ApiIndex) : x.Name.length ≤ (putX x).length ∧ x.Parts.length ≤ (putX x).length ∧ x.Extra.length ≤ (putX x).length := by
 have := prt_len x.Parts
 unfold putX
 simp only [List.length_append, this, List.length_map]
 omega
theorem trim_len (s : List UInt8) : (Go.Lib.trimPrefix s [116]).length ≤ s.length := by
 unfold Go.Lib.trimPrefix
 split
 ·simp
 ·exact Nat.le_refl _
theorem okT_of {nm : List UInt8} {cs : List ApiColumn} {ps : List Int} {xs : List ApiIndex} {tr : Int} (hn : nm.length < 1073741824) (hp : ps.length < 1073741824) (hc : cs.length < 1000) (hx : xs.length < 1000)
  (h1 : ∀ c ∈ cs, ∃ v : List UInt8, v.length < 1073741824 ∧ full decC v = some c) (h2 : ∀ x ∈ xs, ∃ v : List UInt8, v.length < 1073741824 ∧ full decX v = some x) : OkT (ApiTable.mk nm cs ps xs tr) ∧ ∀ x ∈ xs, OkY x := by
 have key : ∀ x ∈ xs, OkY x := by
  intro x hx
  obtain ⟨v, hv, e⟩ := h2 x hx
  have e := full_ex cdX e
  subst e
  have := putX_len x
  exact ⟨⟨by omega, by omega, by omega⟩, by rw [room_val]; omega⟩
 refine ⟨⟨by show nm.length < _; omega, ⟨by show cs.length < _; omega, fun c hc => ?_⟩, by show ps.length < _; omega, by show xs.length < _; omega, fun x hx => (key x hx).1⟩, key⟩
 obtain ⟨v, hv, e⟩ := h1 c hc
 have e := full_ex cdC e
 subst e
 have := putC_len c
 exact ⟨by omega, by omega⟩
theorem headH_len {v : List UInt8} {a b c : Int} {ps : List Int} (h : full decH v = some (a, b, ps, c)) : ps.length ≤ v.length := by
 rw [full_ex cdH h]
 simp only [List.length_append, List.length_map]
 omega
abbrev TRes := Bool × (List ApiPair) × (List UInt8) × (List ApiColumn) × (List Int) × (List ApiIndex) × Int
def TOut (l : List ApiPair) (y : TRes) : Prop := (∃ t r, tableD l = some (t, r) ∧ Small r ∧ OkT t ∧ (∀ x ∈ t.Indexes, OkY x) ∧ y = (true, r, t.Name, t.Cols, t.Primary, t.Indexes, t.Tree)) ∨ (tableD l = none ∧ y.1 = false)
theorem table_eq (x : ApiPair) (r : List ApiPair) (hl : Small (x :: r)) : ∃ y, catalog_table (x :: r) = some y ∧ TOut (x :: r) y := by
 have hx := hl x (by simp)
 unfold catalog_table
 have g0 : getI (x :: r) (0 : Int) = some x := rfl
 rw [g0, bind_some']
 unfold cutF
 rw [bind_some']
 show ∃ y, (bif (!Go.Lib.hasPrefix x.Key [116]) then _ else _) = some y ∧ _
 cases hp : Go.Lib.hasPrefix x.Key [116] with
 | false =>
  refine ⟨_, rfl, .inr ⟨?_, rfl⟩⟩
  show (if Go.Lib.hasPrefix x.Key [116] = true then _ else none) = none
  rw [hp]; rfl
 | true =>
 rw [Bool.not_true, cond_false, bind_some']
 rcases take_eq x.Key (x :: r) hl with ⟨q, _⟩ | ⟨v, r', q, q2, q3, q4, q5, q6⟩
 ·exfalso
  have : takeS x.Key (x :: r) = some (x.Val, r) := by show (if x.Key = x.Key then _ else _) = _; rw [if_pos rfl]
  rw [this] at q; cases q
 have hv : v = x.Val ∧ r' = r := by
  simp only [List.cons.injEq] at q6
  exact ⟨(congrArg ApiPair.Val q6.1).symm, q6.2.symm⟩
 obtain ⟨rfl, rfl⟩ := hv
 have q3' : List.drop (1 : Int).toNat (x :: r') = r' := q3
 rw [q2, bind_some', q3']
 have hnm := trim_len x.Key
 generalize hnme : Go.Lib.trimPrefix x.Key [116] = nm at hnm
 have tD : tableD (x :: r') = Option.bind (full decH x.Val) fun (tr, c, ps, m) => Option.bind (partsD (full decC) nm 99 c.toNat 0 r') fun (cs, r2) =>
   Option.bind (partsD (full decX) nm 105 m.toNat 0 r2) fun (xs, r3) => if okS (ApiTable.mk nm cs ps xs tr) = true then some (ApiTable.mk nm cs ps xs tr, r3) else none := by
  show (if Go.Lib.hasPrefix x.Key [116] = true then _ else none) = _
  rw [if_pos hp, hnme]
 obtain ⟨⟨x1, o1, l1, b1⟩, n, o2, l2, b2, ⟨x3, o3, l3, b3⟩, m, o4, l4, b4, e1, e2, e3, e4, hn, hm, hd⟩ := head_sim x.Val q4
 simp only at e2 e3 e4 hd
 show ∃ y, Option.bind (pack_In_U16_1 x.Val false) _ = some y ∧ _
 rw [e1, bind_some']
 show ∃ y, Option.bind (catalog_taker_place_1 x.Val o1 l1 b1) _ = some y ∧ _
 rw [e2, bind_some']
 show ∃ y, Option.bind (catalog_taker_places_1 x.Val o2 l2 b2) _ = some y ∧ _
 rw [e3, bind_some']
 show ∃ y, Option.bind (catalog_taker_place_1 x.Val o3 l3 b3) _ = some y ∧ _
 rw [e4, bind_some']
 show ∃ y, Option.bind (pack_In_Done x.Val o4 l4 b4) _ = some y ∧ _
 have sub : ∀ (k : UInt8) (i : Int), catalog_sub nm k i = some () := by
  intro k i
  unfold catalog_sub
  rw [bif_decT (by simp; omega), bif_decT (by simp; omega)]
 rcases hd with ⟨d1, d2⟩ | ⟨d1, d2⟩
 rotate_left
 ·rw [d2, bind_some']
  refine ⟨_, rfl, .inr ⟨?_, rfl⟩⟩
  rw [tD, d1]; rfl
 rw [d2, bind_some', Bool.not_true, cond_false]
 have hps := headH_len d1
 refine part_run (fun o => ∃ y, o = some y ∧ TOut (x :: r') y) (full decC) nm 99 n (fun e => e.1) q5 (fun i l cs hi => ?_) (fun i l cs hi hc hs => ?_) (fun cs r2 hcs hr2 => ?_) (fun hno e hf => ?_)
 ·show (bif _ then _ else _) = _
  rw [bif_decF (by omega)]
 ·rcases take_eq (cN nm 99 i) l hs with ⟨k1, k2⟩ | ⟨v, r, k1, k2, k3, k4, k5, k6⟩
  ·refine .inr ⟨.inl k1, ?_⟩
   refine ⟨(false, l, nm, cs, x3, ([] : List ApiIndex), (x1.toNat : Int)), ?_, ?_⟩
   rotate_left
   ·show (bif _ then _ else _) = _
    rw [bif_decT (by omega), sub, bind_some']
    show Option.bind (catalog_take (cN nm 99 i) l) _ = _
    rw [k2, bind_some']
    rfl
   ·rfl
  ·obtain ⟨y, z1, z2⟩ := sim_done (column_sim v k4)
   obtain ⟨y1, y2, y3, y4⟩ := y
   rcases z2 with ⟨z2, z3⟩ | ⟨z2, z3⟩
   ·refine .inl ⟨v, r, y4, k1, k5, z2, ?_⟩
    show (bif _ then _ else _) = _
    rw [bif_decT (by omega), sub, bind_some']
    show Option.bind (catalog_take (cN nm 99 i) l) _ = _
    rw [k2, bind_some', k3, w64_succ (by omega)]
    show Option.bind (catalog_taker_column v false) _ = _
    rw [z1, bind_some']
    show (bif _ then _ else _) = _
    rw [bif_decT (by rw [room_val]; simp; omega)]
    show Option.bind (pack_In_Done v y1 y2 y3) _ = _
    rw [show pack_In_Done v y1 y2 y3 = some true from z3, bind_some']
    rfl
   ·refine .inr ⟨.inr ⟨v, r, k1, z2⟩, ?_⟩
    refine ⟨(false, r, nm, cs ++ [y4], x3, ([] : List ApiIndex), (x1.toNat : Int)), ?_, ?_⟩
    rotate_left
    ·show (bif _ then _ else _) = _
     rw [bif_decT (by omega), sub, bind_some']
     show Option.bind (catalog_take (cN nm 99 i) l) _ = _
     rw [k2, bind_some', k3, w64_succ (by omega)]
     show Option.bind (catalog_taker_column v false) _ = _
     rw [z1, bind_some']
     show (bif _ then _ else _) = _
     rw [bif_decT (by rw [room_val]; simp; omega)]
     show Option.bind (pack_In_Done v y1 y2 y3) _ = _
     rw [show pack_In_Done v y1 y2 y3 = some false from z3, bind_some']
     rfl
    ·rfl
 ·obtain ⟨c1, c2⟩ := parts_mem _ _ _ _ _ q5 hcs
  refine part_run (fun o => ∃ y, o = some y ∧ TOut (x :: r') y) (full decX) nm 105 m (fun e => e.1) hr2 (fun i l cs hi => ?_) (fun i l cs2 hi hc hs => ?_) (fun xs r3 hxs hr3 => ?_) (fun hno e hf => ?_)
  ·show (bif _ then _ else _) = _
   rw [bif_decF (by omega)]
  ·rcases take_eq (cN nm 105 i) l hs with ⟨k1, k2⟩ | ⟨v, r, k1, k2, k3, k4, k5, k6⟩
   ·refine .inr ⟨.inl k1, ?_⟩
    refine ⟨(false, l, nm, cs, x3, cs2, (x1.toNat : Int)), ?_, ?_⟩
    rotate_left
    ·show (bif _ then _ else _) = _
     rw [bif_decT (by omega), sub, bind_some']
     show Option.bind (catalog_take (cN nm 105 i) l) _ = _
     rw [k2, bind_some']
     rfl
    ·rfl
   ·obtain ⟨y, z1, z2⟩ := sim_done (index_sim v k4)
    obtain ⟨y1, y2, y3, y4⟩ := y
    rcases z2 with ⟨z2, z3⟩ | ⟨z2, z3⟩
    ·refine .inl ⟨v, r, y4, k1, k5, z2, ?_⟩
     show (bif _ then _ else _) = _
     rw [bif_decT (by omega), sub, bind_some']
     show Option.bind (catalog_take (cN nm 105 i) l) _ = _
     rw [k2, bind_some', k3, w64_succ (by omega)]
     show Option.bind (catalog_taker_index v false) _ = _
     rw [z1, bind_some']
     show (bif _ then _ else _) = _
     rw [bif_decT (by rw [room_val]; simp; omega)]
     show Option.bind (pack_In_Done v y1 y2 y3) _ = _
     rw [show pack_In_Done v y1 y2 y3 = some true from z3, bind_some']
     rfl
    ·refine .inr ⟨.inr ⟨v, r, k1, z2⟩, ?_⟩
     refine ⟨(false, r, nm, cs, x3, cs2 ++ [y4], (x1.toNat : Int)), ?_, ?_⟩
     rotate_left
     ·show (bif _ then _ else _) = _
      rw [bif_decT (by omega), sub, bind_some']
      show Option.bind (catalog_take (cN nm 105 i) l) _ = _
      rw [k2, bind_some', k3, w64_succ (by omega)]
      show Option.bind (catalog_taker_index v false) _ = _
      rw [z1, bind_some']
      show (bif _ then _ else _) = _
      rw [bif_decT (by rw [room_val]; simp; omega)]
      show Option.bind (pack_In_Done v y1 y2 y3) _ = _
      rw [show pack_In_Done v y1 y2 y3 = some false from z3, bind_some']
      rfl
     ·rfl
  ·obtain ⟨d3, d4⟩ := parts_mem _ _ _ _ _ hr2 hxs
   have ok := okT_of (nm := nm) (cs := cs) (ps := x3) (xs := xs) (tr := (x1.toNat : Int)) (by omega) (by omega) (by omega) (by omega) c2 d4
   show ∃ y, Option.bind (catalog_right (ApiTable.mk nm cs x3 xs (x1.toNat : Int))) _ = some y ∧ _
   rw [right_eq _ ok.1 ok.2, bind_some']
   refine ⟨_, rfl, ?_⟩
   have t2 : tableD (x :: r') = if okS (ApiTable.mk nm cs x3 xs (x1.toNat : Int)) = true then some (ApiTable.mk nm cs x3 xs (x1.toNat : Int), r3) else none := by
    rw [tD, d1, bind_some']
    show Option.bind (partsD (full decC) nm 99 n 0 r') _ = _
    rw [hcs, bind_some']
    show Option.bind (partsD (full decX) nm 105 m 0 r2) _ = _
    rw [hxs, bind_some']
   cases hk : okS (ApiTable.mk nm cs x3 xs (x1.toNat : Int)) with
   | true =>
    rw [hk, if_pos rfl] at t2
    exact .inl ⟨_, _, t2, hr3, ok.1, ok.2, rfl⟩
   | false =>
    rw [hk, if_neg (by simp)] at t2
    exact .inr ⟨t2, rfl⟩
  ·refine ⟨e, rfl, .inr ⟨?_, hf⟩⟩
   rw [tD, d1, bind_some']
   show Option.bind (partsD (full decC) nm 99 n 0 r') _ = _
   rw [hcs, bind_some']
   show Option.bind (partsD (full decX) nm 105 m 0 r2) _ = _
   rw [hno]; rfl
 ·refine ⟨e, rfl, .inr ⟨?_, hf⟩⟩
  rw [tD, d1, bind_some']
  show Option.bind (partsD (full decC) nm 99 n 0 r') _ = _
  rw [hno]; rfl
def enumP {α : Type} (f : α → List UInt8) (nm : List UInt8) (kd : UInt8) : Nat → List α → List ApiPair
 | _, [] => []
 | i, c :: cs => ApiPair.mk (cN nm kd i) (f c) :: enumP f nm kd (i + 1) cs
theorem enumP_len {α : Type} (f : α → List UInt8) (nm : List UInt8) (kd : UInt8) : ∀ (cs : List α) (i : Nat), (enumP f nm kd i cs).length = cs.length
 | [], _ => rfl
 | c :: cs, i => by simp [enumP, enumP_len f nm kd cs (i + 1)]
theorem enumP_get {α : Type} (f : α → List UInt8) (nm : List UInt8) (kd : UInt8) : ∀ (cs : List α) (i j : Nat), (enumP f nm kd i cs)[j]? = cs[j]?.map fun c => ApiPair.mk (cN nm kd (i + j)) (f c)
 | [], _, j => by simp [enumP]
 | c :: cs, i, 0 => by simp [enumP]
 | c :: cs, i, j + 1 => by
  show (enumP f nm kd (i + 1) cs)[j]? = _
  rw [enumP_get f nm kd cs (i + 1) j, show i + 1 + j = i + (j + 1) by omega]
  simp
theorem colP_enum (t : ApiTable) : colP t t.Cols.length = enumP putC t.Name 99 0 t.Cols := by
 refine List.ext_getElem? fun j => ?_
 rw [enumP_get]
 unfold colP
 rw [List.getElem?_map]
 by_cases h : j < t.Cols.length
 ·rw [List.getElem?_range h, List.getElem?_eq_getElem h]
  simp [List.getD, h, cK, cN]
 ·rw [List.getElem?_eq_none (by simpa using h), List.getElem?_eq_none (by omega)]; rfl
theorem idxP_enum (t : ApiTable) : idxP t t.Indexes.length = enumP putX t.Name 105 0 t.Indexes := by
 refine List.ext_getElem? fun j => ?_
 rw [enumP_get]
 unfold idxP
 rw [List.getElem?_map]
 by_cases h : j < t.Indexes.length
 ·rw [List.getElem?_range h, List.getElem?_eq_getElem h]
  simp [List.getD, h, cK, cN]
 ·rw [List.getElem?_eq_none (by simpa using h), List.getElem?_eq_none (by omega)]; rfl
theorem pairsS_eq (t : ApiTable) : pairsS t = ApiPair.mk (([116] : List UInt8) ++ t.Name) (headV t) :: (enumP putC t.Name 99 0 t.Cols ++ enumP putX t.Name 105 0 t.Indexes) := by
 unfold pairsS
 rw [colP_enum, idxP_enum]
 simp
theorem takeS_ex {key v : List UInt8} {l r : List ApiPair} (h : takeS key l = some (v, r)) : l = ApiPair.mk key v :: r := by
 cases l with
 | nil => cases h
 | cons x r' =>
  have h : (if x.Key = key then some (x.Val, r') else none) = some (v, r) := h
  by_cases k : x.Key = key
  ·rw [if_pos k] at h
   have h' := Option.some.inj h
   simp only [Prod.mk.injEq] at h'
   obtain ⟨rfl, rfl⟩ := h'
   rw [← k]
  ·rw [if_neg k] at h; cases h
theorem takeS_rt (key v : List UInt8) (r : List ApiPair) : takeS key (ApiPair.mk key v :: r) = some (v, r) := by
 show (if key = key then some (v, r) else none) = _
 rw [if_pos rfl]
theorem parts_rt {α : Type} {D : List UInt8 → Option α} {f : α → List UInt8} (nm : List UInt8) (kd : UInt8) : ∀ (cs : List α) (i : Nat) (r : List ApiPair), (∀ c ∈ cs, D (f c) = some c) → partsD D nm kd cs.length i (enumP f nm kd i cs ++ r) = some (cs, r)
 | [], i, r, _ => rfl
 | c :: cs, i, r, h => by
  show Option.bind (takeS (cN nm kd i) (ApiPair.mk (cN nm kd i) (f c) :: (enumP f nm kd (i + 1) cs ++ r))) _ = _
  rw [takeS_rt, bind_some']
  show Option.bind (D (f c)) _ = _
  rw [h c (by simp), bind_some', parts_rt nm kd cs (i + 1) r (fun c hc => h c (by simp [hc])), bind_some']
theorem parts_ex {α : Type} {D : List UInt8 → Option α} {f : α → List UInt8} {nm : List UInt8} {kd : UInt8} (hD : ∀ v c, D v = some c → v = f c) : ∀ (k i : Nat) (l : List ApiPair) (cs : List α) (r : List ApiPair), partsD D nm kd k i l = some (cs, r) → l = enumP f nm kd i cs ++ r ∧ cs.length = k
 | 0, i, l, cs, r, h => by
  have h' := Option.some.inj h
  simp only [Prod.mk.injEq] at h'
  obtain ⟨rfl, rfl⟩ := h'
  exact ⟨rfl, rfl⟩
 | k + 1, i, l, cs, r, h => by
  unfold partsD at h
  obtain ⟨⟨v, r1⟩, e1, h⟩ := ob h
  obtain ⟨c, e2, h⟩ := ob h
  obtain ⟨⟨cs2, r2⟩, e3, h⟩ := ob h
  have h' := Option.some.inj h
  simp only [Prod.mk.injEq] at h'
  obtain ⟨rfl, rfl⟩ := h'
  obtain ⟨q1, q2⟩ := parts_ex hD k (i + 1) _ _ _ e3
  have e2' := hD _ _ e2
  subst e2'
  refine ⟨?_, by simp [q2]⟩
  rw [takeS_ex e1, q1]
  rfl
theorem pre_t (nm : List UInt8) : Go.Lib.hasPrefix (([116] : List UInt8) ++ nm) [116] = true := by
 show ((116 : UInt8) == 116 && List.isPrefixOf [] nm) = true
 cases nm <;> rfl
theorem trim_t (nm : List UInt8) : Go.Lib.trimPrefix (([116] : List UInt8) ++ nm) [116] = nm := by
 unfold Go.Lib.trimPrefix
 rw [if_pos (pre_t nm)]
 rfl
theorem pre_ex {k : List UInt8} (h : Go.Lib.hasPrefix k [116] = true) : k = ([116] : List UInt8) ++ Go.Lib.trimPrefix k [116] := by
 unfold Go.Lib.trimPrefix
 rw [if_pos h]
 cases k with
 | nil => cases h
 | cons c r =>
  have h : ((116 : UInt8) == c && List.isPrefixOf [] r) = true := h
  simp only [Bool.and_eq_true, beq_iff_eq] at h
  rw [← h.1]; rfl
theorem BC_of {c : ApiColumn} (h : colS c = 0) : BC c := by
 obtain ⟨k1, k2, k3, k4, k5⟩ := colS_ok h
 obtain ⟨v1, _, _⟩ := fitS_ok k5
 have m := colS_max h
 have n := name_short k1
 have s := val_short v1
 have kk : 0 ≤ c.Default.Kind ∧ c.Default.Kind < 256 := by
  unfold val at v1
  simp only [Bool.or_eq_true, Bool.and_eq_true, beq_iff_eq, decide_eq_true_eq] at v1
  rcases v1 with (((⟨q, _⟩ | ⟨q, _⟩) | ⟨q, _⟩) | ⟨q, _⟩) | ⟨q, _⟩ <;> omega
 exact ⟨by omega, by omega, by omega, kk, by omega⟩
theorem okS_chk {t : ApiTable} (h : okS t = true) : chkS t = 0 ∧ (1 ≤ t.Tree ∧ t.Tree ≤ 65535) ∧ ∀ x ∈ t.Indexes, 1 ≤ x.Tree ∧ x.Tree ≤ 65535 := by
 simp only [okS, Bool.and_eq_true, decide_eq_true_eq, Bool.not_eq_true', treeS] at h
 refine ⟨h.1, h.2.1, fun x hx => ?_⟩
 have := List.any_eq_false.1 h.2.2 x hx
 simp only [badX, treeS, Bool.not_eq_true', decide_eq_false_iff_not] at this
 exact Decidable.not_not.1 this
theorem BX_of {t : ApiTable} (h : okS t = true) : ∀ x ∈ t.Indexes, BX x := by
 intro x hx
 obtain ⟨h1, h2, h3⟩ := okS_chk h
 have R := RightN.of h1
 have rx := RightX.of (R.r.idx x hx)
 have xn := R.xn x hx
 have l1 := R.r.len
 have tr := h3 x hx
 refine ⟨by omega, ⟨by omega, fun p hp => ?_⟩, ⟨by omega, fun c hc => ?_⟩, by omega⟩
 ·have := placesS_in rx.pla p.Col (List.mem_map_of_mem hp)
  omega
 ·have := placesS_in rx.ext c hc
  omega
theorem tableD_rt (t : ApiTable) (r : List ApiPair) (h : okS t = true) : tableD (pairsS t ++ r) = some (t, r) := by
 obtain ⟨h1, h2, h3⟩ := okS_chk h
 have R := RightN.of h1
 have l1 := R.r.len
 have l2 := R.r.pri
 have l3 := R.r.ixs
 rw [pairsS_eq, List.cons_append, List.append_assoc]
 show (if Go.Lib.hasPrefix (([116] : List UInt8) ++ t.Name) [116] = true then _ else none) = _
 rw [if_pos (pre_t _), trim_t]
 have hh : full decH (headV t) = some (t.Tree, (t.Cols.length : Int), t.Primary, (t.Indexes.length : Int)) := full_rt cdH (x := (t.Tree, (t.Cols.length : Int), t.Primary, (t.Indexes.length : Int))) ⟨⟨by show 0 ≤ t.Tree; omega, by show t.Tree < _; omega⟩, ⟨by show (0 : Int) ≤ (t.Cols.length : Int); omega, by show (t.Cols.length : Int) < _; omega⟩, ⟨by show t.Primary.length < _; omega, fun x hx => by
  have := placesS_in R.r.pla x hx
  omega⟩, ⟨by show (0 : Int) ≤ (t.Indexes.length : Int); omega, by show (t.Indexes.length : Int) < _; omega⟩⟩
 show Option.bind (full decH (headV t)) _ = _
 rw [hh, bind_some']
 show Option.bind (partsD (full decC) t.Name 99 (t.Cols.length : Int).toNat 0 _) _ = _
 rw [Int.toNat_natCast, parts_rt t.Name 99 t.Cols 0 _ (fun c hc => full_rt cdC (BC_of (R.r.col c hc))), bind_some']
 show Option.bind (partsD (full decX) t.Name 105 (t.Indexes.length : Int).toNat 0 _) _ = _
 rw [Int.toNat_natCast, parts_rt t.Name 105 t.Indexes 0 _ (fun x hx => full_rt cdX (BX_of h x hx)), bind_some']
 show (if okS t = true then some (t, r) else none) = _
 rw [if_pos h]
theorem decH_rng {v : List UInt8} {a b c : Int} {ps : List Int} (h : full decH v = some (a, b, ps, c)) : (∃ n : Nat, b = n) ∧ ∃ m : Nat, c = m := by
 have h := full_dec h
 unfold decH at h
 obtain ⟨⟨a1, s1⟩, e1, h⟩ := ob h
 obtain ⟨⟨a2, s2⟩, e2, h⟩ := ob h
 obtain ⟨⟨a3, s3⟩, e3, h⟩ := ob h
 obtain ⟨⟨a4, s4⟩, e4, h⟩ := ob h
 have h' := Option.some.inj h
 simp only [Prod.mk.injEq] at h'
 obtain ⟨⟨rfl, rfl, rfl, rfl⟩, rfl⟩ := h'
 obtain ⟨n, rfl, _⟩ := dec1_rng e2
 obtain ⟨m, rfl, _⟩ := dec1_rng e4
 exact ⟨⟨n, rfl⟩, ⟨m, rfl⟩⟩
theorem tableD_ex {l : List ApiPair} {t : ApiTable} {r : List ApiPair} (h : tableD l = some (t, r)) : okS t = true ∧ l = pairsS t ++ r := by
 cases l with
 | nil => cases h
 | cons x l =>
  have h : (if Go.Lib.hasPrefix x.Key [116] = true then Option.bind (full decH x.Val) fun (tr, c, ps, m) => Option.bind (partsD (full decC) (Go.Lib.trimPrefix x.Key [116]) 99 c.toNat 0 l) fun (cs, r2) =>
   Option.bind (partsD (full decX) (Go.Lib.trimPrefix x.Key [116]) 105 m.toNat 0 r2) fun (xs, r3) => if okS (ApiTable.mk (Go.Lib.trimPrefix x.Key [116]) cs ps xs tr) = true then some (ApiTable.mk (Go.Lib.trimPrefix x.Key [116]) cs ps xs tr, r3) else none
  else none) = some (t, r) := h
  by_cases hp : Go.Lib.hasPrefix x.Key [116] = true
  rotate_left
  ·rw [if_neg hp] at h; cases h
  rw [if_pos hp] at h
  obtain ⟨⟨tr, c, ps, m⟩, e1, h⟩ := ob h
  obtain ⟨⟨cs, r2⟩, e2, h⟩ := ob h
  obtain ⟨⟨xs, r3⟩, e3, h⟩ := ob h
  have h : (if okS (ApiTable.mk (Go.Lib.trimPrefix x.Key [116]) cs ps xs tr) = true then some (ApiTable.mk (Go.Lib.trimPrefix x.Key [116]) cs ps xs tr, r3) else none) = some (t, r) := h
  by_cases ho : okS (ApiTable.mk (Go.Lib.trimPrefix x.Key [116]) cs ps xs tr) = true
  rotate_left
  ·rw [if_neg ho] at h; cases h
  rw [if_pos ho] at h
  have h' := Option.some.inj h
  simp only [Prod.mk.injEq] at h'
  obtain ⟨rfl, rfl⟩ := h'
  refine ⟨ho, ?_⟩
  obtain ⟨⟨n, rfl⟩, ⟨k, rfl⟩⟩ := decH_rng e1
  obtain ⟨q1, q2⟩ := parts_ex (fun v c hv => full_ex cdC hv) _ _ _ _ _ e2
  obtain ⟨q3, q4⟩ := parts_ex (fun v c hv => full_ex cdX hv) _ _ _ _ _ e3
  rw [Int.toNat_natCast] at q2 q4
  have hv := full_ex cdH e1
  rw [pairsS_eq, List.cons_append, List.append_assoc]
  show x :: l = ApiPair.mk (([116] : List UInt8) ++ Go.Lib.trimPrefix x.Key [116]) _ :: (enumP putC (Go.Lib.trimPrefix x.Key [116]) 99 0 cs ++ (enumP putX (Go.Lib.trimPrefix x.Key [116]) 105 0 xs ++ r3))
  rw [← q3, ← q1, ← pre_ex hp]
  have : x.Val = headV (ApiTable.mk (Go.Lib.trimPrefix x.Key [116]) cs ps xs tr) := by
   rw [hv]
   unfold headV
   rw [← q2, ← q4]
  rw [← this]
theorem pairsS_pos (t : ApiTable) : 0 < (pairsS t).length := by rw [pairsS_eq]; simp
def lateS (out : List ApiTable) (t : ApiTable) : Bool := match out.getLast? with
 | none => false
 | some u => !(ltS u.Name t.Name)
def readD : Nat → List ApiTable → List ApiPair → Option (List ApiTable)
 | 0, _, _ => none
 | n + 1, out, l => if l = [] then some out else match tableD l with
  | none => none
  | some (t, r) => if lateS out t = true then none else readD n (out ++ [t]) r
def resD (o : Option (List ApiTable)) : List ApiTable × Int := match o with
 | none => ([], 2)
 | some l => (l, 0)
theorem late_eq (out : List ApiTable) (nm : List UInt8) (h : out.length < 4611686018427387904) :
    (bif (decide ((out.length : Int) > (0 : Int))) then
                Option.bind (getI out (w64 ((out.length : Int) - (1 : Int)))) fun v270 =>
                some (!(ltS v270.Name nm))
              else
                some false) = some (match out.getLast? with | none => false | some u => !(ltS u.Name nm)) := by
  by_cases q : out = []
  · subst q; rfl
  · have hp : 0 < out.length := List.length_pos_iff.2 q
    rw [bif_decT (by omega), w64_id (by omega) (by omega), show (out.length : Int) - 1 = ((out.length - 1 : Nat) : Int) by omega, getI_at (by omega), bind_some', List.getLast?_eq_some_getLast q, List.getLast_eq_getElem]
theorem Read_eq (l : List ApiPair) (hl : Small l) (hn : l.length < 1073741824) : catalog_Read l = some (resD (readD (l.length + 1) [] l)) := by
  unfold catalog_Read
  have key : ∀ (n : Nat) (out : List ApiTable) (l : List ApiPair), l.length < n → Small l → out.length + l.length < 1073741824 → ∀ B : List ApiTable × List ApiPair → Option ((List ApiTable × List ApiPair) ⊕ (List ApiTable ⊕ (List ApiTable × Int))), B = (fun (y240, y241) =>
        bif (decide ((y241.length : Int) > (0 : Int))) then
          Option.bind (catalog_table y241) fun (r260, r261, r262, r263, r264, r265, r266) =>
          Option.bind (α := Bool)
            (bif (!r260) then
              some true
            else
              bif (decide ((y240.length : Int) > (0 : Int))) then
                Option.bind (getI y240 (w64 ((y240.length : Int) - (1 : Int)))) fun v270 =>
                some (!(ltS v270.Name r262))
              else
                some false)
            fun y268 =>
          bif y268 then
            some (Sum.inr (Sum.inr (([] : List ApiTable), (2 : Int))))
          else
            bif decide ((y240.length + [(ApiTable.mk r262 r263 r264 r265 r266)].length) * 96 ≤ room) then
            some (Sum.inl ((y240 ++ [(ApiTable.mk r262 r263 r264 r265 r266)]), r261))
            else none
        else
          some (Sum.inr (Sum.inl y240))) → loop B (out, l) = some (match readD n out l with | none => .inr ([], 2) | some o => .inl o) := by
    intro n
    induction n with
    | zero => intro out l h; omega
    | succ n ih =>
      intro out l h hs ho B hB
      cases l with
      | nil =>
        rw [loop_end (w := .inl out) (by rw [hB]; show (bif _ then _ else _) = _; rw [bif_decF (by simp)])]
        rfl
      | cons x r =>
        simp only [List.length_cons] at h ho
        obtain ⟨y, e1, e2⟩ := table_eq x r hs
        have hstep : B (out, x :: r) = Option.bind (some y) fun (r260, r261, r262, r263, r264, r265, r266) =>
          Option.bind (α := Bool)
            (bif (!r260) then
              some true
            else
              bif (decide ((out.length : Int) > (0 : Int))) then
                Option.bind (getI out (w64 ((out.length : Int) - (1 : Int)))) fun v270 =>
                some (!(ltS v270.Name r262))
              else
                some false)
            fun y268 =>
          bif y268 then
            some (Sum.inr (Sum.inr (([] : List ApiTable), (2 : Int))))
          else
            bif decide ((out.length + [(ApiTable.mk r262 r263 r264 r265 r266)].length) * 96 ≤ room) then
            some (Sum.inl ((out ++ [(ApiTable.mk r262 r263 r264 r265 r266)]), r261))
            else none := by
          rw [hB]
          show (bif _ then _ else _) = _
          rw [bif_decT (by simp <;> omega), e1]
        have hr : readD (n + 1) out (x :: r) = match tableD (x :: r) with
          | none => none
          | some (t, r) => if lateS out t = true then none else readD n (out ++ [t]) r := by
          show (if x :: r = [] then _ else _) = _
          rw [if_neg (by simp)]
        rcases e2 with ⟨t, r3, d1, d2, _, _, rfl⟩ | ⟨d1, d2⟩
        · have hr2 : readD (n + 1) out (x :: r) = if lateS out t = true then none else readD n (out ++ [t]) r3 := by rw [hr, d1]
          rw [hr2]
          rw [bind_some'] at hstep
          have hstep2 : B (out, x :: r) = Option.bind (bif (decide ((out.length : Int) > (0 : Int))) then
                Option.bind (getI out (w64 ((out.length : Int) - (1 : Int)))) fun v270 =>
                some (!(ltS v270.Name t.Name))
              else
                some false) fun y268 =>
          bif y268 then
            some (Sum.inr (Sum.inr (([] : List ApiTable), (2 : Int))))
          else
            bif decide ((out.length + [t].length) * 96 ≤ room) then
            some (Sum.inl ((out ++ [t]), r3))
            else none := hstep
          rw [late_eq out t.Name (by omega), bind_some'] at hstep2
          have hstep3 : B (out, x :: r) = bif lateS out t then
            some (Sum.inr (Sum.inr (([] : List ApiTable), (2 : Int))))
          else
            bif decide ((out.length + [t].length) * 96 ≤ room) then
            some (Sum.inl ((out ++ [t]), r3))
            else none := hstep2
          cases hlate : lateS out t with
          | true =>
            rw [hlate, cond_true] at hstep3
            rw [loop_end hstep3, if_pos rfl]
          | false =>
            rw [hlate, cond_false, bif_decT (by rw [room_val]; simp; omega)] at hstep3
            have hlen : r3.length < r.length + 1 := by
              have := congrArg List.length (tableD_ex d1).2
              have := pairsS_pos t
              simp at *
              omega
            rw [loop_step hstep3, ih (out ++ [t]) r3 (by omega) d2 (by simp; omega) B hB, if_neg (by simp)]
        · rw [hr, d1]
          obtain ⟨y1, y2⟩ := y
          simp only at d2
          subst d2
          have hstep2 : B (out, x :: r) = some (Sum.inr (Sum.inr (([] : List ApiTable), (2 : Int)))) := hstep
          rw [loop_end hstep2]
  refine lpE (key (l.length + 1) [] l (by omega) hl (by simp; omega) _ rfl) ?_
  unfold resD
  cases readD (l.length + 1) [] l <;> rfl
def RSim {α ρ : Type} (mk : α → Int → Bool → ρ) (I : α → Prop) (p : List UInt8) (bad : Bool) (r : Option ρ) (d : Option (α × List UInt8)) : Prop :=
 ∃ (x : α) (q : Nat) (b : Bool), r = some (mk x (q : Int) b) ∧ q ≤ p.length ∧ I x ∧ (bad = true → b = true) ∧ (bad = false → (d = some (x, p.drop q) ∧ b = false) ∨ (d = none ∧ b = true))
theorem RSim.bind {α β ρ σ : Type} {mk : α → Int → Bool → ρ} {mk' : β → Int → Bool → σ} {I : α → Prop} {I' : β → Prop} {p : List UInt8} {bad : Bool} {r : Option ρ} {d : Option (α × List UInt8)} {f : ρ → Option σ} {e : α × List UInt8 → Option (β × List UInt8)}
  (h : RSim mk I p bad r d) (k : ∀ (x : α) (q : Nat) (b : Bool), q ≤ p.length → I x → RSim mk' I' p b (f (mk x (q : Int) b)) (e (x, p.drop q))) : RSim mk' I' p bad (Option.bind r f) (Option.bind d e) := by
 obtain ⟨x, q, b, rfl, h1, h2, h3, h4⟩ := h
 obtain ⟨x', q', b', hz, k1, k2, k3, k4⟩ := k x q b h1 h2
 refine ⟨x', q', b', hz, k1, k2, fun hb => k3 (h3 hb), fun hb => ?_⟩
 rcases h4 hb with ⟨rfl, q⟩ | ⟨rfl, q⟩
 ·exact k4 q
 ·exact .inr ⟨rfl, k3 q⟩
theorem RSim.ret {α ρ : Type} {mk : α → Int → Bool → ρ} {I : α → Prop} {p : List UInt8} {bad : Bool} {x : α} {q : Nat} (hq : q ≤ p.length) (hI : I x) : RSim mk I p bad (some (mk x (q : Int) bad)) (some (x, p.drop q)) :=
 ⟨x, q, bad, rfl, hq, hI, fun hb => hb, fun hb => .inl ⟨rfl, hb⟩⟩
end Lv
namespace Lv
open Go Go.Proofs
variable [BaseTab]
variable [BaseTab]
end Lv
namespace Lv
open Go Go.Proofs
variable [BaseTab]
theorem same18_eq (a : List ApiTable) (h : a.length < 4611686018427387904) (ok : ∀ t ∈ a, OkT t) : law18_same a a = some true := by
 unfold law18_same
 rw [show ((a.length : Int) != (a.length : Int)) = false by simp, cond_false]
 refine lpE (lq1 (fun i => (i : Int)) a.length (w := .inl ()) (fun i hi => ?_) ?_ rfl) rfl
 ·show (bif _ then _ else _) = _
  rw [bif_decT (by omega), getI_at hi, bind_some', bind_some', ref17_Same_eq _ _ (ok _ (List.getElem_mem hi)), bind_some', decide_eq_true rfl, w64_succ (by omega)]
  rfl
 ·show (bif _ then _ else _) = _
  rw [bif_decF (by omega)]
theorem lt_cons (x y : UInt8) (a b : List UInt8) : ltS (x :: a) (y :: b) = (decide (x < y) || (x == y && ltS a b)) := by
 by_cases h : x < y
 ·simp [ltS, Op.bytesLess, h]
 ·by_cases k : x = y
  ·subst k; simp [ltS, Op.bytesLess, h]
  ·simp [ltS, Op.bytesLess, h, k]
theorem lt_nil (y : UInt8) (b : List UInt8) : ltS [] (y :: b) = true := by simp [ltS, Op.bytesLess]
theorem lt_not_nil (a : List UInt8) : ltS a [] = false := by cases a <;> simp [ltS, Op.bytesLess]
theorem lt_pre (p a b : List UInt8) : ltS (p ++ a) (p ++ b) = ltS a b := by
 induction p with
 | nil => rfl
 | cons x p ih =>
  rw [List.cons_append, List.cons_append, lt_cons, ih]
  have : ¬ x < x := fun h => absurd (UInt8.lt_iff_toNat_lt.1 h) (by omega)
  simp [this]
theorem lt_ext (a : List UInt8) (y : UInt8) (b : List UInt8) : ltS a (a ++ y :: b) = true := by
 have := lt_pre a [] (y :: b)
 rw [List.append_nil] at this
 rw [this, lt_nil]
theorem lt_trans3 : ∀ {a b c : List UInt8}, ltS a b = true → ltS b c = true → ltS a c = true
 | a, b, [], _, h => by rw [lt_not_nil] at h; cases h
 | a, [], z :: c, h, _ => by rw [lt_not_nil] at h; cases h
 | [], y :: b, z :: c, _, _ => lt_nil _ _
 | x :: a, y :: b, z :: c, h, k => by
  rw [lt_cons] at h k ⊢
  simp only [Bool.or_eq_true, decide_eq_true_eq, Bool.and_eq_true, beq_iff_eq] at h k ⊢
  rcases h with h | ⟨rfl, h⟩
  ·rcases k with k | ⟨rfl, k⟩
   ·exact .inl (UInt8.lt_iff_toNat_lt.2 (Nat.lt_trans (UInt8.lt_iff_toNat_lt.1 h) (UInt8.lt_iff_toNat_lt.1 k)))
   ·exact .inl h
  ·rcases k with k | ⟨rfl, k⟩
   ·exact .inl k
   ·exact .inr ⟨rfl, lt_trans3 h k⟩
theorem lt_zero : ∀ (a b : List UInt8) (r : List UInt8), ltS a b = true → (∀ c ∈ b, 0 < c) → ltS (a ++ 0 :: r) b = true
 | [], [], r, h, _ => by rw [lt_not_nil] at h; cases h
 | [], y :: b, r, _, hb => by
  show ltS (0 :: r) (y :: b) = true
  rw [lt_cons, decide_eq_true (hb y (by simp))]
  rfl
 | x :: a, [], r, h, _ => by rw [lt_not_nil] at h; cases h
 | x :: a, y :: b, r, h, hb => by
  rw [List.cons_append, lt_cons]
  rw [lt_cons] at h
  simp only [Bool.or_eq_true, decide_eq_true_eq, Bool.and_eq_true, beq_iff_eq] at h ⊢
  rcases h with h | ⟨h1, h2⟩
  ·exact .inl h
  ·exact .inr ⟨h1, lt_zero a b r h2 (fun c hc => hb c (by simp [hc]))⟩
def chainF : List UInt8 → List ApiPair → Prop
 | _, [] => True
 | k, x :: r => ltS k x.Key = true ∧ chainF x.Key r
theorem chain_app : ∀ (k : List UInt8) (a b : List ApiPair), chainF k a → (∀ k', (k' = k ∨ ∃ x ∈ a, k' = x.Key) → chainF k' b) → chainF k (a ++ b)
 | k, [], b, _, h => h k (.inl rfl)
 | k, x :: a, b, ha, h => ⟨ha.1, chain_app x.Key a b ha.2 fun k' hk => h k' (by
  rcases hk with rfl | ⟨y, hy, rfl⟩
  ·exact .inr ⟨x, by simp, rfl⟩
  ·exact .inr ⟨y, by simp [hy], rfl⟩)⟩
theorem chain_get : ∀ (k : List UInt8) (l : List ApiPair), chainF k l → ∀ i (h : i + 1 < l.length), ltS (l[i]'(by omega)).Key (l[i + 1]'h).Key = true
 | _, [], _, i, h => by simp at h
 | _, [x], _, i, h => by simp at h
 | k, x :: y :: r, hc, 0, h => hc.2.1
 | k, x :: y :: r, hc, i + 1, h => chain_get x.Key (y :: r) hc.2 i (by simpa using h)
theorem cN_lt (nm : List UInt8) (kd : UInt8) (i : Nat) (h : i + 1 < 256) : ltS (cN nm kd i) (cN nm kd (i + 1)) = true := by
 unfold cN
 rw [lt_pre, lt_cons, lt_cons, lt_cons]
 have : u8i (i : Int) < u8i ((i + 1 : Nat) : Int) := by
  rw [UInt8.lt_iff_toNat_lt]
  unfold u8i
  simp
  omega
 rw [decide_eq_true this]
 simp
theorem cN_kd (nm : List UInt8) (i j : Nat) : ltS (cN nm 99 i) (cN nm 105 j) = true := by
 unfold cN
 rw [lt_pre, lt_cons, lt_cons]
 simp
theorem head_cN (nm : List UInt8) (kd : UInt8) (i : Nat) : ltS (([116] : List UInt8) ++ nm) (cN nm kd i) = true := by
 unfold cN
 exact lt_ext _ _ _
theorem chain_enum {α : Type} (f : α → List UInt8) (nm : List UInt8) (kd : UInt8) : ∀ (cs : List α) (i : Nat) (k : List UInt8), i + cs.length ≤ 256 → ltS k (cN nm kd i) = true → chainF k (enumP f nm kd i cs)
 | [], _, _, _, _ => trivial
 | c :: cs, i, k, h, hk => ⟨hk, by
  simp only [List.length_cons] at h
  cases cs with
  | nil => trivial
  | cons c2 cs2 => exact chain_enum f nm kd (c2 :: cs2) (i + 1) _ (by omega) (cN_lt nm kd i (by simp only [List.length_cons] at h; omega))⟩
theorem enum_key {α : Type} (f : α → List UInt8) (nm : List UInt8) (kd : UInt8) : ∀ (cs : List α) (i : Nat), ∀ x ∈ enumP f nm kd i cs, ∃ j, x.Key = cN nm kd j
 | [], _, x, h => by cases h
 | c :: cs, i, x, h => by
  rcases List.mem_cons.1 h with rfl | h
  ·exact ⟨i, rfl⟩
  ·exact enum_key f nm kd cs (i + 1) x h
theorem chain_table (t : ApiTable) (h : okS t = true) (k : List UInt8) (hk : ltS k (([116] : List UInt8) ++ t.Name) = true) : chainF k (pairsS t) := by
 have R := RightN.of (okS_chk h).1
 have l1 := R.r.len
 have l3 := R.r.ixs
 rw [pairsS_eq]
 refine ⟨hk, chain_app _ _ _ (chain_enum putC t.Name 99 t.Cols 0 _ (by omega) (head_cN _ _ _)) fun k' hk' => ?_⟩
 refine chain_enum putX t.Name 105 t.Indexes 0 _ (by omega) ?_
 rcases hk' with rfl | ⟨x, hx, rfl⟩
 ·exact head_cN _ _ _
 ·obtain ⟨j, e⟩ := enum_key _ _ _ _ _ x hx
  rw [e]
  exact cN_kd _ _ _
theorem table_key (t : ApiTable) : ∀ x ∈ pairsS t, x.Key = ([116] : List UInt8) ++ t.Name ∨ ∃ r, x.Key = (([116] : List UInt8) ++ t.Name) ++ 0 :: r := by
 intro x hx
 rw [pairsS_eq] at hx
 rcases List.mem_cons.1 hx with rfl | hx
 ·exact .inl rfl
 ·rcases List.mem_append.1 hx with hx | hx
  ·obtain ⟨j, e⟩ := enum_key _ _ _ _ _ x hx
   exact .inr ⟨_, e⟩
  ·obtain ⟨j, e⟩ := enum_key _ _ _ _ _ x hx
   exact .inr ⟨_, e⟩
theorem name_pos {s : List UInt8} (h : nameS s = true) : ∀ c ∈ s, 0 < c := by
 cases s with
 | nil => intro c hc; cases hc
 | cons x r =>
  simp only [nameS, Bool.and_eq_true, decide_eq_true_eq, List.all_eq_true] at h
  have pos : ∀ c : UInt8, 48 ≤ c.toNat → 0 < c := by
   intro c hc
   rw [UInt8.lt_iff_toNat_lt]
   have e : (0 : UInt8).toNat = 0 := rfl
   omega
  have let48 : ∀ c : UInt8, letter c = true → 48 ≤ c.toNat := by
   intro c hc
   simp only [letter, Bool.and_eq_true, decide_eq_true_eq] at hc
   have := UInt8.le_iff_toNat_le.1 hc.1
   have e : (97 : UInt8).toNat = 97 := rfl
   omega
  intro c hc
  rcases List.mem_cons.1 hc with rfl | hc
  ·exact pos _ (let48 _ h.2.1)
  ·have := h.2.2 c hc
   simp only [nchar, Bool.or_eq_true, Bool.and_eq_true, decide_eq_true_eq, beq_iff_eq] at this
   rcases this with (k | k) | k
   ·exact pos _ (let48 _ k)
   ·subst k; decide
   ·have := UInt8.le_iff_toNat_le.1 k.1
    have e : (48 : UInt8).toNat = 48 := rfl
    exact pos _ (by omega)
theorem chk_name {t : ApiTable} (h : chkS t = 0) : nameS t.Name = true := by
 unfold chkS at h
 by_cases h1 : nameS t.Name = false
 ·rw [if_pos h1] at h; cases h
 ·simpa using h1
def risT : List ApiTable → List ApiTable → Prop
 | _, [] => True
 | out, t :: ts => lateS out t = false ∧ risT (out ++ [t]) ts
theorem risT_snoc : ∀ (out ts : List ApiTable) (t : ApiTable), risT out ts → lateS (out ++ ts) t = false → risT out (ts ++ [t])
 | out, [], t, _, h => ⟨by simpa using h, trivial⟩
 | out, u :: ts, t, h, k => ⟨h.1, risT_snoc (out ++ [u]) ts t h.2 (by simpa using k)⟩
def catP (ts : List ApiTable) : List ApiPair := (ts.map pairsS).flatten
theorem catP_cons (t : ApiTable) (ts : List ApiTable) : catP (t :: ts) = pairsS t ++ catP ts := rfl
theorem readD_cat : ∀ (ts out : List ApiTable) (n : Nat), (∀ t ∈ ts, okS t = true) → risT out ts → (catP ts).length < n → readD n out (catP ts) = some (out ++ ts)
 | _, _, 0, _, _, h => by omega
 | [], out, n + 1, _, _, _ => by
  show (if ([] : List ApiPair) = [] then some out else _) = _
  rw [if_pos rfl, List.append_nil]
 | t :: ts, out, n + 1, hok, hr, hn => by
  rw [catP_cons] at hn ⊢
  have hp := pairsS_pos t
  rw [List.length_append] at hn
  show (if pairsS t ++ catP ts = [] then some out else match tableD (pairsS t ++ catP ts) with
   | none => none
   | some (t, r) => if lateS out t = true then none else readD n (out ++ [t]) r) = _
  have hne : ¬ (pairsS t ++ catP ts = []) := fun e => by
   have := congrArg List.length e
   simp at this
   have := List.length_pos_iff.1 hp
   simp_all
  rw [if_neg hne, tableD_rt t _ (hok t (by simp))]
  show (if lateS out t = true then none else readD n (out ++ [t]) (catP ts)) = _
  rw [hr.1, if_neg (by simp), readD_cat ts (out ++ [t]) n (fun u hu => hok u (by simp [hu])) hr.2 (by omega), List.append_assoc]
  rfl
theorem readD_cut : ∀ (n : Nat) (out : List ApiTable) (l : List ApiPair) (res : List ApiTable), readD n out l = some res → ∃ ts, l = catP ts ∧ ∀ t ∈ ts, okS t = true
 | 0, out, l, res, h => by cases h
 | n + 1, out, [], res, h => ⟨[], rfl, fun t ht => by cases ht⟩
 | n + 1, out, x :: r, res, h => by
  have hr : readD (n + 1) out (x :: r) = match tableD (x :: r) with
   | none => none
   | some (t, r) => if lateS out t = true then none else readD n (out ++ [t]) r := by
   show (if x :: r = [] then _ else _) = _
   rw [if_neg (by simp)]
  rw [hr] at h
  cases hd : tableD (x :: r) with
  | none => rw [hd] at h; cases h
  | some y =>
   obtain ⟨t, r3⟩ := y
   rw [hd] at h
   have h : (if lateS out t = true then none else readD n (out ++ [t]) r3) = some res := h
   by_cases q : lateS out t = true
   ·rw [if_pos q] at h; cases h
   ·rw [if_neg q] at h
    have ex := tableD_ex hd
    obtain ⟨ts, e2, e3⟩ := readD_cut n (out ++ [t]) r3 res h
    refine ⟨t :: ts, by rw [ex.2, e2]; rfl, fun u hu => ?_⟩
    rcases List.mem_cons.1 hu with rfl | hu
    ·exact ex.1
    ·exact e3 u hu
theorem cut_front (t : ApiTable) (ts : List ApiTable) (h : okS t = true) (n : Nat) (out : List ApiTable) : readD n out ((catP (t :: ts)).drop 1) = none := by
 cases hr : readD n out ((catP (t :: ts)).drop 1) with
 | none => rfl
 | some res =>
  exfalso
  obtain ⟨us, e1, e2⟩ := readD_cut _ _ _ _ hr
  have R := RightN.of (okS_chk h).1
  have l1 := R.r.len
  rw [catP_cons, pairsS_eq] at e1
  cases hc : t.Cols with
  | nil => rw [hc] at l1; simp at l1
  | cons c cs =>
   rw [hc] at e1
   have e1 : ApiPair.mk (cN t.Name 99 0) (putC c) :: (enumP putC t.Name 99 1 cs ++ enumP putX t.Name 105 0 t.Indexes ++ catP ts) = catP us := by
    rw [← e1]; rfl
   cases us with
   | nil => cases e1
   | cons u us =>
    rw [catP_cons, pairsS_eq] at e1
    have e3 := congrArg (fun l : List ApiPair => l.head?.map ApiPair.Key) e1
    have e4 : cN t.Name 99 0 = ([116] : List UInt8) ++ u.Name := by simpa using e3
    have e5 : t.Name ++ [0, 99, u8i ((0 : Nat) : Int)] = u.Name := by
     unfold cN at e4
     rw [List.append_assoc] at e4
     exact List.append_cancel_left e4
    have p := name_pos (chk_name (okS_chk (e2 u (by simp))).1) 0 (by rw [← e5]; simp)
    exact absurd p (by decide)
theorem head_len {t u : ApiTable} (h : okS t = true) (k : okS u = true) (e : headV t = headV u) : (pairsS t).length = (pairsS u).length := by
 have hd : ∀ t : ApiTable, okS t = true → full decH (headV t) = some (t.Tree, (t.Cols.length : Int), t.Primary, (t.Indexes.length : Int)) := by
  intro t h
  obtain ⟨h1, h2, h3⟩ := okS_chk h
  have R := RightN.of h1
  have l1 := R.r.len
  have l2 := R.r.pri
  have l3 := R.r.ixs
  exact full_rt cdH (x := (t.Tree, (t.Cols.length : Int), t.Primary, (t.Indexes.length : Int))) ⟨⟨by show 0 ≤ t.Tree; omega, by show t.Tree < _; omega⟩, ⟨by show (0 : Int) ≤ (t.Cols.length : Int); omega, by show (t.Cols.length : Int) < _; omega⟩, ⟨by show t.Primary.length < _; omega, fun x hx => by
   have := placesS_in R.r.pla x hx
   omega⟩, ⟨by show (0 : Int) ≤ (t.Indexes.length : Int); omega, by show (t.Indexes.length : Int) < _; omega⟩⟩
 have e1 := hd t h
 rw [e, hd u k] at e1
 simp only [Option.some.injEq, Prod.mk.injEq] at e1
 rw [pairsS_eq, pairsS_eq]
 simp only [List.length_cons, List.length_append, enumP_len]
 omega
theorem cut_back : ∀ (ts us : List ApiTable), (∀ t ∈ ts, okS t = true) → (∀ u ∈ us, okS u = true) → ts ≠ [] → (catP ts).dropLast ≠ catP us
 | [], _, _, _, h => absurd rfl h
 | t :: ts, us, ht, hu, _ => by
  intro e
  have hk := ht t (by simp)
  have R := RightN.of (okS_chk hk).1
  have l1 := R.r.len
  have two : 2 ≤ (pairsS t).length := by
   rw [pairsS_eq]
   simp only [List.length_cons, List.length_append, enumP_len]
   omega
  cases us with
  | nil =>
   have := congrArg List.length e
   rw [catP_cons, List.length_dropLast, List.length_append] at this
   have e0 : (catP ([] : List ApiTable)).length = 0 := rfl
   omega
  | cons u us =>
   have hku := hu u (by simp)
   -- the heads agree
   have hh : headV t = headV u ∧ t.Name = u.Name := by
    have e3 := congrArg (fun l : List ApiPair => l.head?) e
    rw [catP_cons, catP_cons] at e3
    have h2 : 1 < (pairsS t ++ catP ts).length := by rw [List.length_append]; omega
    have e4 : (pairsS t ++ catP ts).dropLast.head? = (pairsS t ++ catP ts).head? := by
     match hq : pairsS t ++ catP ts, h2 with
     | a :: b :: r, _ => rfl
    have e3 : (pairsS t ++ catP ts).dropLast.head? = (pairsS u ++ catP us).head? := e3
    rw [e4, pairsS_eq, pairsS_eq] at e3
    simp only [List.cons_append, List.head?_cons, Option.some.injEq, ApiPair.mk.injEq] at e3
    exact ⟨e3.2, by simpa using e3.1⟩
   have hl := head_len hk hku hh.1
   cases ts with
   | nil =>
    have := congrArg List.length e
    rw [catP_cons, catP_cons, List.length_dropLast, List.length_append, List.length_append] at this
    have e0 : (catP ([] : List ApiTable)).length = 0 := rfl
    omega
   | cons t2 ts2 =>
    have hne : catP (t2 :: ts2) ≠ [] := by
     rw [catP_cons, pairsS_eq]; simp
    rw [catP_cons t, catP_cons u, List.dropLast_append_of_ne_nil hne] at e
    have e5 := List.append_inj e hl
    have d1 := tableD_rt t [] hk
    exact cut_back (t2 :: ts2) us (fun v hv => ht v (by simp [hv])) (fun v hv => hu v (by simp [hv])) (by simp) e5.2
theorem chain_cat : ∀ (ts out : List ApiTable) (k : List UInt8), (∀ t ∈ ts, okS t = true) → risT out ts → (∀ t ∈ ts.head?, ltS k (([116] : List UInt8) ++ t.Name) = true) → chainF k (catP ts)
 | [], _, _, _, _, _ => trivial
 | t :: ts, out, k, hok, hr, hk => by
  rw [catP_cons]
  refine chain_app _ _ _ (chain_table t (hok t (by simp)) k (hk t rfl)) fun k' hk' => ?_
  cases ts with
  | nil => trivial
  | cons u us =>
   have hlt : ltS t.Name u.Name = true := by
    have := hr.2.1
    unfold lateS at this
    rw [List.getLast?_append] at this
    simpa using this
   have hpos := name_pos (chk_name (okS_chk (hok u (by simp))).1)
   refine chain_cat (u :: us) (out ++ [t]) k' (fun v hv => hok v (by simp [hv])) hr.2 fun v hv => ?_
   have hv : u = v := by simpa using hv
   subst hv
   have base : ltS (([116] : List UInt8) ++ t.Name) (([116] : List UInt8) ++ u.Name) = true := by rw [lt_pre]; exact hlt
   rcases hk' with rfl | ⟨x, hx, rfl⟩
   ·have h1 := hk t rfl
    exact lt_trans3 h1 base
   ·rcases table_key t x hx with e | ⟨r, e⟩
    ·rw [e]; exact base
    ·rw [e, List.append_assoc, lt_pre]
     exact lt_zero _ _ _ hlt hpos
theorem loop_totR {Y W : Type} {B : Y → Option (Y ⊕ W)} (I : Y → Prop) (Q : W → Prop) (μ : Y → Nat) (h : ∀ y, I y → (∃ y', B y = some (.inl y') ∧ I y' ∧ μ y' < μ y) ∨ ∃ w, B y = some (.inr w) ∧ Q w) : ∀ y, I y → ∃ w, loop B y = some w ∧ Q w := by
 have key : ∀ (n : Nat) (y : Y), μ y < n → I y → ∃ w, loop B y = some w ∧ Q w := by
  intro n
  induction n with
  | zero => intro y h; omega
  | succ n ih =>
   intro y hn hy
   rcases h y hy with ⟨y', e, i', m'⟩ | ⟨w, e, q⟩
   ·rw [loop_step e]
    exact ih y' (by omega) i'
   ·exact ⟨w, loop_end e, q⟩
 exact fun y hy => key (μ y + 1) y (by omega) hy
theorem pairs_len {t : ApiTable} (h : okS t = true) : (pairsS t).length ≤ 31 := by
 have R := RightN.of (okS_chk h).1
 have l1 := R.r.len
 have l3 := R.r.ixs
 rw [pairsS_eq]
 simp only [List.length_cons, List.length_append, enumP_len]
 omega
theorem cat_len : ∀ (ts : List ApiTable), (∀ t ∈ ts, okS t = true) → (catP ts).length ≤ 31 * ts.length
 | [], _ => by simp [catP]
 | t :: ts, h => by
  have := pairs_len (h t (by simp))
  have := cat_len ts (fun u hu => h u (by simp [hu]))
  rw [catP_cons, List.length_append, List.length_cons]
  omega
theorem enum_val {α : Type} (f : α → List UInt8) (nm : List UInt8) (kd : UInt8) : ∀ (cs : List α) (i : Nat), ∀ x ∈ enumP f nm kd i cs, ∃ c ∈ cs, x.Val = f c
 | [], _, x, h => by cases h
 | c :: cs, i, x, h => by
  rcases List.mem_cons.1 h with rfl | h
  ·exact ⟨c, by simp, rfl⟩
  ·obtain ⟨d, hd, e⟩ := enum_val f nm kd cs (i + 1) x h
   exact ⟨d, by simp [hd], e⟩
theorem small_pairs {t : ApiTable} (h : okS t = true) : Small (pairsS t) := by
 have hc := (okS_chk h).1
 have R := RightN.of hc
 have l1 := R.r.len
 have l2 := R.r.pri
 have l3 := R.r.ixs
 have nm := name_short (chk_name hc)
 intro x hx
 have key : x.Key.length < 1073741824 := by
  rw [pairsS_eq] at hx
  rcases List.mem_cons.1 hx with rfl | hx
  ·simp; omega
  ·rcases List.mem_append.1 hx with hx | hx
   ·obtain ⟨j, e⟩ := enum_key _ _ _ _ _ x hx
    rw [e]; simp [cN]; omega
   ·obtain ⟨j, e⟩ := enum_key _ _ _ _ _ x hx
    rw [e]; simp [cN]; omega
 refine ⟨?_, key⟩
 rw [pairsS_eq] at hx
 rcases List.mem_cons.1 hx with rfl | hx
 ·show (headV t).length < _
  simp [headV, bytesN_len]; omega
 ·rcases List.mem_append.1 hx with hx | hx
  ·obtain ⟨c, hcm, e⟩ := enum_val _ _ _ _ _ x hx
   have cn := R.cn c hcm
   rw [e]; simp [putC, bytesN_len]; omega
  ·obtain ⟨c, hcm, e⟩ := enum_val _ _ _ _ _ x hx
   have xn := R.xn c hcm
   have := prt_len c.Parts
   rw [e]; simp only [putX, bytesN_len, List.length_append, List.length_cons, List.length_nil, List.length_map, this]; omega
theorem small_cat {ts : List ApiTable} (h : ∀ t ∈ ts, okS t = true) : Small (catP ts) := by
 intro x hx
 unfold catP at hx
 rw [List.mem_flatten] at hx
 obtain ⟨l, hl, hx⟩ := hx
 obtain ⟨t, ht, rfl⟩ := List.mem_map.1 hl
 exact small_pairs (h t ht) x hx
theorem CatalogLists_aw (ha : law18_awake = some true) (tables : List ApiTable) (h : ∀ t ∈ tables, OkT t ∧ ∀ x ∈ t.Indexes, OkY x) (hn : tables.length < 4611686018427387904) : law18_CatalogLists tables = some true := by
  unfold law18_CatalogLists
  rw [ha, bind_some', Bool.not_true, cond_false]
  obtain ⟨⟨l, own⟩, hw, hQ⟩ := loop_totR (Y := (List ApiPair) × (List ApiTable) × Int) (W := (List ApiPair) × (List ApiTable)) (B := fun (y604, y605, y606) =>
          Option.bind (α := Bool)
            (bif (decide (y606 < (tables.length : Int))) then
              some (decide ((y605.length : Int) < (8 : Int)))
            else
              some false)
            fun y643 =>
          bif y643 then
            Option.bind (α := (List ApiPair) × (List ApiTable))
              (Option.bind (getI tables y606) fun v661 =>
              Option.bind (catalog_Pairs v661) fun (r663, r664) =>
              Option.bind (α := Bool)
                (bif (r664 == (0 : Int)) then
                  bif ((y605.length : Int) == (0 : Int)) then
                    some true
                  else
                    Option.bind (getI y605 (w64 ((y605.length : Int) - (1 : Int)))) fun v669 =>
                    Option.bind (getI tables y606) fun v670 =>
                    some (ltS v669.Name v670.Name)
                else
                  some false)
                fun y667 =>
              bif y667 then
                bif decide ((y604.length + r663.length) * 32 ≤ room) then
                Option.bind (getI tables y606) fun v672 =>
                bif decide ((y605.length + [v672].length) * 96 ≤ room) then
                some ((y604 ++ r663), (y605 ++ [v672]))
                else none
                else none
              else
                some (y604, y605))
              fun (y658, y659) =>
            some (Sum.inl (y658, y659, (w64 (y606 + (1 : Int)))))
          else
            some (Sum.inr (y604, y605)))
    (fun y => ∃ n : Nat, y.2.2 = (n : Int) ∧ y.1 = catP y.2.1 ∧ y.2.1.length ≤ 8 ∧ (∀ t ∈ y.2.1, okS t = true ∧ OkT t) ∧ risT [] y.2.1)
    (fun w => w.1 = catP w.2 ∧ w.2.length ≤ 8 ∧ (∀ t ∈ w.2, okS t = true ∧ OkT t) ∧ risT [] w.2) (fun y => ((tables.length : Int) - y.2.2).toNat) (fun y hy => by
      obtain ⟨l, own, i⟩ := y
      obtain ⟨n, k1, k2, k3, k4, k5⟩ := hy
      simp only at k1 k2 k3 k4 k5
      subst k1
      subst k2
      show (∃ y', Option.bind (bif _ then _ else _) _ = _ ∧ _) ∨ (∃ w, Option.bind (bif _ then _ else _) _ = _ ∧ _)
      by_cases q : n < tables.length
      rotate_left
      · right
        exact ⟨(catP own, own), by rw [bif_decF (by omega)]; rfl, rfl, k3, k4, k5⟩
      by_cases q2 : own.length < 8
      rotate_left
      · right
        exact ⟨(catP own, own), by rw [bif_decT (by omega), bind_some', bif_decF (by omega)], rfl, k3, k4, k5⟩
      left
      have ok := h _ (List.getElem_mem q)
      have cl := cat_len own (fun t ht => (k4 t ht).1)
      by_cases ho : okS tables[n] = true
      · have pl := pairs_len ho
        have late : (bif ((own.length : Int) == (0 : Int)) then
                    some true
                  else
                    Option.bind (getI own (w64 ((own.length : Int) - (1 : Int)))) fun v669 =>
                    Option.bind (getI tables (n : Int)) fun v670 =>
                    some (ltS v669.Name v670.Name)) = some (!(lateS own tables[n])) := by
          by_cases e : own = []
          · subst e; rfl
          · have hp : 0 < own.length := List.length_pos_iff.2 e
            rw [show ((own.length : Int) == 0) = false by simp; omega, cond_false, w64_id (by omega) (by omega), show (own.length : Int) - 1 = ((own.length - 1 : Nat) : Int) by omega, getI_at (by omega), bind_some', getI_at q, bind_some']
            unfold lateS
            rw [List.getLast?_eq_some_getLast e, List.getLast_eq_getElem]
            simp
        cases hl : lateS own tables[n] with
        | false =>
          refine ⟨(catP own ++ pairsS tables[n], own ++ [tables[n]], ((n + 1 : Nat) : Int)), ?_, ⟨n + 1, rfl, ?_, ?_, ?_, ?_⟩, ?_⟩
          · rw [bif_decT (by omega), bind_some', bif_decT (by omega), getI_at q, bind_some', Pairs_eq _ ok.1 ok.2, if_pos ho, bind_some']
            show Option.bind (Option.bind (bif ((0 : Int) == 0) then _ else _) _) _ = _
            rw [show ((0 : Int) == 0) = true from rfl, cond_true, ← getI_at q, late, hl, bind_some', Bool.not_false, cond_true]
            rw [bif_decT (by rw [room_val]; omega), getI_at q, bind_some', bif_decT (by rw [room_val]; simp; omega), bind_some', w64_succ (by omega)]
          · show _ = catP (own ++ [tables[n]])
            unfold catP
            simp
          · simp; omega
          · intro t ht
            rcases List.mem_append.1 ht with ht | ht
            · exact k4 t ht
            · have : t = tables[n] := by simpa using ht
              subst this
              exact ⟨ho, ok.1⟩
          · exact risT_snoc [] own _ k5 (by simpa using hl)
          · show ((tables.length : Int) - ((n + 1 : Nat) : Int)).toNat < ((tables.length : Int) - (n : Int)).toNat
            omega
        | true =>
          refine ⟨(catP own, own, ((n + 1 : Nat) : Int)), ?_, ⟨n + 1, rfl, rfl, k3, k4, k5⟩, ?_⟩
          · rw [bif_decT (by omega), bind_some', bif_decT (by omega), getI_at q, bind_some', Pairs_eq _ ok.1 ok.2, if_pos ho, bind_some']
            show Option.bind (Option.bind (bif ((0 : Int) == 0) then _ else _) _) _ = _
            rw [show ((0 : Int) == 0) = true from rfl, cond_true, ← getI_at q, late, hl, bind_some', Bool.not_true, cond_false, bind_some', w64_succ (by omega)]
          · show ((tables.length : Int) - ((n + 1 : Nat) : Int)).toNat < ((tables.length : Int) - (n : Int)).toNat
            omega
      · refine ⟨(catP own, own, ((n + 1 : Nat) : Int)), ?_, ⟨n + 1, rfl, rfl, k3, k4, k5⟩, ?_⟩
        · rw [bif_decT (by omega), bind_some', bif_decT (by omega), getI_at q, bind_some', Pairs_eq _ ok.1 ok.2, if_neg ho, bind_some']
          show Option.bind (Option.bind (bif ((1 : Int) == 0) then _ else _) _) _ = _
          rw [show ((1 : Int) == 0) = false from rfl, cond_false, bind_some', cond_false, bind_some', w64_succ (by omega)]
        · show ((tables.length : Int) - ((n + 1 : Nat) : Int)).toNat < ((tables.length : Int) - (n : Int)).toNat
          omega) (([] : List ApiPair), ([] : List ApiTable), (0 : Int)) ⟨0, rfl, rfl, by simp, fun t ht => (by cases ht), trivial⟩
  rw [hw, bind_some', bind_some']
  obtain ⟨hl, h8, hok, hris⟩ := hQ
  have hl : l = catP own := hl
  have h8 : own.length ≤ 8 := h8
  have hok : ∀ t ∈ own, okS t = true ∧ OkT t := hok
  have hris : risT [] own := hris
  subst hl
  have hokS : ∀ t ∈ own, okS t = true := fun t ht => (hok t ht).1
  have cl := cat_len own hokS
  have sm := small_cat hokS
  have chain : chainF [] (catP own) := chain_cat own [] [] hokS hris (fun t _ => by exact lt_nil _ _)
  refine lpE (lq1 (fun i => ((i + 1 : Nat) : Int)) ((catP own).length - 1) (w := .inl ()) (fun i hi => ?_) ?_ rfl) ?_
  · show (bif _ then _ else _) = _
    have lt := chain_get [] _ chain i (by omega)
    rw [bif_decT (by omega), w64_id (n := ((i + 1 : Nat) : Int) - 1) (by omega) (by omega), show ((i + 1 : Nat) : Int) - 1 = (i : Int) by omega, getI_at (by omega), bind_some', getI_at (by omega), bind_some', lt, w64_succ (by omega)]
    rfl
  · show (bif _ then _ else _) = _
    rw [bif_decF (by omega)]
  show (bif _ then _ else _) = _
  rw [bif_decT (by rw [room_val]; simp; omega)]
  show Option.bind (catalog_Read (catP own)) _ = _
  have r1 : catalog_Read (catP own) = some (own, 0) := by
    rw [Read_eq _ sm (by omega), readD_cat own [] _ hokS hris (by omega)]
    rfl
  rw [r1, bind_some']
  refine bo (a := false) ?_ ?_
  · show (bif ((0 : Int) != 0) then _ else _) = _
    rw [show ((0 : Int) != 0) = false from rfl, cond_false, same18_eq own (by omega) (fun t ht => (hok t ht).2), bind_some']
    rfl
  rw [cond_false]
  by_cases e0 : own = []
  · subst e0; rfl
  have hlen : 0 < (catP own).length := by
    cases own with
    | nil => exact absurd rfl e0
    | cons t ts =>
      have := pairsS_pos t
      rw [catP_cons, List.length_append]; omega
  rw [show (((catP own).length : Int) == 0) = false from beq_eq_false_iff_ne.2 (by omega), cond_false, bif_decT (by omega), show (1 : Int).toNat = 1 from rfl, bif_decT (by omega), bif_decT (by rw [room_val]; simp; omega)]
  have t1 : List.take ((catP own).length - 1) (List.drop (0 + 1) (catP own)) = (catP own).drop 1 := List.take_of_length_le (by simp)
  have r2 : catalog_Read ((catP own).drop 1) = some ([], 2) := by
    have ld : ((catP own).drop 1).length ≤ (catP own).length := by rw [List.length_drop]; omega
    rw [Read_eq _ (fun x hx => sm x (List.mem_of_mem_drop hx)) (by omega)]
    cases own with
    | nil => exact absurd rfl e0
    | cons t ts => rw [cut_front t ts (hokS t (by simp))]; rfl
  rw [t1]
  show Option.bind (catalog_Read ((catP own).drop 1)) _ = _
  rw [r2, bind_some']
  have w1 : (w64 (((catP own).length : Int) - 1)).toNat = (catP own).length - 1 := by rw [w64_id (by omega) (by omega)]; omega
  have w2 : w64 (((catP own).length : Int) - 1) = (((catP own).length - 1 : Nat) : Int) := by rw [w64_id (by omega) (by omega)]; omega
  have t2 : List.take ((catP own).length - 1) (List.drop 0 (catP own)) = (catP own).dropLast := by rw [List.drop_zero, List.dropLast_eq_take]
  have r3 : catalog_Read (catP own).dropLast = some ([], 2) := by
    have ld : (catP own).dropLast.length ≤ (catP own).length := by rw [List.length_dropLast]; omega
    rw [Read_eq _ (fun x hx => sm x (List.dropLast_subset _ hx)) (by omega)]
    cases hr : readD ((catP own).dropLast.length + 1) [] (catP own).dropLast with
    | none => rfl
    | some res =>
      obtain ⟨us, e1, e2⟩ := readD_cut _ _ _ _ hr
      exact absurd e1 (cut_back own us hokS e2 e0)
  show (bif _ then _ else _) = _
  rw [w1, w2, bif_decT (by omega), bif_decT (by omega), t2, bif_decT (by rw [room_val]; simp; omega)]
  show Option.bind (catalog_Read (catP own).dropLast) _ = _
  rw [r3, bind_some']
  rfl
theorem CatalogLists_true (tables : List ApiTable) (h : ∀ t ∈ tables, OkT t ∧ ∀ x ∈ t.Indexes, OkY x) (hn : tables.length < 4611686018427387904) : law18_CatalogLists tables = some true := CatalogLists_aw law18_awake_some tables h hn
end Lv
