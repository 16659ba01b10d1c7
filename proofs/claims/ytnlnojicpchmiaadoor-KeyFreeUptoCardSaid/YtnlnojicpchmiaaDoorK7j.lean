/- Plain laws of layer 07: what is written is read back; what is read was written so. -/
import Derived.Test.YtnlnojicpchmiaaDoorK7i
namespace Lv
open Go Go.Proofs
set_option linter.unusedVariables false
set_option linter.unusedSimpArgs false
set_option linter.unusedSectionVars false
set_option maxRecDepth 100000
variable [BaseTab]

/-! Numbers, there and back -/
theorem num_cons_aux (l : List UInt8) : ∀ y : UInt64, (l.foldl (fun y b => shl64 y 8 ||| b.toUInt64) y).toNat = (y.toNat * 256 ^ l.length + l.foldl (fun a b => a * 256 + b.toNat) 0) % 18446744073709551616 := by
  have fold : ∀ (l : List UInt8) (a : Nat), l.foldl (fun a b => a * 256 + b.toNat) a = a * 256 ^ l.length + l.foldl (fun a b => a * 256 + b.toNat) 0 := by
    intro l
    induction l with
    | nil => intro a; simp
    | cons b l ih =>
      intro a
      rw [List.foldl_cons, List.foldl_cons, ih, ih (0 * 256 + b.toNat), List.length_cons, Nat.pow_succ]
      rw [Nat.add_mul, Nat.zero_mul, Nat.zero_add, Nat.mul_assoc, Nat.mul_comm 256 (256 ^ l.length), Nat.add_assoc]
  induction l with
  | nil =>
    intro y
    have := y.toNat_lt
    simp
  | cons b l ih =>
    intro y
    rw [List.foldl_cons, ih, List.foldl_cons, fold l (0 * 256 + b.toNat), ← shl_or]
    have h : (shl64 y 8 + b.toUInt64).toNat = (y.toNat * 256 + b.toNat) % 18446744073709551616 := by
      unfold shl64
      rw [UInt64.toNat_add, UInt64.toNat_ofNat', UInt8.toNat_toUInt64]
      omega
    rw [h, List.length_cons, Nat.pow_succ, Nat.zero_mul, Nat.zero_add]
    rw [← Nat.add_assoc, Nat.add_mod, Nat.mul_mod, Nat.mod_mod, ← Nat.mul_mod, ← Nat.add_mod]
    congr 2
    rw [Nat.add_mul, Nat.mul_assoc, Nat.mul_comm 256 (256 ^ l.length)]
theorem natB_bytesN (n : UInt64) : ∀ k, (bytesN n k).foldl (fun a b => a * 256 + b.toNat) 0 = n.toNat % 256 ^ k := by
  have fold : ∀ (l : List UInt8) (a : Nat), l.foldl (fun a b => a * 256 + b.toNat) a = a * 256 ^ l.length + l.foldl (fun a b => a * 256 + b.toNat) 0 := by
    intro l
    induction l with
    | nil => intro a; simp
    | cons b l ih =>
      intro a
      rw [List.foldl_cons, List.foldl_cons, ih, ih (0 * 256 + b.toNat), List.length_cons, Nat.pow_succ]
      rw [Nat.add_mul, Nat.zero_mul, Nat.zero_add, Nat.mul_assoc, Nat.mul_comm 256 (256 ^ l.length), Nat.add_assoc]
  intro k
  induction k with
  | zero => simp [bytesN, Nat.mod_one]
  | succ k ih =>
    rw [bytesN, List.foldl_cons, fold, bytesN_len, ih, Nat.zero_mul, Nat.zero_add, UInt8.toNat_ofNat']
    have e : (2 : Nat) ^ (8 * k) = 256 ^ k := by rw [Nat.pow_mul]
    have e2 : n.toNat % 256 ^ (k + 1) = n.toNat % 256 ^ k + 256 ^ k * (n.toNat / 256 ^ k % 256) := by rw [Nat.pow_succ, Nat.mod_mul]
    rw [e2, e, show (2 : Nat) ^ 8 = 256 from rfl, Nat.mul_comm, Nat.add_comm]
theorem num_bytes8 (n : UInt64) : num (bytesN n 8) = n := by
  have := n.toNat_lt
  rw [← UInt64.toNat_inj]
  unfold num
  rw [num_cons_aux, natB_bytesN]
  have e : (0 : UInt64).toNat = 0 := rfl
  rw [e]
  omega
theorem bytes8_num (l : List UInt8) (h : l.length = 8) : bytesN (num l) 8 = l := by
  match l, h with
  | [a, b, c, d, e, f, g, i], _ =>
    have ha := a.toNat_lt
    have hb := b.toNat_lt
    have hc := c.toNat_lt
    have hd := d.toNat_lt
    have he := e.toNat_lt
    have hf := f.toNat_lt
    have hg := g.toNat_lt
    have hi := i.toNat_lt
    have hn : (num [a, b, c, d, e, f, g, i]).toNat = ((((((a.toNat * 256 + b.toNat) * 256 + c.toNat) * 256 + d.toNat) * 256 + e.toNat) * 256 + f.toNat) * 256 + g.toNat) * 256 + i.toNat := by
      unfold num
      rw [num_cons_aux]
      simp only [List.foldl_cons, List.foldl_nil]
      have e : (0 : UInt64).toNat = 0 := rfl
      rw [e]
      omega
    simp only [bytesN, hn]
    congr 1
    · rw [← UInt8.toNat_inj, UInt8.toNat_ofNat']; simp only [Nat.reduceMul, Nat.reducePow]; omega
    congr 1
    · rw [← UInt8.toNat_inj, UInt8.toNat_ofNat']; simp only [Nat.reduceMul, Nat.reducePow]; omega
    congr 1
    · rw [← UInt8.toNat_inj, UInt8.toNat_ofNat']; simp only [Nat.reduceMul, Nat.reducePow]; omega
    congr 1
    · rw [← UInt8.toNat_inj, UInt8.toNat_ofNat']; simp only [Nat.reduceMul, Nat.reducePow]; omega
    congr 1
    · rw [← UInt8.toNat_inj, UInt8.toNat_ofNat']; simp only [Nat.reduceMul, Nat.reducePow]; omega
    congr 1
    · rw [← UInt8.toNat_inj, UInt8.toNat_ofNat']; simp only [Nat.reduceMul, Nat.reducePow]; omega
    congr 1
    · rw [← UInt8.toNat_inj, UInt8.toNat_ofNat']; simp only [Nat.reduceMul, Nat.reducePow]; omega
    congr 1
    · rw [← UInt8.toNat_inj, UInt8.toNat_ofNat']; simp only [Nat.reduceMul, Nat.reducePow]; omega

/-! Texts -/
theorem unesc_esc : ∀ (s t : List UInt8), unesc (esc s ++ 0 :: 0 :: t) = some (s, (esc s).length + 2)
  | [], t => by simp [esc, unesc]
  | x :: r, t => by
    have ih := unesc_esc r t
    unfold esc
    by_cases hx : x = 0
    · subst hx
      rw [if_pos rfl]
      show unesc (0 :: 255 :: (esc r ++ 0 :: 0 :: t)) = _
      rw [show unesc (0 :: 255 :: (esc r ++ 0 :: 0 :: t)) = (unesc (esc r ++ 0 :: 0 :: t)).map (fun p => (0 :: p.1, p.2 + 2)) by simp only [unesc, if_true]; rfl, ih]
      rfl
    · rw [if_neg hx]
      show unesc (x :: (esc r ++ 0 :: 0 :: t)) = _
      cases h : esc r ++ 0 :: 0 :: t with
      | nil => simp at h
      | cons y r' =>
        rw [h] at ih
        simp only [unesc, hx, if_false, ih]
        rfl
theorem esc_unesc : ∀ {b s n}, unesc b = some (s, n) → b.take n = esc s ++ [0, 0]
  | [], _, _, h => by cases h
  | [_], _, _, h => by cases h
  | x :: y :: r, s, n, h => by
    unfold unesc at h
    split at h
    · rename_i hx
      subst hx
      split at h
      · rename_i hy; subst hy
        injection h with h; injection h with h1 h2; subst h1; subst h2; simp [esc]
      · split at h
        · rename_i hy; subst hy
          cases hu : unesc r with
          | none => rw [hu] at h; cases h
          | some p =>
            obtain ⟨s', n'⟩ := p
            rw [hu] at h
            have := esc_unesc hu
            injection h with h; injection h with h1 h2; subst h1; subst h2
            simp [esc, this]
        · cases h
    · rename_i hx
      cases hu : unesc (y :: r) with
      | none => rw [hu] at h; cases h
      | some p =>
        obtain ⟨s', n'⟩ := p
        rw [hu] at h
        have := esc_unesc hu
        injection h with h; injection h with h1 h2; subst h1; subst h2
        simp only [List.take_succ_cons, this, esc, hx, if_false, List.cons_append]

/-! Values -/
theorem xor_back (n m : UInt64) : n ^^^ m ^^^ m = n := by rw [UInt64.xor_assoc, UInt64.xor_self, UInt64.xor_zero]
/-- A kind that fits a value. -/
def fitK (k : Int) (v : ApiValue) : Prop := v.Kind = 0 ∨ v.Kind = k
theorem val_kind {v : ApiValue} (h : val v = true) : 0 ≤ v.Kind ∧ v.Kind ≤ 5 := by
  unfold val at h
  simp only [Bool.or_eq_true, Bool.and_eq_true, beq_iff_eq, decide_eq_true_eq] at h
  omega
theorem val_null {v : ApiValue} (h : val v = true) (k : v.Kind = 0) : v = ⟨0, 0, []⟩ := by
  unfold val at h
  obtain ⟨K, N, S⟩ := v
  simp only at k
  subst k
  simp only [Bool.or_eq_true, Bool.and_eq_true, beq_iff_eq, decide_eq_true_eq] at h
  have : N = 0 ∧ S = [] := by
    rcases h with (((⟨_, h⟩ | ⟨h, _⟩) | ⟨h, _⟩) | ⟨h, _⟩) | ⟨h, _⟩
    · exact h
    · omega
    · omega
    · omega
    · omega
  rw [this.1, this.2]
theorem val_num {v : ApiValue} (h : val v = true) (k : v.Kind = 1 ∨ v.Kind = 2 ∨ v.Kind = 3) : v.S = [] ∧ (v.Kind = 3 → v.N.toNat < 2) := by
  unfold val at h
  simp only [Bool.or_eq_true, Bool.and_eq_true, beq_iff_eq, decide_eq_true_eq, UInt64.lt_iff_toNat_lt] at h
  have e : (2 : UInt64).toNat = 2 := rfl
  rw [e] at h
  rcases h with (((⟨h, _⟩ | ⟨h, h2⟩) | ⟨h, h1, h2⟩) | ⟨h, _⟩) | ⟨h, _⟩
  · omega
  · exact ⟨h2, fun _ => by omega⟩
  · exact ⟨h2, fun _ => h1⟩
  · omega
  · omega
theorem val_txt {v : ApiValue} (h : val v = true) (k : v.Kind = 4 ∨ v.Kind = 5) : v.N = 0 := by
  unfold val at h
  simp only [Bool.or_eq_true, Bool.and_eq_true, beq_iff_eq, decide_eq_true_eq] at h
  rcases h with (((⟨h, _⟩ | ⟨h, _⟩) | ⟨h, _⟩) | ⟨h, h2, _⟩) | ⟨h, h2, _⟩
  · omega
  · omega
  · omega
  · exact h2
  · exact h2

/-- What is written is read back, whatever follows. -/
theorem decV_enc (k : Int) (v : ApiValue) (t : List UInt8) (hv : val v = true) (hk : fitK k v) : decV k (enc v ++ t) = some (v, (enc v).length) := by
  by_cases k0 : v.Kind = 0
  · have := val_null hv k0
    subst this
    rfl
  have hk : v.Kind = k := by rcases hk with h | h; · exact absurd h k0
                             · exact h
  subst hk
  have hr := val_kind hv
  have he : enc v = 1 :: body v := by unfold enc; rw [if_neg k0]
  rw [he, List.cons_append, decV_one]
  suffices hraw : raw v.Kind (body v ++ t) = some (v, (body v).length) by
    rw [hraw]; unfold onVal; simp only; rw [if_pos hv]; rfl
  obtain ⟨K, N, S⟩ := v
  simp only at k0 hr
  unfold raw body
  by_cases k1 : K = 1
  · subst k1
    have := (val_num hv (.inl rfl)).1
    simp only at this
    subst this
    simp only [if_true]
    rw [if_pos (by simp [bytesN_len]), List.take_left' (bytesN_len _ _), num_bytes8, xor_back, bytesN_len]
  by_cases k2 : K = 2
  · subst k2
    have := (val_num hv (.inr (.inl rfl))).1
    simp only at this
    subst this
    simp only [show ¬ (2 : Int) = 1 by omega, if_false, if_true]
    rw [if_pos (by simp [bytesN_len]), List.take_left' (bytesN_len _ _), num_bytes8, bytesN_len]
  by_cases k3 : K = 3
  · subst k3
    have := val_num hv (.inr (.inr rfl))
    obtain ⟨h1, h2⟩ := this
    have h2 : N.toNat < 2 := h2 rfl
    simp only at h1
    subst h1
    simp only [show ¬ (3 : Int) = 1 by omega, show ¬ (3 : Int) = 2 by omega, if_false, if_true]
    rw [if_pos (by simp [bytesN_len]), List.take_left' (bytesN_len _ _), bytesN_len]
    have : num (bytesN N 1) = N := by
      rw [← UInt64.toNat_inj]
      unfold num
      rw [num_cons_aux, natB_bytesN]
      have e : (0 : UInt64).toNat = 0 := rfl
      rw [e]
      omega
    rw [this]
  have k45 : K = 4 ∨ K = 5 := by omega
  have := val_txt hv k45
  simp only at this
  subst this
  simp only [k1, k2, k3, k45, if_false, if_true]
  rw [List.append_assoc]
  show (unesc (esc S ++ 0 :: 0 :: t)).map _ = _
  rw [unesc_esc]
  simp
/-- What is read was written so. -/
theorem enc_decV {k : Int} {b : List UInt8} {v : ApiValue} {n : Nat} (h : decV k b = some (v, n)) (hk : 1 ≤ k ∧ k ≤ 5) : b.take n = enc v ∧ val v = true ∧ fitK k v := by
  cases b with
  | nil => cases h
  | cons f r =>
    by_cases h0 : f = 0
    · subst h0
      simp only [decV, if_true] at h
      injection h with h; injection h with h1 h2; subst h1; subst h2
      exact ⟨rfl, rfl, .inl rfl⟩
    by_cases h1 : f = 1
    rotate_left
    · simp only [decV, h0, h1, if_false] at h; cases h
    subst h1
    rw [decV_one] at h
    cases hr : raw k r with
    | none => rw [hr] at h; cases h
    | some p =>
      obtain ⟨w, m⟩ := p
      rw [hr] at h
      unfold onVal at h
      simp only at h
      split at h
      rotate_left
      · cases h
      rename_i hv
      injection h with h; injection h with h1 h2; subst h1; subst h2
      suffices hs : r.take m = body w ∧ w.Kind = k by
        refine ⟨?_, hv, .inr hs.2⟩
        unfold enc
        rw [if_neg (by omega), List.take_succ_cons, hs.1]
      unfold raw at hr
      by_cases k1 : k = 1
      · subst k1
        simp only [if_true] at hr
        split at hr
        rotate_left
        · cases hr
        rename_i hl
        injection hr with hr; injection hr with h1 h2; subst h1; subst h2
        refine ⟨?_, rfl⟩
        unfold body
        simp only [if_true]
        rw [xor_back, bytes8_num _ (by simp; omega)]
      by_cases k2 : k = 2
      · subst k2
        simp only [show ¬ (2 : Int) = 1 by omega, if_false, if_true] at hr
        split at hr
        rotate_left
        · cases hr
        rename_i hl
        injection hr with hr; injection hr with h1 h2; subst h1; subst h2
        refine ⟨?_, rfl⟩
        unfold body
        simp only [show ¬ (2 : Int) = 1 by omega, if_false, if_true]
        rw [bytes8_num _ (by simp; omega)]
      by_cases k3 : k = 3
      · subst k3
        simp only [show ¬ (3 : Int) = 1 by omega, show ¬ (3 : Int) = 2 by omega, if_false, if_true] at hr
        split at hr
        rotate_left
        · cases hr
        rename_i hl
        injection hr with hr; injection hr with h1 h2; subst h1; subst h2
        refine ⟨?_, rfl⟩
        unfold body
        simp only [show ¬ (3 : Int) = 1 by omega, show ¬ (3 : Int) = 2 by omega, if_false, if_true]
        cases r with
        | nil => simp at hl
        | cons x r => rw [show (x :: r).take 1 = [x] from by simp, num_one, b8]
      simp only [k1, k2, k3, if_false] at hr
      cases hu : unesc r with
      | none => rw [hu] at hr; cases hr
      | some z =>
        obtain ⟨s, m'⟩ := z
        rw [hu] at hr
        injection hr with hr; injection hr with h1 h2; subst h1; subst h2
        refine ⟨?_, rfl⟩
        unfold body
        simp only [k1, k2, k3, show k = 4 ∨ k = 5 by omega, if_false, if_true]
        exact esc_unesc hu
end Lv
