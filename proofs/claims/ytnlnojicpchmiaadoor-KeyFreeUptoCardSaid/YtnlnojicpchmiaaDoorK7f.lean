/- Plain laws of layer 07: keys read, by the program. -/
import Derived.Test.YtnlnojicpchmiaaDoorK7e
namespace Lv
open Go Go.Proofs
set_option linter.unusedVariables false
set_option linter.unusedSimpArgs false
set_option linter.unusedSectionVars false
set_option maxRecDepth 100000
variable [BaseTab]

/-- Bytes as a number. -/
def num (l : List UInt8) : UInt64 := l.foldl (fun y b => shl64 y 8 ||| b.toUInt64) 0
theorem num_snoc (l : List UInt8) (b : UInt8) : num (l ++ [b]) = shl64 (num l) 8 ||| b.toUInt64 := by simp [num]
theorem shl_or (y : UInt64) (b : UInt8) : shl64 y 8 + b.toUInt64 = shl64 y 8 ||| b.toUInt64 := by
  unfold shl64
  rw [← UInt64.toNat_inj]
  have hb := b.toNat_lt
  have hy := y.toNat_lt
  rw [UInt64.toNat_add, UInt64.toNat_or, UInt64.toNat_ofNat']
  have e : y.toNat * 2 ^ 8 % 2 ^ 64 = (y.toNat % 2 ^ 56) <<< 8 := by rw [Nat.shiftLeft_eq]; omega
  rw [e, ← Nat.shiftLeft_add_eq_or_of_lt (by simpa using hb), Nat.shiftLeft_eq, UInt8.toNat_toUInt64, Nat.mod_eq_of_lt]
  omega
theorem num_one (b : UInt8) : num [b] = b.toUInt64 := by
  show shl64 0 8 ||| b.toUInt64 = _
  rw [show shl64 0 8 = 0 from rfl]; simp

/-- A marked text, and how many bytes it takes. -/
def unesc : List UInt8 → Option (List UInt8 × Nat)
  | [] => none
  | [_] => none
  | x :: y :: r => if x = 0 then (if y = 0 then some ([], 2) else if y = 255 then (unesc r).map (fun p => (0 :: p.1, p.2 + 2)) else none)
    else (unesc (y :: r)).map (fun p => (x :: p.1, p.2 + 1))
theorem unesc_le : ∀ {b s n}, unesc b = some (s, n) → n ≤ b.length ∧ s.length + 2 ≤ n
  | [], _, _, h => by cases h
  | [_], _, _, h => by cases h
  | x :: y :: r, s, n, h => by
    unfold unesc at h
    split at h
    · split at h
      · injection h with h; injection h with h1 h2; subst h1; subst h2; simp
      · split at h
        · cases hu : unesc r with
          | none => rw [hu] at h; cases h
          | some p =>
            obtain ⟨s', n'⟩ := p
            rw [hu] at h
            have := unesc_le hu
            injection h with h; injection h with h1 h2; subst h1; subst h2; simp; omega
        · cases h
    · cases hu : unesc (y :: r) with
      | none => rw [hu] at h; cases h
      | some p =>
        obtain ⟨s', n'⟩ := p
        rw [hu] at h
        have := unesc_le hu
        simp only [List.length_cons] at this
        injection h with h; injection h with h1 h2; subst h1; subst h2; simp; omega

def raw (k : Int) (r : List UInt8) : Option (ApiValue × Nat) :=
  if k = 1 then (if 8 ≤ r.length then some (⟨k, num (r.take 8) ^^^ 9223372036854775808, []⟩, 8) else none)
  else if k = 2 then (if 8 ≤ r.length then some (⟨k, num (r.take 8), []⟩, 8) else none)
  else if k = 3 then (if 1 ≤ r.length then some (⟨k, num (r.take 1), []⟩, 1) else none)
  else (unesc r).map (fun p => (⟨k, 0, p.1⟩, p.2))
theorem raw_le {k : Int} {r : List UInt8} {v : ApiValue} {n : Nat} (h : raw k r = some (v, n)) : n ≤ r.length ∧ v.S.length ≤ r.length := by
  unfold raw at h
  repeat' split at h
  all_goals first | (cases h; done) | skip
  · injection h with h; injection h with h1 h2; subst h1; subst h2; simp; omega
  · injection h with h; injection h with h1 h2; subst h1; subst h2; simp; omega
  · injection h with h; injection h with h1 h2; subst h1; subst h2; simp; omega
  · cases hu : unesc r with
    | none => rw [hu] at h; cases h
    | some p =>
      obtain ⟨s', n'⟩ := p
      rw [hu] at h
      have := unesc_le hu
      injection h with h; injection h with h1 h2; subst h1; subst h2; simp; omega
/-- One value, and how many bytes it takes. -/
def decV (k : Int) : List UInt8 → Option (ApiValue × Nat)
  | [] => none
  | f :: r => if f = 0 then some (⟨0, 0, []⟩, 1) else if f = 1 then
      (match raw k r with | none => none | some p => if val p.1 = true then some (p.1, p.2 + 1) else none) else none
theorem decV_le {k : Int} {b : List UInt8} {v : ApiValue} {n : Nat} (h : decV k b = some (v, n)) : 1 ≤ n ∧ n ≤ b.length := by
  cases b with
  | nil => cases h
  | cons f r =>
    simp only [decV] at h
    split at h
    · injection h with h; injection h with h1 h2; subst h2; simp
    · split at h
      · cases hr : raw k r with
        | none => rw [hr] at h; cases h
        | some p =>
          obtain ⟨w, m⟩ := p
          rw [hr] at h
          simp only at h
          split at h
          · injection h with h; injection h with h1 h2; subst h2
            have := raw_le hr
            simp; omega
          · cases h
      · cases h

/-! The program's reader -/
theorem num_loop {R : Type} (p : List UInt8) (off n : Nat) (hn : off + n ≤ p.length) (hp : p.length < 4611686018427387904) (w : UInt64 → R) :
    loop (Y := UInt64 × Int) (W := R) (fun (y80, y81) =>
        bif (decide (y81 < (n : Int))) then
          Option.bind (getS p off n y81) fun v89 =>
          some (Sum.inl (((shl64 y80 8) ||| (v89.toUInt64)), (w64 (y81 + (1 : Int)))))
        else
          some (Sum.inr (w y80))) ((0 : UInt64), (0 : Int)) = some (w (num ((p.drop off).take n))) := by
  refine loop_seq (B := (fun (y80, y81) =>
        bif (decide (y81 < (n : Int))) then
          Option.bind (getS p off n y81) fun v89 =>
          some (Sum.inl (((shl64 y80 8) ||| (v89.toUInt64)), (w64 (y81 + (1 : Int)))))
        else
          some (Sum.inr (w y80)))) (fun i => (num ((p.drop off).take i), (i : Int))) n ?_ ?_
  · intro i hi
    show (bif _ then _ else _) = _
    have hlt : off + i < p.length := by omega
    have hg : getS p off n (i : Int) = some (p[off + i]'hlt) := by
      unfold getS
      rw [if_pos (by omega), Int.toNat_natCast, List.getElem?_eq_getElem hlt]
    rw [bif_decT (by omega), hg, bind_some', w64_succ (by omega), ← num_snoc]
    congr 3
    rw [List.take_succ_eq_append_getElem (by simp; omega), List.getElem_drop]
  · show (bif _ then _ else _) = _
    rw [bif_decF (by omega)]

theorem number_1_eq (p : List UInt8) (k off len : Nat) (b : Bool) (hp : p.length < 4611686018427387904) (h : off + len ≤ p.length) (hk : k < 100) :
    pack_In_number_1 k p off len b = some (if b = true ∨ len < k then (0, off, len, true) else (num ((p.drop off).take k), off + k, len - k, false)) := by
  unfold pack_In_number_1
  by_cases hb : b = true ∨ len < k
  · have ht : pack_In_take_1 (k : Int) p off len b = some (0, 0, off, len, true) := by
      unfold pack_In_take_1
      cases b with
      | true => rfl
      | false =>
        have : len < k := by simpa using hb
        rw [cond_false, bind_some', bif_decT (by omega)]; rfl
    rw [if_pos hb, ht, bind_some']
    have q := num_loop p 0 0 (by omega) hp (fun y => (y, off, len, true))
    show (Option.bind (Option.bind (loop _ ((0 : UInt64), (0 : Int))) _) _) = _
    rw [show (loop _ ((0 : UInt64), (0 : Int))) = _ from q]
    rfl
  · have hbf : b = false := by cases b <;> simp_all
    subst hbf
    have hlk : ¬ len < k := by simpa using hb
    have ht : pack_In_take_1 (k : Int) p off len false = some (off, k, off + k, len - k, false) := by
      unfold pack_In_take_1
      rw [cond_false, bind_some', bif_decF (show ¬ ((len : Int) < (k : Int)) by omega), bif_decT (by omega), bif_decT (by omega), Int.toNat_natCast]
    rw [if_neg hb, ht, bind_some']
    have q := num_loop p off k (by omega) hp (fun y => (y, off + k, len - k, false))
    show (Option.bind (Option.bind (loop _ ((0 : UInt64), (0 : Int))) _) _) = _
    rw [show (loop _ ((0 : UInt64), (0 : Int))) = _ from q]
    rfl
theorem number_eq (p : List UInt8) (hp : p.length < 4611686018427387904) : pack_In_number (1 : Int) p false = some (if p.length < 1 then (0, 0, p.length, true) else (num (p.take 1), 1, p.length - 1, false)) := by
  unfold pack_In_number
  by_cases hb : p.length < 1
  · have ht : pack_In_take (1 : Int) p false = some (0, 0, p.length, true) := by
      unfold pack_In_take
      rw [cond_false, bind_some', bif_decT (by omega)]; rfl
    rw [if_pos hb, ht, bind_some']
    have q := num_loop p 0 0 (by omega) hp (fun y => (y, 0, p.length, true))
    show (Option.bind (Option.bind (loop _ ((0 : UInt64), (0 : Int))) _) _) = _
    rw [show (loop _ ((0 : UInt64), (0 : Int))) = _ from q]
    rfl
  · have ht : pack_In_take (1 : Int) p false = some (1, 1, p.length - 1, false) := by
      unfold pack_In_take
      rw [cond_false, bind_some', bif_decF (show ¬ ((p.length : Int) < 1) by omega), bif_decT (by omega), bif_decT (by omega)]; rfl
    rw [if_neg hb, ht, bind_some']
    have q := num_loop p 0 1 (by omega) hp (fun y => (y, 1, p.length - 1, false))
    show (Option.bind (Option.bind (loop _ ((0 : UInt64), (0 : Int))) _) _) = _
    rw [show (loop _ ((0 : UInt64), (0 : Int))) = _ from q]
    rfl
def flagR : List UInt8 → Bool × Nat × Nat × Bool
  | [] => (false, 0, 0, true)
  | f :: r => if f = 0 then (false, 1, r.length, false) else if f = 1 then (true, 1, r.length, false) else (false, 0, r.length + 1, true)
theorem Flag_eq (b : List UInt8) (hp : b.length < 4611686018427387904) : pack_In_Flag b false = some (flagR b) := by
  unfold pack_In_Flag
  cases b with
  | nil =>
    rw [bif_decF (by simp), bind_some', cond_false, number_eq _ hp]
    rfl
  | cons f r =>
    rw [bif_decT (by simp), getI_zero, List.getElem?_cons_zero, bind_some', bind_some']
    by_cases h1 : (1 : UInt8) < f
    · have e0 : ¬ f = 0 := by intro e; subst e; exact absurd h1 (by decide)
      have e1 : ¬ f = 1 := by intro e; subst e; exact absurd h1 (by decide)
      rw [decide_eq_true h1, cond_true, bind_some', flagR, if_neg e0, if_neg e1]
      rfl
    · rw [decide_eq_false h1, cond_false, number_eq _ hp, if_neg (by simp), bind_some']
      have hf : f = 0 ∨ f = 1 := by
        rw [UInt8.lt_iff_toNat_lt] at h1
        have e : (1 : UInt8).toNat = 1 := rfl
        rw [e] at h1
        rcases Nat.lt_or_ge f.toNat 1 with h | h
        · left; rw [← UInt8.toNat_inj]; show _ = 0; omega
        · right; rw [← UInt8.toNat_inj]; show _ = 1; omega
      rw [show (f :: r).take 1 = [f] from by simp, num_one]
      rcases hf with rfl | rfl
      · rfl
      · rfl

/-- What the program makes of a marked text. -/
def longR : Option (List UInt8 × Nat) → List UInt8 × Int × Bool
  | none => ([], 0, false)
  | some (s, n) => (s, n, true)
theorem key_long_eq (p : List UInt8) (off len : Nat) (hp : p.length < 1073741824) (h : off + len = p.length) : key_long p off len = some (longR (unesc (p.drop off))) := by
  unfold key_long
  have hg : ∀ i : Nat, i < len → getS p off len (i : Int) = some ((p.drop off).getD i 0) := by
    intro i hi
    unfold getS
    rw [if_pos (by omega), Int.toNat_natCast, List.getElem?_eq_getElem (by omega), List.getD_eq_getElem?_getD, List.getElem?_drop, List.getElem?_eq_getElem (by omega)]
    rfl
  have hlen : (p.drop off).length = len := by simp; omega
  suffices hk : ∀ B : List UInt8 × Int → Option ((List UInt8 × Int) ⊕ (Unit ⊕ (List UInt8 × Int × Bool))), (∀ acc : List UInt8, ∀ i : Nat, acc.length ≤ i → i ≤ len → B (acc, i) =
        if i = len then some (.inr (.inl ())) else
        if (p.drop off).getD i 0 ≠ 0 then some (.inl (acc ++ [(p.drop off).getD i 0], ((i + 1 : Nat) : Int))) else
        if i + 1 = len then some (.inr (.inr ([], 0, false))) else
        if (p.drop off).getD (i + 1) 0 = 0 then some (.inr (.inr (acc, ((i + 2 : Nat) : Int), true))) else
        if (p.drop off).getD (i + 1) 0 ≠ 255 then some (.inr (.inr ([], 0, false))) else some (.inl (acc ++ [0], ((i + 2 : Nat) : Int)))) →
      ∀ (n i : Nat) (acc : List UInt8), len - i = n → acc.length ≤ i → i ≤ len → ∃ w, loop B (acc, i) = some w ∧ Sum.elim (fun _ => (([] : List UInt8), (0 : Int), false)) (fun e => e) w = (match unesc ((p.drop off).drop i) with | none => ([], 0, false) | some (s, n) => (acc ++ s, ((i + n : Nat) : Int), true)) by
    refine Exists.elim (hk (fun (y267, y268) =>
        bif (decide (y268 < (len : Int))) then
          bindE (Y := (List UInt8) × Int) (E := (List UInt8) × Int × Bool)
            (Option.bind (getS p off len y268) fun v311 =>
            bif (v311 != (0 : UInt8)) then
              Option.bind (getS p off len y268) fun v313 =>
              bif decide ((y267.length + [v313].length) * 1 ≤ room) then
              some (Sum.inl ((y267 ++ [v313]), y268))
              else none
            else
              bif ((w64 (y268 + (1 : Int))) == (len : Int)) then
                some (Sum.inr (([] : List UInt8), (0 : Int), false))
              else
                Option.bind (getS p off len (w64 (y268 + (1 : Int)))) fun v316 =>
                bif (v316 == (0 : UInt8)) then
                  some (Sum.inr (y267, (w64 ((w64 (y268 + (1 : Int))) + (1 : Int))), true))
                else
                  Option.bind (getS p off len (w64 (y268 + (1 : Int)))) fun v318 =>
                  bif (v318 != (255 : UInt8)) then
                    some (Sum.inr (([] : List UInt8), (0 : Int), false))
                  else
                    bif decide ((y267.length + [(0 : UInt8)].length) * 1 ≤ room) then
                    some (Sum.inl ((y267 ++ [(0 : UInt8)]), (w64 (y268 + (1 : Int)))))
                    else none)
            (fun (y308, y309) =>
              some (Sum.inl (y308, (w64 (y309 + (1 : Int))))))
            (fun e => some (Sum.inr (Sum.inr e)))
        else
          some (Sum.inr (Sum.inl ()))) ?_ len 0 [] (by omega) (by simp) (by omega)) ?_
    rotate_left
    · rintro w ⟨h1, h2⟩
      rw [show (loop _ (([] : List UInt8), (0 : Int))) = _ from h1, bind_some']
      have : ∀ w : Unit ⊕ (List UInt8 × Int × Bool), bindE (Sum.elim (fun e => some (Sum.inl e)) (fun e => some (Sum.inr e)) w) (fun _ => some (([] : List UInt8), (0 : Int), false)) (fun e => some e) = some (Sum.elim (fun _ => (([] : List UInt8), (0 : Int), false)) (fun e => e) w) := by
        intro w; cases w <;> rfl
      rw [this, h2, List.drop_zero]
      cases hu : unesc (p.drop off) with
      | none => rfl
      | some q => obtain ⟨s, n⟩ := q; simp [longR]
    · intro acc i ha hi
      show (bif _ then _ else _) = _
      by_cases h1 : i = len
      · rw [if_pos h1, bif_decF (by omega)]
      rw [if_neg h1, bif_decT (by omega), hg i (by omega), bind_some']
      by_cases h2 : (p.drop off).getD i 0 = 0
      · rw [if_neg (by simpa using h2), h2]
        show bindE (bif (w64 ((i : Int) + 1)) == (len : Int) then _ else _) _ _ = _
        rw [w64_succ (by omega)]
        by_cases h3 : i + 1 = len
        · rw [if_pos h3, show (((i + 1 : Nat) : Int) == (len : Int)) = true by simpa using by omega]; rfl
        rw [if_neg h3, show (((i + 1 : Nat) : Int) == (len : Int)) = false by simpa using by omega, cond_false, hg (i + 1) (by omega), bind_some']
        by_cases h4 : (p.drop off).getD (i + 1) 0 = 0
        · rw [if_pos h4, h4, BEq.rfl, cond_true, w64_succ (by omega)]; rfl
        rw [if_neg h4, beq_eq_false_iff_ne.2 h4, cond_false, bind_some']
        by_cases h5 : (p.drop off).getD (i + 1) 0 = 255
        · rw [if_neg (by simpa using h5), h5, bne_self_eq_false, cond_false, bif_decT (by rw [room_val]; simp; omega), bindE_l]
          show some (Sum.inl (_, w64 (((i + 1 : Nat) : Int) + 1))) = _
          rw [w64_succ (by omega)]
        · rw [if_pos h5, show ((p.drop off).getD (i + 1) 0 != 255) = true by simpa using h5]; rfl
      · rw [if_pos h2, show ((p.drop off).getD i 0 != 0) = true by simpa using h2, cond_true, bind_some', bif_decT (by rw [room_val]; simp; omega), bindE_l]
        show some (Sum.inl (_, w64 ((i : Int) + 1))) = _
        rw [w64_succ (by omega)]
  intro B hB n
  induction n using Nat.strongRecOn with
  | ind n ih =>
    intro i acc hn ha hi
    have hb := hB acc i ha hi
    by_cases h1 : i = len
    · rw [if_pos h1] at hb
      refine ⟨_, loop_end hb, ?_⟩
      rw [show (p.drop off).drop i = [] from List.drop_eq_nil_of_le (by omega)]; rfl
    rw [if_neg h1] at hb
    have hd : (p.drop off).drop i = (p.drop off).getD i 0 :: (p.drop off).drop (i + 1) := by
      rw [List.drop_eq_getElem_cons (by omega : i < (p.drop off).length), List.getD_eq_getElem?_getD, List.getElem?_eq_getElem (by omega : i < (p.drop off).length)]; rfl
    by_cases h2 : (p.drop off).getD i 0 = 0
    · rw [if_neg (by simpa using h2)] at hb
      by_cases h3 : i + 1 = len
      · rw [if_pos h3] at hb
        refine ⟨_, loop_end hb, ?_⟩
        rw [hd, show (p.drop off).drop (i + 1) = [] from List.drop_eq_nil_of_le (by omega)]; rfl
      rw [if_neg h3] at hb
      have hd2 : (p.drop off).drop (i + 1) = (p.drop off).getD (i + 1) 0 :: (p.drop off).drop (i + 2) := by
        rw [List.drop_eq_getElem_cons (by omega : i + 1 < (p.drop off).length), List.getD_eq_getElem?_getD, List.getElem?_eq_getElem (by omega : i + 1 < (p.drop off).length)]; rfl
      rw [hd, hd2, h2]
      by_cases h4 : (p.drop off).getD (i + 1) 0 = 0
      · rw [if_pos h4] at hb
        refine ⟨_, loop_end hb, ?_⟩
        rw [h4]; simp [unesc]
      rw [if_neg h4] at hb
      by_cases h5 : (p.drop off).getD (i + 1) 0 = 255
      · rw [if_neg (by simpa using h5)] at hb
        obtain ⟨w, q1, q2⟩ := ih (len - (i + 2)) (by omega) (i + 2) (acc ++ [0]) rfl (by simp; omega) (by omega)
        refine ⟨w, (loop_step hb).trans q1, q2.trans ?_⟩
        rw [h5, show unesc (0 :: 255 :: (p.drop off).drop (i + 2)) = (unesc ((p.drop off).drop (i + 2))).map (fun p => (0 :: p.1, p.2 + 2)) by simp only [unesc, if_true]; rfl]
        cases unesc ((p.drop off).drop (i + 2)) with
        | none => rfl
        | some z =>
          obtain ⟨s, n⟩ := z
          show (acc ++ [0] ++ s, ((i + 2 + n : Nat) : Int), true) = (acc ++ (0 :: s), ((i + (n + 2) : Nat) : Int), true)
          rw [List.append_assoc, show i + 2 + n = i + (n + 2) by omega]; rfl
      · rw [if_pos h5] at hb
        refine ⟨_, loop_end hb, ?_⟩
        generalize (p.drop off).drop (i + 2) = r
        generalize (p.drop off).getD (i + 1) 0 = y at h4 h5
        simp only [unesc, h4, h5, if_true, if_false]
        rfl
    · rw [if_pos h2] at hb
      obtain ⟨w, q1, q2⟩ := ih (len - (i + 1)) (by omega) (i + 1) (acc ++ [(p.drop off).getD i 0]) rfl (by simp; omega) (by omega)
      refine ⟨w, (loop_step hb).trans q1, q2.trans ?_⟩
      rw [hd]
      cases hr : (p.drop off).drop (i + 1) with
      | nil => simp [unesc]
      | cons y r =>
        cases hu : unesc (y :: r) with
        | none => simp only [unesc, h2, if_false, hu]; rfl
        | some z =>
          obtain ⟨s, n⟩ := z
          simp only [unesc, h2, if_false, hu]
          show (acc ++ [_] ++ s, ((i + 1 + n : Nat) : Int), true) = (acc ++ (_ :: s), ((i + (n + 1) : Nat) : Int), true)
          rw [List.append_assoc, show i + 1 + n = i + (n + 1) by omega]; rfl
end Lv
