/- Plain laws of layer 07: the law KeyFree. -/
import Derived.Test.YtnlnojicpchmiaaDoorK7k
namespace Lv
open Go Go.Proofs
set_option linter.unusedVariables false
set_option linter.unusedSimpArgs false
set_option linter.unusedSectionVars false
set_option maxRecDepth 100000
variable [BaseTab]

def bothK (p : ApiValue × ApiValue) : Int :=
  if p.1.Kind = p.2.Kind then (if p.1.Kind = 0 then 1 else p.1.Kind) else (if w64 (p.1.Kind + p.2.Kind) = 0 then 1 else w64 (p.1.Kind + p.2.Kind))
def clash (p : ApiValue × ApiValue) : Bool := p.1.Kind != p.2.Kind && (p.1.Kind != 0 && p.2.Kind != 0)
/-- A row filled, an end on the way. -/
theorem loop_fill {α W : Type} {B : List Int × Int → Option ((List Int × Int) ⊕ W)} (l : List α) (f : α → Int) (p : α → Bool) (e : W) (fin : List Int → W)
    (h : ∀ i (hi : i < l.length), B (filled f l i, (i : Int)) = some (if p (l[i]'hi) = true then .inr e else .inl (filled f l (i + 1), ((i + 1 : Nat) : Int))))
    (he : B (l.map f, (l.length : Int)) = some (.inr (fin (l.map f)))) : loop B (List.replicate l.length 0, 0) = some (if l.any p = true then e else fin (l.map f)) := by
  have key : ∀ k i, i + k = l.length → loop B (filled f l i, (i : Int)) = some (if (l.drop i).any p = true then e else fin (l.map f)) := by
    intro k
    induction k with
    | zero =>
      intro i hi
      have : i = l.length := by omega
      subst this
      rw [filled_all, List.drop_length]
      exact loop_end he
    | succ k ih =>
      intro i hi
      have hi' : i < l.length := by omega
      have hb := h i hi'
      rw [List.drop_eq_getElem_cons hi', List.any_cons]
      cases hp : p (l[i]'hi') with
      | true =>
        rw [hp, if_pos rfl] at hb
        exact loop_end hb
      | false =>
        rw [hp, if_neg (by simp)] at hb
        rw [loop_step hb, ih (i + 1) (by omega), Bool.false_or]
  have := key l.length 0 (by omega)
  rw [filled_zero] at this
  exact this

theorem fit_left {a b : ApiValue} (hb : -9223372036854775808 ≤ a.Kind ∧ a.Kind < 9223372036854775808) (h : clash (a, b) = false) : fitK (bothK (a, b)) a := by
  unfold fitK bothK
  unfold clash at h
  simp only at h ⊢
  by_cases e : a.Kind = b.Kind
  · rw [if_pos e]
    split
    · left; assumption
    · right; rfl
  · rw [if_neg e]
    by_cases ha : a.Kind = 0
    · left; exact ha
    · have : b.Kind = 0 := by
        simp only [Bool.and_eq_false_iff, bne_eq_false_iff_eq] at h
        rcases h with h | h | h
        · exact absurd h e
        · exact absurd h ha
        · exact h
      rw [this, Int.add_zero, w64_id hb.1 hb.2, if_neg ha]
      right; rfl
theorem fit_right {a b : ApiValue} (hb : -9223372036854775808 ≤ b.Kind ∧ b.Kind < 9223372036854775808) (h : clash (a, b) = false) : fitK (bothK (a, b)) b := by
  unfold fitK bothK
  unfold clash at h
  simp only at h ⊢
  by_cases e : a.Kind = b.Kind
  · rw [if_pos e]
    split
    · left; omega
    · right; omega
  · rw [if_neg e]
    by_cases ha : b.Kind = 0
    · left; exact ha
    · have : a.Kind = 0 := by
        simp only [Bool.and_eq_false_iff, bne_eq_false_iff_eq] at h
        rcases h with h | h | h
        · exact absurd h e
        · exact h
        · exact absurd h ha
      rw [this, Int.zero_add, w64_id hb.1 hb.2, if_neg ha]
      right; rfl
theorem both_good {a b : ApiValue} (ha : val a = true) (hb : val b = true) (h : clash (a, b) = false) : badK (bothK (a, b)) = false := by
  have h1 := val_kind ha
  have h2 := val_kind hb
  have hl := fit_left (a := a) (b := b) (by omega) h
  unfold badK
  unfold bothK
  unfold clash at h
  simp only [Bool.and_eq_false_iff, bne_eq_false_iff_eq] at h
  simp only [Bool.or_eq_false_iff, decide_eq_false_iff_not]
  have hw : w64 (a.Kind + b.Kind) = a.Kind + b.Kind := w64_id (by omega) (by omega)
  rw [hw]
  repeat' split
  all_goals omega

/-- Behind a key: what is not a key. -/
theorem decS_more {l : List ApiValue} {ds : List Bool} {ks : List Int} {t : List UInt8} (h1 : l.length = ds.length) (h2 : l.length = ks.length) (hv : ∀ v ∈ l, val v = true) (hf : ∀ (i : Nat) (v : ApiValue) (k : Int), l[i]? = some v → ks[i]? = some k → fitK k v) (hk : ks.any badK = false) (ht : t ≠ []) :
    decS ks ds (encL l ds ++ t) = ([], 2) := by
  unfold decS
  rw [if_pos (by omega), if_neg (by rw [hk]; simp)]
  split
  · rfl
  · rw [decL_enc l ds ks t h1 h2 hv hf]
    unfold endR
    simp only
    rw [if_neg ht]
theorem decS_less {l : List ApiValue} {ds : List Bool} {ks : List Int} {b t : List UInt8} (h1 : l.length = ds.length) (h2 : l.length = ks.length) (hv : ∀ v ∈ l, val v = true) (hf : ∀ (i : Nat) (v : ApiValue) (k : Int), l[i]? = some v → ks[i]? = some k → fitK k v) (hk : ks.any badK = false) (ht : t ≠ []) (he : b ++ t = encL l ds) :
    (decS ks ds b).2 = 2 := by
  unfold decS
  rw [if_pos (by omega), if_neg (by rw [hk]; simp)]
  split
  · rfl
  · cases hd : decL ks ds b with
    | none => rfl
    | some y =>
      obtain ⟨l', t'⟩ := y
      unfold endR
      simp only
      split
      · rename_i ht'
        subst ht'
        exfalso
        obtain ⟨q1, q2, q3, q4⟩ := enc_decL ks ds b l' [] (by omega) (goodKs hk) hd
        rw [List.append_nil] at q1
        have e1 := decL_enc l' ds ks t (by omega) q2 q3 q4
        have e2 := decL_enc l ds ks [] h1 h2 hv hf
        rw [List.append_nil, ← he, ← q1, e1] at e2
        injection e2 with e2
        injection e2 with _ e2
        exact ht e2
      · rfl

theorem KeyFree_true (a b : List ApiValue) (ds : List Bool) (ha : Sm a) (hb : Sm b) (ka : ∀ v ∈ a, -9223372036854775808 ≤ v.Kind ∧ v.Kind < 9223372036854775808) (kb : ∀ v ∈ b, -9223372036854775808 ≤ v.Kind ∧ v.Kind < 9223372036854775808) : law07_KeyFree a b ds = some true := by
  have hal := ha.len
  unfold law07_KeyFree
  rw [show awakeF = some () from rfl, bind_some']
  by_cases e1 : a.length = b.length
  rotate_left
  · rw [show ((a.length : Int) != (b.length : Int)) = true by simp; omega]; rfl
  by_cases e2 : a.length = ds.length
  rotate_left
  · rw [show ((a.length : Int) != (b.length : Int)) = false by simp; omega, show ((a.length : Int) != (ds.length : Int)) = true by simp; omega]; rfl
  rw [show ((a.length : Int) != (b.length : Int)) = false by simp; omega, show ((a.length : Int) != (ds.length : Int)) = false by simp; omega, cond_false, bind_some', cond_false, bif_decT (by omega), Int.toNat_natCast]
  have hz : (a.zip b).length = a.length := by rw [List.length_zip]; omega
  have q := loop_fill (B := (fun (y759, y760) =>
          bif (decide (y760 < (a.length : Int))) then
            bindE (Y := (List Int)) (E := Bool)
              (Option.bind (α := Bool)
                (Option.bind (getI a y760) fun v878 =>
                Option.bind (getI b y760) fun v879 =>
                bif (v878.Kind != v879.Kind) then
                  Option.bind (getI a y760) fun v881 =>
                  bif (v881.Kind != (0 : Int)) then
                    Option.bind (getI b y760) fun v883 =>
                    some (v883.Kind != (0 : Int))
                  else
                    some false
                else
                  some false)
                fun y876 =>
              bif y876 then
                some (Sum.inr true)
              else
                Option.bind (getI a y760) fun v885 =>
                Option.bind (getI b y760) fun v886 =>
                Option.bind (getI y759 y760) fun v887 =>
                Option.bind (α := (List Int))
                  (Option.bind (getI a y760) fun v895 =>
                  Option.bind (getI b y760) fun v896 =>
                  bif (v895.Kind == v896.Kind) then
                    Option.bind (getI a y760) fun v898 =>
                    Option.bind (getI (List.set y759 y760.toNat (w64 (v885.Kind + v886.Kind))) y760) fun v899 =>
                    some (List.set (List.set y759 y760.toNat (w64 (v885.Kind + v886.Kind))) y760.toNat v898.Kind)
                  else
                    some (List.set y759 y760.toNat (w64 (v885.Kind + v886.Kind))))
                  fun y893 =>
                Option.bind (getI y893 y760) fun v900 =>
                bif (v900 == (0 : Int)) then
                  Option.bind (getI y893 y760) fun v902 =>
                  some (Sum.inl (List.set y893 y760.toNat (1 : Int)))
                else
                  some (Sum.inl y893))
              (fun y868 =>
                some (Sum.inl (y868, (w64 (y760 + (1 : Int))))))
              (fun e => some (Sum.inr (Sum.inr e)))
          else
            some (Sum.inr (Sum.inl y759)))) (a.zip b) bothK clash (.inr true) (fun x => .inl x) ?_ ?_
  rotate_left
  · intro i hi
    obtain ⟨x, hx⟩ := filled_get bothK (a.zip b) hi
    have hfl := filled_len bothK (a.zip b) (Nat.le_of_lt hi)
    rw [hz] at hi hfl
    show (bif _ then bindE (Option.bind (Option.bind (getI a (i : Int)) fun v => Option.bind (getI b (i : Int)) _) _) _ _ else _) = _
    rw [bif_decT (by omega), getI_at hi, bind_some', getI_at (by omega), bind_some']
    have h3 : (a.zip b)[i]'(by omega) = (a[i], b[i]'(by omega)) := by rw [List.getElem_zip]
    have hset : ∀ y : Int, y = bothK (a[i], b[i]'(by omega)) → (filled bothK (a.zip b) i).set i y = filled bothK (a.zip b) (i + 1) := fun y hy => filled_set bothK (a.zip b) (by omega) (by rw [h3]; exact hy)
    have hcl : (bif (a[i].Kind != (b[i]'(by omega)).Kind) then Option.bind (some a[i]) fun v881 => bif (v881.Kind != (0 : Int)) then Option.bind (some (b[i]'(by omega))) fun v883 => some (v883.Kind != (0 : Int)) else some false else some false) = some (clash (a[i], b[i]'(by omega))) := by
      rw [bind_some', bind_some']
      unfold clash
      simp only
      cases (a[i].Kind != (b[i]'(by omega)).Kind) <;> cases (a[i].Kind != 0) <;> rfl
    rw [hcl, bind_some', h3]
    cases hc : clash (a[i], b[i]'(by omega)) with
    | true => rfl
    | false =>
      rw [cond_false, if_neg (by simp), getI_nat (filled bothK (a.zip b) i), hx, Int.toNat_natCast]
      show bindE (Option.bind (bif (a[i].Kind == (b[i]'(by omega)).Kind) then Option.bind (getI ((filled bothK (a.zip b) i).set i (w64 (a[i].Kind + (b[i]'(by omega)).Kind))) (i : Int)) fun _ => some (((filled bothK (a.zip b) i).set i (w64 (a[i].Kind + (b[i]'(by omega)).Kind))).set i a[i].Kind) else some ((filled bothK (a.zip b) i).set i (w64 (a[i].Kind + (b[i]'(by omega)).Kind)))) _) _ _ = _
      have fin : ∀ y : Int, bothK (a[i], b[i]'(by omega)) = (if y = 0 then 1 else y) → (bindE (Y := (List Int)) (E := Bool) (Option.bind (getI ((filled bothK (a.zip b) i).set i y) (i : Int)) fun v900 =>
                bif (v900 == (0 : Int)) then
                  Option.bind (getI ((filled bothK (a.zip b) i).set i y) (i : Int)) fun v902 =>
                  some (Sum.inl (List.set ((filled bothK (a.zip b) i).set i y) i (1 : Int)))
                else
                  some (Sum.inl ((filled bothK (a.zip b) i).set i y))) (fun y868 =>
                some (Sum.inl (y868, (w64 ((i : Int) + (1 : Int)))))) (fun e => some (Sum.inr (Sum.inr e)))) = some ((Sum.inl (filled bothK (a.zip b) (i + 1), ((i + 1 : Nat) : Int)) : (List Int × Int) ⊕ (List Int ⊕ Bool))) := by
        intro y hy
        rw [getI_nat, set_get (by omega), bind_some', bind_some', w64_succ (by omega)]
        by_cases y0 : y = 0
        · rw [if_pos y0] at hy
          rw [y0, BEq.rfl, cond_true, List.set_set, hset 1 hy.symm]; rfl
        · rw [if_neg y0] at hy
          rw [beq_eq_false_iff_ne.2 y0, cond_false, hset y hy.symm]; rfl
      by_cases ek : a[i].Kind = (b[i]'(by omega)).Kind
      · rw [show (a[i].Kind == (b[i]'(by omega)).Kind) = true by simpa using ek, cond_true, getI_nat, set_get (by omega), bind_some', bind_some', List.set_set]
        refine fin a[i].Kind ?_
        unfold bothK
        simp only
        rw [if_pos ek]
      · rw [beq_eq_false_iff_ne.2 ek, cond_false, bind_some']
        refine fin (w64 (a[i].Kind + (b[i]'(by omega)).Kind)) ?_
        unfold bothK
        simp only
        rw [if_neg ek]
  · show (bif (decide (((a.zip b).length : Int) < (a.length : Int))) then _ else _) = _
    rw [hz, bif_decF (by omega)]
  rw [hz] at q
  rw [show (loop _ (List.replicate a.length (0 : Int), (0 : Int))) = _ from q]
  cases hany : (a.zip b).any clash with
  | true => rfl
  | false =>
    rw [if_neg (by simp), bind_some', Sum.elim_inl, bindE_l, key_Encode_eq a ds ha, bind_some', key_Encode_eq b ds hb]
    by_cases ca : (encS a ds).2 = 0
    rotate_left
    · generalize encS a ds = x at ca
      obtain ⟨x1, x2⟩ := x
      simp only at ca
      show Option.bind (some (encS b ds)) (fun _ => Option.bind (bif (x2 != 0) then _ else _) _) = _
      rw [show (x2 != 0) = true by simpa using ca]; rfl
    by_cases cb : (encS b ds).2 = 0
    rotate_left
    · generalize encS a ds = x at ca
      obtain ⟨x1, x2⟩ := x
      generalize encS b ds = y at cb
      obtain ⟨y1, y2⟩ := y
      simp only at ca cb
      show Option.bind (bif (x2 != 0) then _ else some (y2 != 0)) _ = _
      rw [show (x2 != 0) = false by simpa using ca, show (y2 != 0) = true by simpa using cb]; rfl
    obtain ⟨_, a2, a3, a4⟩ := encS_ok ca
    obtain ⟨_, b2, b3, b4⟩ := encS_ok cb
    rw [a4, b4]
    have va := goodVs a2
    have vb := goodVs b2
    have hkl : ((a.zip b).map bothK).length = a.length := by rw [List.length_map, hz]
    have hcl : ∀ i (hi : i < a.length), clash (a[i], b[i]'(by omega)) = false := fun i hi => by
      rw [List.any_eq_false] at hany
      have := hany ((a.zip b)[i]'(by omega)) (List.getElem_mem _)
      rw [List.getElem_zip] at this
      simpa using this
    have hkk : ∀ (i : Nat) (k : Int), ((a.zip b).map bothK)[i]? = some k → ∃ hi : i < a.length, k = bothK (a[i], b[i]'(by omega)) := by
      intro i k hk
      have hi : i < a.length := by have := ltGet hk; omega
      rw [List.getElem?_map, List.getElem?_eq_getElem (by omega), List.getElem_zip] at hk
      exact ⟨hi, (Option.some.inj hk).symm⟩
    have fa : ∀ (i : Nat) (v : ApiValue) (k : Int), a[i]? = some v → ((a.zip b).map bothK)[i]? = some k → fitK k v := by
      intro i v k h1 h2
      obtain ⟨hi, rfl⟩ := hkk i k h2
      rw [List.getElem?_eq_getElem hi] at h1
      obtain rfl := Option.some.inj h1
      exact fit_left (ka _ (List.getElem_mem hi)) (hcl i hi)
    have fb : ∀ (i : Nat) (v : ApiValue) (k : Int), b[i]? = some v → ((a.zip b).map bothK)[i]? = some k → fitK k v := by
      intro i v k h1 h2
      obtain ⟨hi, rfl⟩ := hkk i k h2
      rw [List.getElem?_eq_getElem (by omega)] at h1
      obtain rfl := Option.some.inj h1
      exact fit_right (kb _ (List.getElem_mem _)) (hcl i hi)
    have kg : ((a.zip b).map bothK).any badK = false := by
      rw [List.any_eq_false]
      intro k hk
      obtain ⟨i, hi⟩ := List.getElem?_of_mem hk
      obtain ⟨hi2, rfl⟩ := hkk i k hi
      rw [both_good (va _ (List.getElem_mem _)) (vb _ (List.getElem_mem _)) (hcl i hi2)]
      simp
    have noPre : ∀ t, t ≠ [] → encL a ds ++ t ≠ encL b ds := by
      intro t ht he
      have d1 := decL_enc a ds ((a.zip b).map bothK) t e2 hkl.symm va fa
      have d2 := decL_enc b ds ((a.zip b).map bothK) [] (by omega) (by omega) vb fb
      rw [List.append_nil, ← he, d1] at d2
      injection d2 with d2
      injection d2 with _ d2
      exact ht d2
    show Option.bind (some (encL b ds, (0 : Int))) _ = _
    rw [bind_some']
    show Option.bind (bif ((0 : Int) != 0) then _ else some ((0 : Int) != 0)) _ = _
    rw [show ((0 : Int) != 0) = false from rfl, cond_false, bind_some', cond_false]
    have pre : (bif (decide (((encL a ds).length : Int) < ((encL b ds).length : Int))) then
              bif decide (0 ≤ ((encL a ds).length : Int) ∧ ((encL a ds).length : Int) ≤ ((encL b ds).length : Int)) then
              some ((List.take ((encL a ds).length : Int).toNat (encL b ds)) == encL a ds)
              else none
            else
              some false) = some false := by
      by_cases hlt : (encL a ds).length < (encL b ds).length
      · rw [bif_decT (by omega), bif_decT (by omega), Int.toNat_natCast]
        refine congrArg some (beq_eq_false_iff_ne.2 fun he => ?_)
        refine noPre ((encL b ds).drop (encL a ds).length) ?_ ?_
        · intro hd
          have := congrArg List.length hd
          simp at this
          omega
        · conv => lhs; lhs; rw [← he]
          exact List.take_append_drop _ _
      · rw [bif_decF (by omega)]
    rw [pre, bind_some', cond_false, bif_decT (by simp; omega), key_Decode_eq _ ds _ (by omega), decS_more e2 hkl.symm va fa kg (by simp)]
    show (bif ((2 : Int) != 2) then some false else bif (((encL a ds).length : Int) == 0) then some true else _) = _
    rw [show ((2 : Int) != 2) = false from rfl, cond_false]
    by_cases h0 : (encL a ds).length = 0
    · rw [h0]; rfl
    · rw [beq_eq_false_iff_ne.2 (by omega), cond_false, w64_id (n := ((encL a ds).length : Int) - 1) (by omega) (by omega), bif_decT (by omega), key_Decode_eq _ ds _ (by omega)]
      have hless := decS_less (b := (encL a ds).take (((encL a ds).length : Int) - 1).toNat) (t := (encL a ds).drop (((encL a ds).length : Int) - 1).toNat) e2 hkl.symm va fa kg (by
        intro hd
        have := congrArg List.length hd
        simp at this
        omega) (List.take_append_drop _ _)
      generalize decS ((a.zip b).map bothK) ds ((encL a ds).take (((encL a ds).length : Int) - 1).toNat) = z at hless
      obtain ⟨z1, z2⟩ := z
      simp only at hless
      subst hless
      rfl
end Lv
