/- Plain laws of layer 07: lists read; the law of all keys. -/
import Derived.Test.YtnlnojicpchmiaaDoorK7h
namespace Lv
open Go Go.Proofs
set_option linter.unusedVariables false
set_option linter.unusedSimpArgs false
set_option linter.unusedSectionVars false
set_option maxRecDepth 100000
variable [BaseTab]

def decL : List Int → List Bool → List UInt8 → Option (List ApiValue × List UInt8)
  | k :: ks, d :: ds, b => match decV k (turn d b) with
    | none => none
    | some (v, n) => (decL ks ds (b.drop n)).map (fun p => (v :: p.1, p.2))
  | _, _, b => some ([], b)
def badK (k : Int) : Bool := decide (k < 1) || decide (k > 5)
def endR : Option (List ApiValue × List UInt8) → List ApiValue × Int
  | none => ([], 2)
  | some (l, b) => if b = [] then (l, 0) else ([], 2)
def decS (ks : List Int) (ds : List Bool) (b : List UInt8) : List ApiValue × Int :=
  if ks.length = ds.length then
    if ks.any badK = true then ([], 1) else if b.length > 256 then ([], 2) else endR (decL ks ds b)
  else ([], 1)

def stp (s : List UInt8 × List ApiValue) (kd : Int × Bool) : (List UInt8 × List ApiValue) ⊕ ((List UInt8 × List ApiValue) ⊕ (List ApiValue × Int)) :=
  match decV kd.1 (turn kd.2 s.1) with
  | none => .inr (.inr ([], 2))
  | some (v, n) => .inl (s.1.drop n, s.2 ++ [v])
theorem fold_dec : ∀ (ks : List Int) (ds : List Bool) (b : List UInt8) (acc : List ApiValue), ks.length = ds.length →
    foldE stp (fun s => .inl s) (b, acc) (ks.zip ds) = match decL ks ds b with | none => .inr ([], 2) | some (l, t) => .inl (t, acc ++ l)
  | [], ds, b, acc, h => by simp [foldE, decL]
  | k :: ks, [], b, acc, h => by simp at h
  | k :: ks, d :: ds, b, acc, h => by
    rw [List.zip_cons_cons]
    simp only [foldE, decL, stp]
    cases hd : decV k (turn d b) with
    | none => rfl
    | some z =>
      obtain ⟨v, n⟩ := z
      simp only [Sum.elim_inl]
      rw [show foldE stp _ (b.drop n, acc ++ [v]) (ks.zip ds) = _ from fold_dec ks ds (b.drop n) (acc ++ [v]) (by simpa using h)]
      cases decL ks ds (b.drop n) with
      | none => rfl
      | some y => simp

theorem Decode_1_eq (k : Int) : key_Decode_1 k = some (badK k) := by
  unfold key_Decode_1 badK
  cases decide (k < 1) <;> rfl
theorem anyK_eq (l : List Int) (hl : l.length ≤ 1048576) : slices_ContainsFunc_int_int l = some (l.any badK) := by
  unfold slices_ContainsFunc_int_int slices_IndexFunc_int_int
  have q := loop_search (B := (fun y69 =>
        bif (decide (y69 < (l.length : Int))) then
          Option.bind (getI l y69) fun v79 =>
          Option.bind (key_Decode_1 v79) fun r80 =>
          bif r80 then
            some (Sum.inr (Sum.inr y69))
          else
            some (Sum.inl (w64 (y69 + (1 : Int))))
        else
          some (Sum.inr (Sum.inl ())))) l badK (fun i => .inr (i : Int)) (.inl ()) (fun i hi => by
      show (bif _ then _ else _) = _
      rw [bif_decT (by omega), getI_at hi, bind_some', Decode_1_eq, bind_some']
      cases badK l[i]
      · rw [cond_false, w64_succ (by omega)]; rfl
      · rfl) (by
      show (bif _ then _ else _) = _
      rw [bif_decF (by omega)])
  rcases q with ⟨q1, i, _, _, q2⟩ | ⟨q1, q2⟩
  · rw [show (loop _ (0 : Int)) = _ from q2, q1]
    show some (decide ((i : Int) ≥ 0)) = _
    rw [decide_eq_true (by omega)]
  · rw [show (loop _ (0 : Int)) = _ from q2, q1]
    rfl

theorem drop_end (b : List UInt8) (l : List ApiValue) : (bif (b != ([] : List UInt8)) then some (([] : List ApiValue), (2 : Int)) else some (l, (0 : Int))) = some (endR (some (l, b))) := by
  cases b with
  | nil => rfl
  | cons x b => rfl

theorem key_Decode_eq (ks : List Int) (ds : List Bool) (b : List UInt8) (hk : ks.length ≤ 1048576) : key_Decode ks ds b = some (decS ks ds b) := by
  unfold key_Decode decS
  by_cases he : ks.length = ds.length
  rotate_left
  · rw [if_neg he, show ((ks.length : Int) != (ds.length : Int)) = true by simp; omega]; rfl
  rw [if_pos he, show ((ks.length : Int) != (ds.length : Int)) = false by simp; omega, cond_false, anyK_eq ks hk, bind_some', bind_some']
  cases hb : ks.any badK with
  | true => rfl
  | false =>
    rw [cond_false, if_neg (by simp)]
    by_cases hl : b.length > 256
    · rw [if_pos hl, bif_decT (by omega)]
    rw [if_neg hl, bif_decF (by omega)]
    have hz : (ks.zip ds).length = ks.length := by rw [List.length_zip]; omega
    have q := loop_fold (B := (fun (y247, y248, y249) =>
            bif (decide (y249 < (ks.length : Int))) then
              Option.bind (getI ks y249) fun v275 =>
              Option.bind (α := (List UInt8))
                (Option.bind (getI ds y249) fun v282 =>
                bif v282 then
                  Option.bind (key_turned y247) fun r284 =>
                  some r284
                else
                  some y247)
                fun y280 =>
              Option.bind (key_take v275 y280) fun (r286, r287, r288) =>
              bif (!r287) then
                some (Sum.inr (Sum.inr (([] : List ApiValue), (2 : Int))))
              else
                bif decide ((y248.length + [r288].length) * 32 ≤ room) then
                bif decide (0 ≤ r286 ∧ r286 ≤ (y247.length : Int)) then
                some (Sum.inl ((List.drop r286.toNat y247), (y248 ++ [r288]), (w64 (y249 + (1 : Int)))))
                else none
                else none
            else
              some (Sum.inr (Sum.inl (y247, y248))))) (ks.zip ds) (fun i s => (s.1, s.2, (i : Int))) stp (fun s => .inl s) (fun i s => s.1.length ≤ 256 ∧ s.2.length ≤ i) ?_ ?_ (b, []) ⟨by show b.length ≤ 256; omega, by simp⟩
    · rw [show (loop _ (b, ([] : List ApiValue), (0 : Int))) = _ from q, fold_dec ks ds b [] he]
      cases decL ks ds b with
      | none => rfl
      | some y =>
        obtain ⟨l, t⟩ := y
        exact drop_end t l
    · rintro i ⟨b, acc⟩ hi ⟨h1, h2⟩
      simp only at h1 h2
      rw [hz] at hi
      have h3 : (ks.zip ds)[i]'(by omega) = (ks[i], ds[i]'(by omega)) := by rw [List.getElem_zip]
      have e1 : (Option.bind (getI ds (i : Int)) fun v282 => bif v282 then Option.bind (key_turned b) fun r284 => some r284 else some b) = some (turn (ds[i]'(by omega)) b) := by
        rw [getI_at (by omega), bind_some']
        cases ds[i]'(by omega) with
        | false => rfl
        | true => rw [cond_true, key_turned_eq b (by omega)]; rfl
      have ht := key_take_eq ks[i] (turn (ds[i]'(by omega)) b) (by rw [turn_len]; omega)
      have hle := @decV_le _ ks[i] (turn (ds[i]'(by omega)) b)
      rw [turn_len] at hle
      refine ⟨?_, ?_⟩
      · show (bif _ then Option.bind (getI ks (i : Int)) _ else _) = _
        rw [bif_decT (by omega), getI_at hi, bind_some', e1, bind_some', h3]
        unfold stp
        simp only
        cases hv : decV ks[i] (turn (ds[i]'(by omega)) b) with
        | none =>
          rw [hv] at ht
          obtain ⟨n, v, hx⟩ := ht
          rw [hx]
          rfl
        | some z =>
          obtain ⟨v, n⟩ := z
          rw [hv] at ht
          rw [show key_take ks[i] (turn (ds[i]'(by omega)) b) = some ((n : Int), true, v) from ht, bind_some']
          have := hle hv
          show (bif decide ((acc.length + 1) * 32 ≤ room) then bif decide (0 ≤ (n : Int) ∧ (n : Int) ≤ (b.length : Int)) then some (Sum.inl (b.drop n, _, w64 ((i : Int) + 1))) else none else none) = _
          rw [bif_decT (by rw [room_val]; omega), bif_decT (by omega), w64_succ (by omega)]
          rfl
      · intro s' hs
        rw [h3] at hs
        unfold stp at hs
        simp only at hs
        cases hv : decV ks[i] (turn (ds[i]'(by omega)) b) with
        | none => rw [hv] at hs; cases hs
        | some z =>
          obtain ⟨v, n⟩ := z
          rw [hv] at hs
          injection hs with hs
          subst hs
          simp
          omega
    · rintro ⟨b, acc⟩ _
      show (bif (decide (((ks.zip ds).length : Int) < (ks.length : Int))) then _ else _) = _
      rw [hz, bif_decF (by omega)]

theorem ref07_Decode_eq (ks : List Int) (ds : List Bool) (b : List UInt8) (hk : ks.length ≤ 1048576) : ref07_Decode ks ds b = some (decS ks ds b) := by
  unfold ref07_Decode decS
  by_cases he : ks.length = ds.length
  rotate_left
  · rw [if_neg he, show ((ks.length : Int) != (ds.length : Int)) = true by simp; omega]; rfl
  rw [if_pos he, show ((ks.length : Int) != (ds.length : Int)) = false by simp; omega, cond_false]
  have q0 := loop_any (B := (fun y199 =>
          bif (decide (y199 < (ks.length : Int))) then
            Option.bind (α := Bool)
              (Option.bind (getI ks y199) fun v219 =>
              bif (decide (v219 < (1 : Int))) then
                some true
              else
                Option.bind (getI ks y199) fun v221 =>
                some (decide (v221 > (5 : Int))))
              fun y217 =>
            bif y217 then
              some (Sum.inr (Sum.inr (([] : List ApiValue), (1 : Int))))
            else
              some (Sum.inl (w64 (y199 + (1 : Int))))
          else
            some (Sum.inr (Sum.inl ())))) ks badK (.inr (([] : List ApiValue), (1 : Int))) (.inl ()) (fun i hi => by
      show (bif _ then _ else _) = _
      rw [bif_decT (by omega), getI_at hi, bind_some', bind_some']
      unfold badK
      cases h1 : decide (ks[i] < 1)
      · rw [cond_false, bind_some']
        cases h2 : decide (ks[i] > 5)
        · rw [cond_false, w64_succ (by omega)]; rfl
        · rfl
      · rfl) (by
      show (bif _ then _ else _) = _
      rw [bif_decF (by omega)])
  rw [show (loop _ (0 : Int)) = _ from q0]
  cases hb : ks.any badK with
  | true => rfl
  | false =>
    rw [if_neg (by simp), if_neg (by simp), bind_some', Sum.elim_inl, bindE_l]
    by_cases hl : b.length > 256
    · rw [if_pos hl, bif_decT (by omega)]
    rw [if_neg hl, bif_decF (by omega)]
    have hz : (ks.zip ds).length = ks.length := by rw [List.length_zip]; omega
    have q := loop_fold (B := (fun (y273, y274, y275) =>
                bif (decide (y275 < (ks.length : Int))) then
                  Option.bind (getI ks y275) fun v291 =>
                  Option.bind (getI ds y275) fun v292 =>
                  Option.bind (ref07_one v291 v292 y273) fun (r293, r294) =>
                  bif (r293 == (0 : Int)) then
                    some (Sum.inr (Sum.inr (([] : List ApiValue), (2 : Int))))
                  else
                    bif decide ((y274.length + [r294].length) * 32 ≤ room) then
                    bif decide (0 ≤ r293 ∧ r293 ≤ (y273.length : Int)) then
                    some (Sum.inl ((List.drop r293.toNat y273), (y274 ++ [r294]), (w64 (y275 + (1 : Int)))))
                    else none
                    else none
                else
                  some (Sum.inr (Sum.inl (y273, y274))))) (ks.zip ds) (fun i s => (s.1, s.2, (i : Int))) stp (fun s => .inl s) (fun i s => s.1.length ≤ 256 ∧ s.2.length ≤ i) ?_ ?_ (b, []) ⟨by show b.length ≤ 256; omega, by simp⟩
    · rw [show (loop _ (b, ([] : List ApiValue), (0 : Int))) = _ from q, fold_dec ks ds b [] he]
      cases decL ks ds b with
      | none => rfl
      | some y =>
        obtain ⟨l, t⟩ := y
        exact drop_end t l
    · rintro i ⟨b, acc⟩ hi ⟨h1, h2⟩
      simp only at h1 h2
      rw [hz] at hi
      have h3 : (ks.zip ds)[i]'(by omega) = (ks[i], ds[i]'(by omega)) := by rw [List.getElem_zip]
      have ht := ref07_one_eq ks[i] (ds[i]'(by omega)) b (by omega)
      have hle := @decV_le _ ks[i] (turn (ds[i]'(by omega)) b)
      rw [turn_len] at hle
      refine ⟨?_, ?_⟩
      · show (bif _ then Option.bind (getI ks (i : Int)) fun v => Option.bind (getI ds (i : Int)) _ else _) = _
        rw [bif_decT (by omega), getI_at hi, bind_some', getI_at (by omega), bind_some', ht, bind_some', h3]
        unfold stp
        simp only
        cases hv : decV ks[i] (turn (ds[i]'(by omega)) b) with
        | none => rfl
        | some z =>
          obtain ⟨v, n⟩ := z
          have := hle hv
          show (bif ((n : Int) == 0) then _ else bif decide ((acc.length + 1) * 32 ≤ room) then bif decide (0 ≤ (n : Int) ∧ (n : Int) ≤ (b.length : Int)) then some (Sum.inl (b.drop n, _, w64 ((i : Int) + 1))) else none else none) = _
          rw [beq_eq_false_iff_ne.2 (show ¬ (n : Int) = 0 by omega), cond_false, bif_decT (by rw [room_val]; omega), bif_decT (by omega), w64_succ (by omega)]
          rfl
      · intro s' hs
        rw [h3] at hs
        unfold stp at hs
        simp only at hs
        cases hv : decV ks[i] (turn (ds[i]'(by omega)) b) with
        | none => rw [hv] at hs; cases hs
        | some z =>
          obtain ⟨v, n⟩ := z
          rw [hv] at hs
          injection hs with hs
          subst hs
          simp
          omega
    · rintro ⟨b, acc⟩ _
      show (bif (decide (((ks.zip ds).length : Int) < (ks.length : Int))) then _ else _) = _
      rw [hz, bif_decF (by omega)]

theorem eqApiValue_eq (v w : ApiValue) : eqApiValue v w = decide (v = w) := by
  obtain ⟨a, b, c⟩ := v
  obtain ⟨x, y, z⟩ := w
  rw [Bool.eq_iff_iff]
  simp [eqApiValue]
theorem Values_eq (a b : List ApiValue) (h : a.length < 1073741824) : raw_Values a b = some (decide (a = b)) := by
  unfold raw_Values
  by_cases he : a.length = b.length
  rotate_left
  · rw [show ((a.length : Int) != (b.length : Int)) = true by simp; omega, decide_eq_false (fun e => he (by rw [e]))]; rfl
  rw [show ((a.length : Int) != (b.length : Int)) = false by simp; omega, cond_false]
  have hz : (a.zip b).length = a.length := by rw [List.length_zip]; omega
  have q := loop_any (B := (fun y61 =>
          bif (decide (y61 < (a.length : Int))) then
            Option.bind (getI a y61) fun v70 =>
            Option.bind (getI b y61) fun v71 =>
            bif (!(eqApiValue v70 v71)) then
              some (Sum.inr (Sum.inr false))
            else
              some (Sum.inl (w64 (y61 + (1 : Int))))
          else
            some (Sum.inr (Sum.inl ())))) (a.zip b) (fun p => !(eqApiValue p.1 p.2)) (.inr false) (.inl ()) (fun i hi => by
      rw [hz] at hi
      show (bif _ then _ else _) = _
      rw [bif_decT (by omega), getI_at hi, bind_some', getI_at (by omega), bind_some', List.getElem_zip, w64_succ (by omega)]
      simp only
      cases (!(eqApiValue a[i] (b[i]'(by omega)))) <;> rfl) (by
      show (bif (decide (((a.zip b).length : Int) < (a.length : Int))) then _ else _) = _
      rw [hz, bif_decF (by omega)])
  rw [show (loop _ (0 : Int)) = _ from q]
  have key : (a.zip b).any (fun p => !(eqApiValue p.1 p.2)) = !decide (a = b) := by
    clear q hz h
    induction a generalizing b with
    | nil =>
      cases b with
      | nil => rfl
      | cons y b => simp at he
    | cons x a ih =>
      cases b with
      | nil => simp at he
      | cons y b =>
        rw [List.zip_cons_cons, List.any_cons, ih b (by simpa using he), eqApiValue_eq]
        rw [Bool.eq_iff_iff]
        simp
  rw [key]
  cases decide (a = b) <;> rfl

theorem KeyAll_true (l : List ApiValue) (ds : List Bool) (ks : List Int) (s : List UInt8) (h : Sm l) (hk : ks.length ≤ 1048576) : law07_KeyAll l ds ks s = some true := by
  unfold law07_KeyAll
  rw [show awakeF = some () from rfl, bind_some', key_Encode_eq l ds h, ref07_Encode_eq l ds h, key_Decode_eq ks ds s hk, ref07_Decode_eq ks ds s hk]
  have hlen : (decS ks ds s).1.length < 1073741824 := by
    unfold decS
    repeat' split
    all_goals first | (simp; done) | skip
    have : ∀ (ks : List Int) (ds : List Bool) (b : List UInt8) l t, decL ks ds b = some (l, t) → l.length ≤ ks.length := by
      intro ks
      induction ks with
      | nil => intro ds b l t h; simp [decL] at h; rw [h.1]; simp
      | cons k ks ih =>
        intro ds b l t h
        cases ds with
        | nil => simp [decL] at h; rw [h.1]; simp
        | cons d ds =>
          simp only [decL] at h
          cases hv : decV k (turn d b) with
          | none => rw [hv] at h; cases h
          | some z =>
            obtain ⟨v, n⟩ := z
            rw [hv] at h
            simp only at h
            cases hd : decL ks ds (b.drop n) with
            | none => rw [hd] at h; cases h
            | some y =>
              obtain ⟨l', t'⟩ := y
              rw [hd] at h
              injection h with h; injection h with h1 h2; subst h1
              have := ih ds _ _ _ hd
              simp; omega
    cases hd : decL ks ds s with
    | none => simp [endR]
    | some y =>
      obtain ⟨l, t⟩ := y
      have := this _ _ _ _ _ hd
      unfold endR
      simp only
      split <;> simp <;> omega
  generalize decS ks ds s = y at hlen
  generalize encS l ds = x
  obtain ⟨x1, x2⟩ := x
  obtain ⟨y1, y2⟩ := y
  show Option.bind (bif _ then bif _ then _ else _ else _) _ = _
  rw [BEq.rfl, cond_true, BEq.rfl, cond_true, Values_eq _ _ hlen, bind_some', decide_eq_true rfl, cond_true, BEq.rfl]
  rfl
end Lv
