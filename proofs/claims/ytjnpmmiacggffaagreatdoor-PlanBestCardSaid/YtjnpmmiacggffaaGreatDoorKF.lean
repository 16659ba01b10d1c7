/- Part of the proof of a law. -/
import Derived.Test.YtjnpmmiacggffaaGreatDoorXAll
import Derived.Test.YtjnpmmiacggffaaGreatDoorGwPlain
import Derived.Lib.ValidLaws
import Derived.Test.YtjnpmmiacggffaaGreatDoorGwQ
import Derived.Test.YtjnpmmiacggffaaGreatDoorXOk
import Derived.Test.YtjnpmmiacggffaaGreatDoorKK21
set_option linter.unusedVariables false
set_option linter.unusedSimpArgs false
set_option linter.unusedSectionVars false
set_option maxRecDepth 100000
namespace Lv
open Go Go.Proofs
variable [BaseTab]
variable [BaseTab]
variable [BaseTab]
variable [BaseTab]
variable [BaseTab]
variable [BaseTab]
variable [BaseTab]
variable [BaseTab]
variable [BaseTab]
variable [BaseTab]
variable [BaseTab]
variable [BaseTab]
variable [BaseTab]
variable [BaseTab]
variable [BaseTab]
variable [BaseTab]
variable [BaseTab]
variable [BaseTab]
variable [BaseTab]
end Lv
namespace Lv
open Go Go.Proofs
variable [BaseTab]
theorem getS_at {α : Type} {xs : List α} {off len i : Nat} (h : i < len) (h2 : off + i < xs.length) : getS xs off len (i : Int) = some xs[off + i] := by
 unfold getS
 rw [if_pos (by omega), Int.toNat_natCast, List.getElem?_eq_getElem h2]
end Lv
namespace Lv
open Go Go.Proofs
variable [BaseTab]
variable [BaseTab]
variable [BaseTab]
variable [BaseTab]
end Lv
namespace Lv
open Go Go.Proofs
variable [BaseTab]
def within (K : List UInt8) (s : ApiSpan) : Prop := ltS K s.Lo = false ∧ ltS K s.Hi = true ∧ s.Open = false
end Lv
namespace Lv
open Go Go.Proofs
section
variable {κ : Type} [BEq κ] [LawfulBEq κ]
end
variable [BaseTab]
end Lv
namespace Lv
open Go
variable [BaseTab]
end Lv
namespace Lv
open Go Go.Proofs
variable [BaseTab]
theorem take_s {α : Type} (l : List α) (i : Nat) (hi : i < l.length) : l.take (i + 1) = l.take i ++ [l[i]] := by
 rw [List.take_add_one, List.getElem?_eq_getElem hi]; rfl
end Lv
namespace Lv
open Go Go.Proofs
variable [BaseTab]
end Lv
namespace Lv
open Go Go.Proofs
variable [BaseTab]
theorem loop_totB {Y W : Type} {B : Y → Option (Y ⊕ W)} (I : Y → Prop) (Q : W → Prop) (μ : Y → Nat) (h : ∀ y, I y → (∃ y', B y = some (.inl y') ∧ I y' ∧ μ y' < μ y) ∨ ∃ w, B y = some (.inr w) ∧ Q w) : ∀ y, I y → ∃ w, loop B y = some w ∧ Q w := by
 have key : ∀ (n : Nat) (y : Y), μ y < n → I y → ∃ w, loop B y = some w ∧ Q w := by
  intro n
  induction n with
  | zero => intro y h; omega
  | succ n ih =>
   intro y hn hy
   rcases h y hy with ⟨y', e, i', m'⟩ | ⟨w, e, q⟩
   ·rw [loop_step e]
    exact ih y' (by omega) i'
   ·exact ⟨w, loop_end e, q⟩
 exact fun y hy => key (μ y + 1) y (by omega) hy
theorem lpT1 {Y W : Type} {B : Y → Option (Y ⊕ W)} {y0 : Y} (I : Y → Prop) (T : W → Prop) (μ : Y → Nat) (h : ∀ y, I y → (∃ y', B y = some (.inl y') ∧ I y' ∧ μ y' < μ y) ∨ ∃ w, B y = some (.inr w) ∧ T w) (i : I y0) :
  ∃ r, Option.bind (loop B y0) (fun e => some e) = some r ∧ T r := by
 obtain ⟨w, hw, q⟩ := loop_totB I T μ h y0 i
 exact ⟨w, by rw [hw]; rfl, q⟩
theorem lpT2 {Y W R : Type} {B : Y → Option (Y ⊕ W)} {y0 : Y} {K : W → Option R} {T : R → Prop} (I : Y → Prop) (Q : W → Prop) (μ : Y → Nat) (h : ∀ y, I y → (∃ y', B y = some (.inl y') ∧ I y' ∧ μ y' < μ y) ∨ ∃ w, B y = some (.inr w) ∧ Q w) (i : I y0) (k : ∀ w, Q w → ∃ r, K w = some r ∧ T r) :
  ∃ r, Option.bind (Option.bind (loop B y0) (fun e => some e)) K = some r ∧ T r := by
 obtain ⟨w, hw, q⟩ := loop_totB I Q μ h y0 i
 obtain ⟨r, hr, t⟩ := k w q
 exact ⟨r, by rw [hw]; exact hr, t⟩
def costI (p : List PlanPlan) (a : Int) : Int := ((p[a.toNat]?).map (fun x => x.Cost)).getD 0
omit [BaseTab] in
def CLt (c : Int → Int) (x y : Int) : Prop := c x < c y ∨ c x = c y ∧ x < y
instance (c : Int → Int) (x y : Int) : Decidable (CLt c x y) := inferInstanceAs (Decidable (_ ∨ _))
def HeapA (c : Int → Int) (a : Nat → Int) (n : Nat) : Prop := ∀ k, 0 < k → k < n → ¬ CLt c (a k) (a ((k - 1) / 2))
theorem heap_min {c : Int → Int} {a : Nat → Int} {n : Nat} (h : HeapA c a n) : ∀ k, k < n → ¬ CLt c (a k) (a 0) := by
 intro k
 induction k using Nat.strongRecOn with
 | ind k ih =>
  intro hk
  rcases Nat.eq_zero_or_pos k with rfl | k0
  ·unfold CLt; omega
  ·have h1 := h k k0 hk
   have h2 := ih ((k - 1) / 2) (by omega) (by omega)
   unfold CLt at h1 h2 ⊢
   omega
theorem up_stepA {c : Int → Int} {a a' : Nat → Int} {n j i : Nat} (hi : i = (j - 1) / 2) (hj : 0 < j) (e1 : a' i = a j) (e2 : a' j = a i) (e3 : ∀ k, k ≠ j → k ≠ i → a' k = a k) (lt : CLt c (a j) (a i))
  (H1 : ∀ k, 0 < k → k < n → k ≠ j → ¬ CLt c (a k) (a ((k - 1) / 2))) (H2 : ∀ k, 0 < k → k < n → (k - 1) / 2 = j → ¬ CLt c (a k) (a i)) :
  (∀ k, 0 < k → k < n → k ≠ i → ¬ CLt c (a' k) (a' ((k - 1) / 2))) ∧ (∀ k, 0 < k → k < n → (k - 1) / 2 = i → ∀ g, g = (i - 1) / 2 → 0 < i → ¬ CLt c (a' k) (a' g)) := by
 refine ⟨fun k k0 kn ki => ?_, fun k k0 kn kp g hg i0 => ?_⟩
 ·by_cases kj : k = j
  ·subst kj
   rw [← hi, e1, e2]
   unfold CLt at lt ⊢; omega
  ·rw [e3 k kj ki]
   generalize hq : (k - 1) / 2 = q
   by_cases qj : q = j
   ·subst qj
    rw [e2]
    exact H2 k k0 kn hq
   ·by_cases qi : q = i
    ·subst qi
     rw [e1]
     have := H1 k k0 kn kj
     rw [hq] at this
     unfold CLt at lt this ⊢; omega
    ·rw [e3 q qj qi, ← hq]
     exact H1 k k0 kn kj
 ·rw [e3 g (by omega) (by omega)]
  by_cases kj : k = j
  ·subst kj
   rw [e2, hg]
   exact H1 i i0 (by omega) (by omega)
  ·rw [e3 k kj (by omega)]
   have h1 := H1 k k0 kn kj
   have h2 := H1 i i0 (by omega) (by omega)
   rw [kp] at h1
   rw [← hg] at h2
   unfold CLt at h1 h2 ⊢; omega
theorem down_stepA {c : Int → Int} {a a' : Nat → Int} {n j i : Nat} (hi : (j - 1) / 2 = i) (hj : 0 < j) (hjn : j < n) (e1 : a' i = a j) (e2 : a' j = a i) (e3 : ∀ k, k ≠ j → k ≠ i → a' k = a k) (lt : CLt c (a j) (a i))
  (hm : ∀ k, 0 < k → k < n → (k - 1) / 2 = i → ¬ CLt c (a k) (a j))
  (D1 : ∀ k, 0 < k → k < n → (k - 1) / 2 ≠ i → ¬ CLt c (a k) (a ((k - 1) / 2))) (D2 : ∀ k, 0 < k → k < n → (k - 1) / 2 = i → 0 < i → ¬ CLt c (a k) (a ((i - 1) / 2))) :
  (∀ k, 0 < k → k < n → (k - 1) / 2 ≠ j → ¬ CLt c (a' k) (a' ((k - 1) / 2))) ∧ (∀ k, 0 < k → k < n → (k - 1) / 2 = j → 0 < j → ¬ CLt c (a' k) (a' ((j - 1) / 2))) := by
 refine ⟨fun k k0 kn kp => ?_, fun k k0 kn kp _ => ?_⟩
 ·by_cases pi : (k - 1) / 2 = i
  ·rw [pi, e1]
   by_cases kj : k = j
   ·subst kj
    rw [e2]
    unfold CLt at lt ⊢; omega
   ·rw [e3 k kj (by omega)]
    exact hm k k0 kn pi
  ·rw [e3 _ kp pi]
   by_cases ki : k = i
   ·subst ki
    rw [e1]
    exact D2 j hj hjn hi k0
   ·rw [e3 k (by omega) ki]
    exact D1 k k0 kn pi
 ·rw [hi, e1, e3 k (by omega) (by omega)]
  have := D1 k k0 kn (by omega)
  rw [kp] at this
  exact this
def gz (z : List Int) (k : Nat) : Int := z.getD k 0
theorem gz_at {z : List Int} {k : Nat} (h : k < z.length) : gz z k = z[k] := by unfold gz; simp [List.getD_eq_getElem?_getD, h]
theorem gz_mem {z : List Int} {k : Nat} (h : k < z.length) : gz z k ∈ z := by rw [gz_at h]; exact List.getElem_mem h
def swz (z : List Int) (i j : Nat) : List Int := (z.set i (gz z j)).set j (gz z i)
theorem swz_len (z : List Int) (i j : Nat) : (swz z i j).length = z.length := by unfold swz; simp
theorem swz_at {z : List Int} {i j : Nat} (hi : i < z.length) (hj : j < z.length) : gz (swz z i j) i = gz z j ∧ gz (swz z i j) j = gz z i ∧ ∀ k, k ≠ j → k ≠ i → gz (swz z i j) k = gz z k := by
 refine ⟨?_, ?_, fun k kj ki => ?_⟩
 ·rw [gz_at (by rw [swz_len]; exact hi)]
  unfold swz
  rw [List.getElem_set]
  split
  ·rename_i e; subst e; rfl
  ·rw [List.getElem_set_self]
 ·rw [gz_at (by rw [swz_len]; exact hj)]
  unfold swz
  rw [List.getElem_set_self]
 ·unfold swz
  rw [show ∀ l : List Int, gz l k = l[k]?.getD 0 from fun l => by unfold gz; rw [List.getD_eq_getElem?_getD]]
  rw [show gz z k = z[k]?.getD 0 by unfold gz; rw [List.getD_eq_getElem?_getD]]
  rw [List.getElem?_set_ne (fun e => kj e.symm), List.getElem?_set_ne (fun e => ki e.symm)]
theorem swz_take {z : List Int} {i j n : Nat} (hi : i < n) (hj : j < n) (hn : n ≤ z.length) : ((swz z i j).take n).Perm (z.take n) := by
 have h1 : i < (z.take n).length := by rw [List.length_take]; omega
 have h2 : j < (z.take n).length := by rw [List.length_take]; omega
 have := List.set_set_perm h1 h2
 unfold swz
 rw [List.take_set, List.take_set, gz_at (by omega), gz_at (by omega)]
 rw [List.getElem_take, List.getElem_take] at this
 exact this
theorem gz_of {z : List Int} {n : Nat} {i : Nat} (hi : i < n) (hn : n ≤ z.length) : getS z 0 n (i : Int) = some (gz z i) := by
 rw [getS_at hi (by omega), gz_at (by omega)]
 simp
theorem cost_at {p : List PlanPlan} {a : Int} (h : 0 ≤ a ∧ a < p.length) : ∃ x, getI p a = some x ∧ x.Cost = costI p a := by
 obtain ⟨k, rfl⟩ : ∃ k : Nat, a = (k : Int) := ⟨a.toNat, by omega⟩
 have hk : k < p.length := by omega
 refine ⟨p[k], getI_at hk, ?_⟩
 unfold costI
 simp [hk]
def InP (p : List PlanPlan) (z : List Int) : Prop := ∀ a ∈ z, 0 ≤ a ∧ a < p.length
theorem Less_at {p : List PlanPlan} {z : List Int} {n i j : Nat} (hn : n ≤ z.length) (hz : InP p z) (hi : i < n) (hj : j < n) :
  plan_queue_Less_1 p z 0 n (i : Int) (j : Int) = some (decide (CLt (costI p) (gz z i) (gz z j))) := by
 unfold plan_queue_Less_1
 refine bo (gz_of hi hn) ?_
 refine bo (gz_of hj hn) ?_
 obtain ⟨x, hx, cx⟩ := cost_at (hz _ (gz_mem (by omega : i < z.length)))
 obtain ⟨y, hy, cy⟩ := cost_at (hz _ (gz_mem (by omega : j < z.length)))
 refine bo hx ?_
 refine bo hy ?_
 by_cases e : x.Cost = y.Cost
 ·refine bf (by simp [e]) ?_
  have : (CLt (costI p) (gz z i) (gz z j)) ↔ gz z i < gz z j := by unfold CLt; omega
  exact congrArg some (decide_eq_decide.2 this.symm)
 ·refine bt (by simpa using e) ?_
  refine bo hx ?_
  refine bo hy ?_
  have : (CLt (costI p) (gz z i) (gz z j)) ↔ x.Cost < y.Cost := by unfold CLt; omega
  exact congrArg some (decide_eq_decide.2 this.symm)
theorem Swap_at {p : List PlanPlan} {z : List Int} {n i j : Nat} (hn : n ≤ z.length) (hi : i < n) (hj : j < n) :
  plan_queue_Swap_1 p z 0 n (i : Int) (j : Int) = some (swz z i j) := by
 unfold plan_queue_Swap_1
 refine bo (gz_of hj hn) ?_
 refine bo (gz_of hi hn) ?_
 refine bo (gz_of hi hn) ?_
 refine bo (getS_at hj (by rw [List.length_set]; omega)) ?_
 unfold swz
 simp
theorem par_w {j : Nat} (h : j < 1000000000) : w64 (Int.tdiv (w64 ((j : Int) - 1)) 2) = (((j - 1) / 2 : Nat) : Int) := by
 rw [w64_id (n := (j : Int) - 1) (by omega) (by omega)]
 rcases Nat.eq_zero_or_pos j with rfl | h0
 ·decide
 ·rw [Int.tdiv_eq_ediv_of_nonneg (by omega), w64_id (by omega) (by omega)]
  omega
theorem up_ok {p : List PlanPlan} {z : List Int} {n j : Nat} (hz : InP p z) (hn : z.length = n) (hs : n < 1000000000) (hj : j < n)
  (H1 : ∀ k, 0 < k → k < n → k ≠ j → ¬ CLt (costI p) (gz z k) (gz z ((k - 1) / 2))) (H2 : ∀ k, 0 < k → k < n → (k - 1) / 2 = j → 0 < j → ¬ CLt (costI p) (gz z k) (gz z ((j - 1) / 2))) :
  ∃ z', container_heap_up (j : Int) p z = some z' ∧ z'.length = n ∧ z'.Perm z ∧ HeapA (costI p) (gz z') n := by
 unfold container_heap_up
 exact lpT1
   (fun (y : Int × List Int) => ∃ j : Nat, y.1 = j ∧ j < n ∧ y.2.length = n ∧ y.2.Perm z ∧ (∀ k, 0 < k → k < n → k ≠ j → ¬ CLt (costI p) (gz y.2 k) (gz y.2 ((k - 1) / 2))) ∧ (∀ k, 0 < k → k < n → (k - 1) / 2 = j → 0 < j → ¬ CLt (costI p) (gz y.2 k) (gz y.2 ((j - 1) / 2))))
   (fun (w : List Int) => w.length = n ∧ w.Perm z ∧ HeapA (costI p) (gz w) n)
   (fun (y : Int × List Int) => y.1.toNat)
   (by
    rintro ⟨_, y⟩ ⟨j, rfl, hj, hl, hp, h1, h2⟩
    show (∃ y', Option.bind _ _ = _ ∧ _) ∨ ∃ w, Option.bind _ _ = _ ∧ _
    have hzy : InP p y := fun a ha => hz a (hp.mem_iff.1 ha)
    replace hl : y.length = n := hl
    simp only [par_w (show j < 1000000000 by omega), hn]
    rcases Nat.eq_zero_or_pos j with rfl | j0
    ·exact .inr ⟨y, rfl, hl, hp, fun k k0 kn => h1 k k0 kn (by omega)⟩
    ·have hne : ((((j - 1) / 2 : Nat) : Int) == (j : Int)) = false := by simp; omega
     rw [hne]
     simp only [Bool.cond_false]
     rw [Less_at (by omega) hzy hj (by omega)]
     by_cases lt : CLt (costI p) (gz y j) (gz y ((j - 1) / 2))
     ·left
      obtain ⟨e1, e2, e3⟩ := swz_at (z := y) (i := (j - 1) / 2) (j := j) (by omega) (by omega)
      obtain ⟨s1, s2⟩ := up_stepA (n := n) rfl j0 e1 e2 e3 lt h1 (fun k k0 kn kp => h2 k k0 kn kp j0)
      refine ⟨((((j - 1) / 2 : Nat) : Int), swz y ((j - 1) / 2) j), ?_, ⟨(j - 1) / 2, rfl, by omega, by rw [swz_len]; exact hl, ?_, s1, fun k k0 kn kp i0 => s2 k k0 kn kp _ rfl i0⟩, ?_⟩
      ·rw [decide_eq_true lt]
       show Option.bind _ _ = _
       rw [Swap_at (by omega) (by omega) hj]; rfl
      ·have := swz_take (z := y) (i := (j - 1) / 2) (j := j) (n := n) (by omega) hj (by omega)
       rw [List.take_of_length_le (by rw [swz_len]; omega), List.take_of_length_le (by omega)] at this
       exact this.trans hp
      ·show (((j - 1) / 2 : Nat) : Int).toNat < (j : Int).toNat
       omega
     ·right
      refine ⟨y, ?_, hl, hp, fun k k0 kn => ?_⟩
      ·rw [decide_eq_false lt]; rfl
      ·by_cases kj : k = j
       ·subst kj; exact lt
       ·exact h1 k k0 kn kj)
   ⟨j, rfl, hj, hn, List.Perm.refl _, H1, H2⟩
theorem ch_w {i : Nat} (h : i < 1000000000) : w64 (w64 ((2 : Int) * (i : Int)) + 1) = ((2 * i + 1 : Nat) : Int) ∧ w64 (((2 * i + 1 : Nat) : Int) + 1) = ((2 * i + 2 : Nat) : Int) := by
 rw [w64_id (n := (2 : Int) * (i : Int)) (by omega) (by omega)]
 refine ⟨?_, ?_⟩
 ·rw [w64_id (by omega) (by omega)]; omega
 ·rw [w64_id (by omega) (by omega)]; omega
theorem down_ok {p : List PlanPlan} {z : List Int} {n m : Nat} (hz : InP p z) (hm : m ≤ z.length) (hs : m < 1000000000) (hn : n ≤ m)
    (D1 : ∀ k, 0 < k → k < n → (k - 1) / 2 ≠ 0 → ¬ CLt (costI p) (gz z k) (gz z ((k - 1) / 2))) :
    ∃ b z', container_heap_down 0 (n : Int) p z 0 m = some (b, z') ∧ z'.length = z.length ∧ z'.Perm z ∧ (z'.take n).Perm (z.take n) ∧ (∀ k, n ≤ k → gz z' k = gz z k) ∧ HeapA (costI p) (gz z') n := by
  have main : ∃ r : Bool × List Int, container_heap_down 0 (n : Int) p z 0 m = some r ∧ (r.2.length = z.length ∧ r.2.Perm z ∧ (r.2.take n).Perm (z.take n) ∧ (∀ k, n ≤ k → gz r.2 k = gz z k) ∧ HeapA (costI p) (gz r.2) n) := by
   unfold container_heap_down
   exact lpT2
      (fun (y : Int × List Int) => ∃ i : Nat, y.1 = i ∧ (i < n ∨ n = 0 ∧ i = 0) ∧ y.2.length = z.length ∧ y.2.Perm z ∧ (y.2.take n).Perm (z.take n) ∧ (∀ k, n ≤ k → gz y.2 k = gz z k) ∧ (∀ k, 0 < k → k < n → (k - 1) / 2 ≠ i → ¬ CLt (costI p) (gz y.2 k) (gz y.2 ((k - 1) / 2))) ∧ (∀ k, 0 < k → k < n → (k - 1) / 2 = i → 0 < i → ¬ CLt (costI p) (gz y.2 k) (gz y.2 ((i - 1) / 2))))
      (fun (w : Int × List Int) => w.2.length = z.length ∧ w.2.Perm z ∧ (w.2.take n).Perm (z.take n) ∧ (∀ k, n ≤ k → gz w.2 k = gz z k) ∧ HeapA (costI p) (gz w.2) n)
      (fun (y : Int × List Int) => n - y.1.toNat)
      (by
        rintro ⟨_, y⟩ ⟨i, rfl, hi, hl, hp, ht, hk, d1, d2⟩
        show (∃ y', Option.bind _ _ = _ ∧ _) ∨ ∃ w, Option.bind _ _ = _ ∧ _
        replace hl : y.length = z.length := hl
        have hzy : InP p y := fun a ha => hz a (hp.mem_iff.1 ha)
        obtain ⟨w1, w2⟩ := ch_w (show i < 1000000000 by omega)
        simp only [w1, w2]
        by_cases g : 2 * i + 1 < n
        rotate_left
        · right
          refine ⟨((i : Int), y), ?_, hl, hp, ht, hk, fun k k0 kn => d1 k k0 kn (by omega)⟩
          rw [bif_decT (by omega)]; rfl
        have hin : i < n := by omega
        rw [bif_decF (by omega)]
        rw [decide_eq_false (show ¬ (((2 * i + 1 : Nat)) : Int) < 0 by omega)]
        simp only [Option.bind_some, Bool.cond_false]
        have hj : ∃ j : Nat, (j = 2 * i + 1 ∨ j = 2 * i + 2) ∧ j < n ∧ (∀ k, 0 < k → k < n → (k - 1) / 2 = i → ¬ CLt (costI p) (gz y k) (gz y j)) ∧ (Option.bind (α := Bool) (bif (decide (((2 * i + 2 : Nat) : Int) < (n : Int))) then Option.bind (plan_queue_Less_1 p y 0 m ((2 * i + 2 : Nat) : Int) ((2 * i + 1 : Nat) : Int)) fun z3 => some z3 else some false) fun z4 => bif z4 then some ((2 * i + 2 : Nat) : Int) else some ((2 * i + 1 : Nat) : Int)) = some (j : Int) := by
          by_cases g2 : 2 * i + 2 < n
          · rw [bif_decT (by omega), Less_at (by omega) hzy (by omega) (by omega)]
            by_cases lt : CLt (costI p) (gz y (2 * i + 2)) (gz y (2 * i + 1))
            · refine ⟨2 * i + 2, .inr rfl, g2, fun k k0 kn kp => ?_, ?_⟩
              · rcases (show k = 2 * i + 1 ∨ k = 2 * i + 2 by omega) with rfl | rfl
                · unfold CLt at lt ⊢; omega
                · unfold CLt; omega
              · rw [decide_eq_true lt]; rfl
            · refine ⟨2 * i + 1, .inl rfl, by omega, fun k k0 kn kp => ?_, ?_⟩
              · rcases (show k = 2 * i + 1 ∨ k = 2 * i + 2 by omega) with rfl | rfl
                · unfold CLt; omega
                · exact lt
              · rw [decide_eq_false lt]; rfl
          · rw [bif_decF (by omega)]
            refine ⟨2 * i + 1, .inl rfl, by omega, fun k k0 kn kp => ?_, rfl⟩
            obtain rfl : k = 2 * i + 1 := by omega
            unfold CLt; omega
        obtain ⟨j, hj1, hjn, hmn, hj2⟩ := hj
        rw [hj2]
        simp only [Option.bind_some]
        rw [Less_at (by omega) hzy (by omega) (by omega)]
        by_cases lt : CLt (costI p) (gz y j) (gz y i)
        · left
          obtain ⟨e1, e2, e3⟩ := swz_at (z := y) (i := i) (j := j) (by omega) (by omega)
          obtain ⟨s1, s2⟩ := down_stepA (n := n) (by omega : (j - 1) / 2 = i) (by omega) hjn e1 e2 e3 lt hmn d1 d2
          refine ⟨((j : Int), swz y i j), ?_, ⟨j, rfl, .inl hjn, by rw [swz_len]; exact hl, ?_, ?_, ?_, s1, s2⟩, ?_⟩
          · rw [decide_eq_true lt]
            show Option.bind _ _ = _
            rw [Swap_at (by omega) (by omega) (by omega)]; rfl
          · have := swz_take (z := y) (i := i) (j := j) (n := y.length) (by omega) (by omega) (Nat.le_refl _)
            rw [List.take_of_length_le (by rw [swz_len]; omega), List.take_of_length_le (Nat.le_refl _)] at this
            exact this.trans hp
          · exact (swz_take (z := y) (i := i) (j := j) (n := n) (by omega) (by omega) (by omega)).trans ht
          · intro k kn
            rw [show gz (swz y i j) k = gz y k from e3 k (by omega) (by omega)]
            exact hk k kn
          · show n - (j : Int).toNat < n - (i : Int).toNat
            omega
        · right
          refine ⟨((i : Int), y), ?_, hl, hp, ht, hk, fun k k0 kn => ?_⟩
          · rw [decide_eq_false lt]; rfl
          · by_cases kp : (k - 1) / 2 = i
            · have := hmn k k0 kn kp
              show ¬ CLt (costI p) (gz y k) (gz y ((k - 1) / 2))
              rw [kp]
              unfold CLt at this lt ⊢; omega
            · exact d1 k k0 kn kp)
      ⟨0, rfl, by omega, rfl, List.Perm.refl _, List.Perm.refl _, fun k _ => rfl, D1, fun k _ _ _ h => absurd h (by omega)⟩
      (fun w q => ⟨_, rfl, q⟩)
  obtain ⟨⟨b, z'⟩, h1, h2⟩ := main
  exact ⟨b, z', h1, h2⟩
def rI (n : Nat) : List Int := (List.range n).map fun (i : Nat) => (i : Int)
theorem rI_succ (n : Nat) : rI (n + 1) = rI n ++ [(n : Int)] := by unfold rI; rw [List.range_succ, List.map_append]; rfl
theorem rI_len (n : Nat) : (rI n).length = n := by unfold rI; simp
theorem mem_rI {n : Nat} {a : Int} : a ∈ rI n ↔ 0 ≤ a ∧ a < n := by
 unfold rI
 rw [List.mem_map]
 refine ⟨fun ⟨i, hi, e⟩ => ?_, fun h => ⟨a.toNat, ?_, by omega⟩⟩
 ·have := List.mem_range.1 hi; omega
 ·rw [List.mem_range]; omega
theorem nodup_rI (n : Nat) : (rI n).Nodup := by
 unfold rI
 exact List.Pairwise.map _ (fun a b (h : a ≠ b) => by omega) List.nodup_range
theorem Push_ok {p : List PlanPlan} {z : List Int} {n : Nat} (hl : z.length = n) (hn : n < p.length) (hs : p.length ≤ 1000000) (hp : z.Perm (rI n)) (hh : HeapA (costI p) (gz z) n) :
  ∃ z', container_heap_Push_1 (n : Int) p z 0 n = some z' ∧ z'.length = n + 1 ∧ z'.Perm (rI (n + 1)) ∧ HeapA (costI p) (gz z') (n + 1) := by
 have e : List.take n (List.drop 0 z) ++ [(n : Int)] = z ++ [(n : Int)] := by rw [List.drop_zero, List.take_of_length_le (by omega)]
 have el : (z ++ [(n : Int)]).length = n + 1 := by simp [hl]
 have hpp : (z ++ [(n : Int)]).Perm (rI (n + 1)) := by rw [rI_succ]; exact hp.append_right _
 have ga : ∀ k, k < n → gz (z ++ [(n : Int)]) k = gz z k := fun k hk => by
  rw [gz_at (by omega), gz_at (by omega), List.getElem_append_left (by omega)]
 obtain ⟨z', h1, h2, h3, h4⟩ := up_ok (p := p) (z := z ++ [(n : Int)]) (n := n + 1) (j := n) (fun a ha => by have := mem_rI.1 (hpp.mem_iff.1 ha); omega) el (by omega) (by omega)
  (fun k k0 kn kj => by rw [ga k (by omega), ga _ (by omega)]; exact hh k k0 (by omega)) (fun k k0 kn kp _ => by omega)
 refine ⟨z', ?_, h2, h3.trans hpp, h4⟩
 unfold container_heap_Push_1
 refine bo (a := ()) ?_ ?_
 ·unfold plan_queue_Push_1
  rw [decide_eq_true (by omega), decide_eq_true (by rw [room_val]; simp; omega)]; rfl
 refine bo (a := ()) rfl ?_
 rw [e, el, show w64 (((n + 1 : Nat) : Int) - 1) = (n : Int) by rw [w64_id (by omega) (by omega)]; omega]
 exact bo h1 rfl
theorem Pop_ok {p : List PlanPlan} {z : List Int} {n : Nat} (hz : InP p z) (hn : n + 1 ≤ z.length) (hs : n + 1 < 1000000000) (hh : HeapA (costI p) (gz z) (n + 1)) :
  ∃ z', container_heap_Pop p z 0 (n + 1) = some (gz z 0, z') ∧ z'.length = z.length ∧ InP p z' ∧ (z'.take n ++ [gz z 0]).Perm (z.take (n + 1)) ∧ HeapA (costI p) (gz z') n := by
 have hz1 : InP p (swz z 0 n) := fun a ha => by
  have := swz_take (z := z) (i := 0) (j := n) (n := z.length) (by omega) (by omega) (Nat.le_refl _)
  rw [List.take_of_length_le (by rw [swz_len]; omega), List.take_of_length_le (Nat.le_refl _)] at this
  exact hz a (this.mem_iff.1 ha)
 obtain ⟨e1, e2, e3⟩ := swz_at (z := z) (i := 0) (j := n) (by omega) (by omega)
 obtain ⟨b, z', h1, h2, h3, h4, h5, h6⟩ := down_ok (p := p) (z := swz z 0 n) (n := n) (m := n + 1) hz1 (by rw [swz_len]; omega) hs (by omega)
  (fun k k0 kn kp => by rw [e3 k (by omega) (by omega), e3 _ (by omega) (by omega)]; exact hh k k0 (by omega))
 rw [swz_len] at h2
 have hx : gz z' n = gz z 0 := by rw [h5 n (Nat.le_refl _), e2]
 refine ⟨z', ?_, h2, fun a ha => hz1 a (h3.mem_iff.1 ha), ?_, h6⟩
 ·unfold container_heap_Pop
  have en : w64 (((n + 1 : Nat) : Int) - 1) = (n : Int) := by rw [w64_id (by omega) (by omega)]; omega
  refine bo (a := ()) rfl ?_
  rw [en]
  refine bo (Swap_at (p := p) (z := z) (n := n + 1) (i := 0) (j := n) hn (by omega) (by omega)) ?_
  refine bo h1 ?_
  show Option.bind _ _ = _
  refine bo (a := gz z 0) ?_ rfl
  unfold plan_queue_Pop
  rw [en]
  refine bo (gz_of (n := n + 1) (i := n) (by omega) (by omega)) ?_
  rw [decide_eq_true (by omega), hx]; rfl
 ·have k1 : z'.take (n + 1) = z'.take n ++ [gz z 0] := by rw [take_s _ n (by omega), ← hx, gz_at (by omega)]
  have k2 : (swz z 0 n).take (n + 1) = (swz z 0 n).take n ++ [gz z 0] := by rw [take_s _ n (by rw [swz_len]; omega), ← gz_at (by rw [swz_len]; omega), e2]
  refine (h4.append_right _).trans ?_
  rw [← k2]
  exact swz_take (by omega) (by omega) hn
theorem Best_ok (p : List PlanPlan) (hs : p.length ≤ 1000000) : ∃ out, plan_Best p = some out ∧ (out.Perm (rI p.length) ∧ out.Pairwise (CLt (costI p))) := by
 unfold plan_Best
 refine lpT2
  (fun (y : Int × List Int × Nat) => ∃ n : Nat, y.1 = n ∧ y.2.2 = n ∧ n ≤ p.length ∧ y.2.1.length = n ∧ y.2.1.Perm (rI n) ∧ HeapA (costI p) (gz y.2.1) n)
  (fun (w : List Int × Nat) => w.2 = p.length ∧ w.1.length = p.length ∧ w.1.Perm (rI p.length) ∧ HeapA (costI p) (gz w.1) p.length)
  (fun (y : Int × List Int × Nat) => p.length - y.1.toNat) ?_ ⟨0, rfl, rfl, by omega, rfl, List.Perm.refl [], fun k _ h => by omega⟩ ?_
 ·rintro ⟨_, z, m⟩ ⟨n, rfl, hm, hn, hl, hp, hh⟩
  replace hm : n = m := Eq.symm hm
  subst hm
  replace hl : z.length = n := hl
  show (∃ y', (bif _ then _ else _) = _ ∧ _) ∨ ∃ w, (bif _ then _ else _) = _ ∧ _
  by_cases g : n < p.length
  ·left
   obtain ⟨z', h1, h2, h3, h4⟩ := Push_ok hl g hs hp hh
   refine ⟨(((n + 1 : Nat) : Int), z', n + 1), ?_, ⟨n + 1, rfl, rfl, g, h2, h3, h4⟩, ?_⟩
   ·rw [bif_decT (by omega), h1, w64_succ (by omega)]
    show some (Sum.inl (_, z', (_ : List Int).length)) = _
    rw [List.length_append, List.length_take, List.drop_zero, List.length_singleton, hl, Nat.min_self]
   ·show p.length - ((n + 1 : Nat) : Int).toNat < p.length - (n : Int).toNat
    omega
  ·right
   obtain rfl : n = p.length := by omega
   exact ⟨(z, p.length), by rw [bif_decF (by omega)], rfl, hl, hp, hh⟩
 ·rintro ⟨z0, _⟩ ⟨rfl, hl0, hp0, hh0⟩
  refine lpT2 (T := fun (out : List Int) => out.Perm (rI p.length) ∧ out.Pairwise (CLt (costI p)))
   (fun (y : List Int × List Int × Nat) => y.2.1.length = p.length ∧ InP p y.2.1 ∧ y.2.2 ≤ p.length ∧ HeapA (costI p) (gz y.2.1) y.2.2 ∧ (y.1 ++ y.2.1.take y.2.2).Perm (rI p.length) ∧ y.1.Pairwise (CLt (costI p)) ∧ (∀ a ∈ y.1, ∀ b ∈ y.2.1.take y.2.2, CLt (costI p) a b))
   (fun (w : List Int) => w.Perm (rI p.length) ∧ w.Pairwise (CLt (costI p)))
   (fun (y : List Int × List Int × Nat) => y.2.2) ?_ ?_ ?_
  rotate_left
  ·refine ⟨hl0, fun a ha => mem_rI.1 (hp0.mem_iff.1 ha), Nat.le_refl _, hh0, ?_, List.Pairwise.nil, fun a ha => by cases ha⟩
   show (z0.take p.length).Perm _
   rw [List.take_of_length_le (Nat.le_of_eq hl0)]; exact hp0
  ·exact fun w q => ⟨w, rfl, q⟩
  rintro ⟨out, z, n⟩ ⟨hl, hz, hn, hh, hp, hw, ho⟩
  replace hl : z.length = p.length := hl
  replace hn : n ≤ p.length := hn
  replace hp : (out ++ z.take n).Perm (rI p.length) := hp
  show (∃ y', (bif _ then _ else _) = _ ∧ _) ∨ ∃ w, (bif _ then _ else _) = _ ∧ _
  cases n with
  | zero =>
   right
   refine ⟨out, rfl, ?_, hw⟩
   rw [List.take_zero, List.append_nil] at hp
   exact hp
  | succ n =>
   left
   replace hz : InP p z := hz
   replace hh : HeapA (costI p) (gz z) (n + 1) := hh
   obtain ⟨z', h1, h2, h3, h4, h5⟩ := Pop_ok hz (by omega) (by omega) hh
   have hlen := hp.length_eq
   rw [List.length_append, List.length_take, rI_len] at hlen
   have hx : gz z 0 ∈ z.take (n + 1) := h4.mem_iff.1 (by simp)
   have hnd : (z'.take n ++ [gz z 0]).Nodup := h4.nodup_iff.2 (List.nodup_append.1 (hp.nodup_iff.2 (nodup_rI _))).2.1
   refine ⟨(out ++ [gz z 0], z', n), ?_, ⟨by rw [h2, hl], h3, (by show n ≤ p.length; omega), h5, ?_, ?_, ?_⟩, Nat.lt_succ_self n⟩
   ·rw [bif_decT (by omega), h1]
    show (bif _ then _ else _) = _
    rw [bif_decT (by rw [room_val]; simp; omega)]
    rw [show w64 (((n + 1 : Nat) : Int) - 1) = (n : Int) by rw [w64_id (by omega) (by omega)]; omega]
    rfl
   ·show ((out ++ [gz z 0]) ++ z'.take n).Perm _
    rw [List.append_assoc]
    exact ((List.perm_append_comm.trans h4).append_left out).trans hp
   ·show (out ++ [gz z 0]).Pairwise _
    exact List.pairwise_append.2 ⟨hw, List.pairwise_singleton _ _, fun a ha b hb => by rw [List.mem_singleton.1 hb]; exact ho a ha _ hx⟩
   ·intro a ha b hb
    have hb' : b ∈ z.take (n + 1) := h4.mem_iff.1 (List.mem_append.2 (.inl hb))
    rcases List.mem_append.1 ha with ha | ha
    ·exact ho a ha b hb'
    ·rw [List.mem_singleton.1 ha]
     have hne : b ≠ gz z 0 := (List.nodup_append.1 hnd).2.2 b hb _ (by simp)
     obtain ⟨k, hk, e⟩ := List.getElem_of_mem hb'
     rw [List.length_take] at hk
     rw [List.getElem_take] at e
     have hk' : k < n + 1 := Nat.lt_of_lt_of_le hk (Nat.min_le_left _ _)
     have := heap_min hh k hk'
     rw [show gz z k = b by rw [gz_at (by omega)]; exact e] at this
     unfold CLt at this ⊢
     omega
def bareP (costs : List Int) (k : Nat) : PlanPlan := PlanPlan.mk (k : Int) (ApiSpan.mk ([] : List UInt8) ([] : List UInt8) false) (0 : Int) false false (gz costs k)
def bareL (costs : List Int) (n : Nat) : List PlanPlan := (List.range n).map (bareP costs)
theorem bareL_len (costs : List Int) (n : Nat) : (bareL costs n).length = n := by unfold bareL; simp
theorem bareL_get {costs : List Int} {n k : Nat} (h : k < n) : getI (bareL costs n) (k : Int) = some (bareP costs k) := by
 rw [getI_at (by rw [bareL_len]; exact h)]
 unfold bareL
 rw [List.getElem_map, List.getElem_range]
theorem bareL_cost {costs : List Int} {n k : Nat} (h : k < n) : costI (bareL costs n) (k : Int) = gz costs k := by
 obtain ⟨x, hx, e⟩ := cost_at (p := bareL costs n) (a := (k : Int)) (by rw [bareL_len]; omega)
 rw [bareL_get h] at hx
 rw [← e, ← Option.some.inj hx]; rfl
def seenL (out : List Int) (N i : Nat) : List Bool := (List.range N).map fun (k : Nat) => decide ((k : Int) ∈ out.take i)
theorem seenL_get {out : List Int} {N i k : Nat} (h : k < N) : getI (seenL out N i) (k : Int) = some (decide ((k : Int) ∈ out.take i)) := by
 rw [getI_at (by unfold seenL; simpa using h)]
 unfold seenL
 rw [List.getElem_map, List.getElem_range]
theorem seenL_at {out : List Int} {N i j : Nat} (h : j < (seenL out N i).length) : (seenL out N i)[j] = decide ((j : Int) ∈ out.take i) := by simp [seenL]
theorem seenL_set {out : List Int} {N i k : Nat} (hi : i < out.length) (hk : out[i] = (k : Int)) (h : k < N) : (seenL out N i).set k true = seenL out N (i + 1) := by
 apply List.ext_getElem
 ·unfold seenL; simp
 ·intro j h1 h2
  have hj : j < N := by unfold seenL at h2; simpa using h2
  rw [List.getElem_set, seenL_at, seenL_at, take_s _ i hi]
  split
  ·rename_i e; subst e
   exact (decide_eq_true (by rw [List.mem_append]; right; rw [hk]; simp)).symm
  ·rename_i e
   refine decide_eq_decide.2 ?_
   rw [List.mem_append]
   refine ⟨.inl, fun q => ?_⟩
   rcases q with q | q
   ·exact q
   ·have := List.mem_singleton.1 q
    rw [hk] at this
    omega
theorem PlanBest_aw (ha : law21_awake = some true) (costs : List Int) : law21_PlanBest costs = some true := by
 unfold law21_PlanBest
 refine bo ha ?_
 refine bf rfl ?_
 have hN : ∃ N, N = min costs.length 200 := ⟨_, rfl⟩
 obtain ⟨N, hN⟩ := hN
 refine lpA (w := bareL costs N) (lq1 (fun i => (bareL costs i, (i : Int))) N (fun i hi => ?_) ?_ rfl) ?_
 ·show Option.bind _ _ = _
  refine bo (a := true) (by rw [bif_decT (by omega), decide_eq_true (by omega)]) ?_
  refine bt rfl ?_
  refine bo (getI_at (by omega : i < costs.length)) ?_
  refine gt (by rw [bareL_len, room_val]; simp; omega) ?_
  rw [w64_succ (by omega)]
  refine congrArg (fun x => some (Sum.inl (x, _))) ?_
  unfold bareL
  rw [List.range_succ, List.map_append]
  refine congrArg (fun x => _ ++ [x]) ?_
  unfold bareP
  rw [gz_at (by omega)]
 ·show Option.bind _ _ = _
  by_cases g : N < costs.length
  ·rw [bif_decT (by omega), decide_eq_false (by omega)]; rfl
  ·rw [bif_decF (by omega)]; rfl
 obtain ⟨out, ho, hp, hw⟩ := Best_ok (bareL costs N) (by rw [bareL_len]; omega)
 refine bo ho ?_
 have hlen : out.length = N := by rw [hp.length_eq, rI_len, bareL_len]
 rw [bareL_len] at hp
 have hnd : out.Nodup := hp.nodup_iff.2 (nodup_rI N)
 rw [bareL_len]
 refine bf (by rw [hlen]; simp) ?_
 refine gt (by omega) ?_
 refine lpE (w := .inl ()) (lq1 (fun i => (seenL out N i, (i : Int))) N (fun i hi => ?_) ?_ ?_) rfl
 ·show (bif _ then _ else _) = _
  rw [bif_decT (by omega)]
  have hio : i < out.length := by omega
  obtain ⟨k, hk, hkN⟩ : ∃ k : Nat, out[i] = (k : Int) ∧ k < N := by
   have := mem_rI.1 (hp.mem_iff.1 (List.getElem_mem hio))
   exact ⟨out[i].toNat, by omega, by omega⟩
  refine bo (getI_at hio) ?_
  rw [hk]
  have hns : ¬ (k : Int) ∈ out.take i := by
   rw [← hk]
   intro hm
   obtain ⟨j, hj, e⟩ := List.getElem_of_mem hm
   rw [List.length_take] at hj
   rw [List.getElem_take] at e
   have := (List.getElem_inj hnd).1 e
   omega
  have gc : getI costs (k : Int) = some (gz costs k) := by rw [getI_at (by omega), gz_at (by omega)]
  have gs := seenL_get (out := out) (N := N) (i := i) hkN
  rw [decide_eq_false hns] at gs
  refine bo (a := false) ?_ ?_
  ·rw [bif_decF (by omega), bif_decF (by omega)]
   refine bo gs ?_
   refine bf rfl ?_
   refine bo (bareL_get hkN) ?_
   refine bf (by unfold bareP; simp) ?_
   refine bo (bareL_get hkN) ?_
   refine bo gc ?_
   unfold bareP; simp
  refine bf rfl ?_
  refine bo gs ?_
  have es : (seenL out N i).set (k : Int).toNat true = seenL out N (i + 1) := seenL_set hio hk hkN
  rw [es]
  refine bo (a := (seenL out N (i + 1), false)) ?_ ?_
  ·rcases Nat.eq_zero_or_pos i with rfl | i0
   ·rw [bif_decF (by omega)]
   ·rw [bif_decT (by omega)]
    have ei : w64 ((i : Int) - 1) = ((i - 1 : Nat) : Int) := by rw [w64_id (by omega) (by omega)]; omega
    rw [ei]
    obtain ⟨j, hj, hjN⟩ : ∃ j : Nat, out[i - 1]'(by omega) = (j : Int) ∧ j < N := by
     have := mem_rI.1 (hp.mem_iff.1 (List.getElem_mem (by omega : i - 1 < out.length)))
     exact ⟨(out[i - 1]'(by omega)).toNat, by omega, by omega⟩
    have lt := List.pairwise_iff_getElem.1 hw (i - 1) i (by omega) hio (by omega)
    rw [hj, hk] at lt
    unfold CLt at lt
    rw [bareL_cost hjN, bareL_cost hkN] at lt
    have go : getI out ((i - 1 : Nat) : Int) = some (j : Int) := by rw [getI_at (by omega), hj]
    have gj : getI costs (j : Int) = some (gz costs j) := by rw [getI_at (by omega), gz_at (by omega)]
    refine bo go ?_
    refine bo gj ?_
    refine bo gc ?_
    rw [bif_decF (by omega)]
    refine bo go ?_
    refine bo gj ?_
    refine bo gc ?_
    by_cases e : gz costs j = gz costs k
    ·refine bt (by simpa using e) ?_
     refine bo go ?_
     rw [decide_eq_false (by omega)]
    ·exact bf (by simpa using e) rfl
  ·show (bif false then _ else _) = _
   rw [w64_succ (by omega)]; rfl
 ·show (bif _ then _ else _) = _
  rw [bif_decF (by omega)]
 ·unfold seenL
  rw [show ((N : Int)).toNat = N from rfl]
  refine congrArg (fun x => (x, (0 : Int))) ?_
  apply List.ext_getElem
  ·simp
  ·intro j h1 h2
   simp
theorem PlanBest_true (costs : List Int) : law21_PlanBest costs = some true := PlanBest_aw law21_awake_some costs
end Lv
