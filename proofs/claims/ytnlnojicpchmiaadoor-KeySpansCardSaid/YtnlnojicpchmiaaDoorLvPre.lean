/- The plain law of spans: what begins with a text lies in its span, and nothing else. -/
import Derived.Test.YtnlnojicpchmiaaDoorLvKU2
import Derived.Laws.Strings
namespace Lv
open Go
set_option linter.unusedVariables false
set_option linter.unusedSimpArgs false

abbrev ltL := Op.bytesLess
def leL (a b : List UInt8) : Bool := Op.bytesLess a b || a == b

theorem ltL_irrefl : ∀ a : List UInt8, Op.bytesLess a a = false
  | [] => rfl
  | x :: a => by simp [Op.bytesLess, ltL_irrefl a]

/-- The least text behind all that begin so. -/
def afterL : List UInt8 → Option (List UInt8)
  | [] => none
  | x :: r => match afterL r with
    | some r' => some (x :: r')
    | none => if x = 255 then none else some [x + 1]

def inL (s k : List UInt8) : Bool := leL s k && (match afterL s with
  | some a => Op.bytesLess k a
  | none => true)

theorem u8_lt_succ {x y : UInt8} (h : x ≠ 255) : (y < x + 1) = (y ≤ x) := by
  have h1 : x.toNat ≠ 255 := fun e => h (UInt8.toNat_inj.1 e)
  have h2 : x.toNat < 256 := x.toNat_lt
  rw [UInt8.lt_iff_toNat_lt, UInt8.le_iff_toNat_le, UInt8.toNat_add]
  have : (x.toNat + UInt8.toNat 1) % 256 = x.toNat + 1 := by
    have : UInt8.toNat 1 = 1 := rfl
    omega
  simp only [Nat.reducePow, this]
  exact propext ⟨fun h => by omega, fun h => by omega⟩

theorem inL_prefix : ∀ s k : List UInt8, inL s k = s.isPrefixOf k
  | [], k => by cases k <;> rfl
  | x :: r, [] => by simp [inL, leL, Op.bytesLess]
  | x :: r, y :: k => by
    have ih := inL_prefix r k
    unfold inL leL at ih ⊢
    simp only [afterL, List.isPrefixOf]
    rw [← ih]
    have tri : (decide (x < y) = true ∧ (x == y) = false ∧ decide (y < x) = false ∧ (y == x) = false) ∨ (decide (x < y) = false ∧ (x == y) = true ∧ decide (y < x) = false ∧ (y == x) = true) ∨ (decide (x < y) = false ∧ (x == y) = false ∧ decide (y < x) = true ∧ (y == x) = false) := by
      simp only [decide_eq_true_eq, decide_eq_false_iff_not, beq_eq_false_iff_ne, beq_iff_eq, UInt8.lt_iff_toNat_lt, ne_eq, ← UInt8.toNat_inj]
      omega
    cases ha : afterL r with
    | some r' =>
      simp only [Op.bytesLess, List.cons_beq_cons]
      rcases tri with ⟨a, b, c, d⟩ | ⟨a, b, c, d⟩ | ⟨a, b, c, d⟩ <;> simp [a, b, c, d]
    | none =>
      by_cases h255 : x = 255
      · subst h255
        simp only [Op.bytesLess, List.cons_beq_cons, if_true]
        have : ¬ (255 : UInt8) < y := by
          rw [UInt8.lt_iff_toNat_lt]
          have : y.toNat < 256 := y.toNat_lt
          have e : UInt8.toNat 255 = 255 := rfl
          omega
        simp [this, Bool.and_or_distrib_left]
      · simp only [if_neg h255, Op.bytesLess, List.cons_beq_cons, Bool.and_false, Bool.or_false]
        have h1 : decide (y < x + 1) = decide (y ≤ x) := by simp only [u8_lt_succ h255]
        have h2 : decide (y ≤ x) = !decide (x < y) := by
          simp only [← decide_not, UInt8.lt_iff_toNat_lt, UInt8.le_iff_toNat_le, decide_eq_decide]
          omega
        rw [h1, h2]
        rcases tri with ⟨a, b, c, d⟩ | ⟨a, b, c, d⟩ | ⟨a, b, c, d⟩ <;> simp [a, b]

theorem afterL_less : ∀ {s a : List UInt8}, afterL s = some a → Op.bytesLess s a = true
  | [], a, h => by simp [afterL] at h
  | x :: r, a, h => by
    simp only [afterL] at h
    split at h
    · rename_i r' hr
      simp only [Option.some.injEq] at h
      subst h
      simp [Op.bytesLess, afterL_less hr]
    · split at h
      · cases h
      · rename_i hx
        simp only [Option.some.injEq] at h
        subst h
        have : x < x + 1 := by rw [u8_lt_succ hx, UInt8.le_iff_toNat_le]; exact Nat.le_refl _
        simp [Op.bytesLess, this]

theorem afterL_full : ∀ {q : List UInt8}, (∀ x, x ∈ q → x = 255) → afterL q = none
  | [], _ => rfl
  | x :: q, h => by
    have hq : afterL q = none := afterL_full fun y hy => h y (List.mem_cons_of_mem _ hy)
    have hx : x = 255 := h x (List.mem_cons_self ..)
    simp only [afterL, hq, hx, if_true]

theorem afterL_append : ∀ (p : List UInt8) {q : List UInt8}, (∀ x, x ∈ q → x = 255) → afterL (p ++ q) = afterL p
  | [], q, h => by rw [List.nil_append, afterL_full h]; rfl
  | x :: p, q, h => by simp only [List.cons_append, afterL, afterL_append p h]

theorem afterL_last : ∀ (p : List UInt8) {x : UInt8}, x ≠ 255 → afterL (p ++ [x]) = some (p ++ [x + 1])
  | [], x, h => by simp [afterL, h]
  | y :: p, x, h => by simp only [List.cons_append, afterL, afterL_last p h]

theorem trimN_spec (s : ByteArray) : ∀ n, n ≤ s.size → trimN s n ≤ n ∧ (∀ i, trimN s n ≤ i → i < n → s.data[i]? = some 255) ∧ (trimN s n = 0 ∨ ∃ m, trimN s n = m + 1 ∧ s.data[m]? ≠ some 255)
  | 0, _ => ⟨Nat.le_refl _, fun i _ h => by omega, .inl rfl⟩
  | n + 1, h => by
    simp only [trimN]
    split
    · rename_i h255
      obtain ⟨h1, h2, h3⟩ := trimN_spec s n (by omega)
      refine ⟨by omega, fun i k1 k2 => ?_, h3⟩
      by_cases e : i = n
      · rw [e]; exact h255
      · exact h2 i k1 (by omega)
    · rename_i h255
      exact ⟨Nat.le_refl _, fun i k1 k2 => by omega, .inr ⟨n, rfl, h255⟩⟩

theorem afterF_list (s : ByteArray) : afterF s = match afterL s.data.toList with
  | some a => (⟨a.toArray⟩, true)
  | none => (⟨#[]⟩, false) := by
  obtain ⟨h1, h2, h3⟩ := trimN_spec s s.size (Nat.le_refl _)
  have hsplit : s.data.toList = s.data.toList.take (trimN s s.size) ++ s.data.toList.drop (trimN s s.size) := (List.take_append_drop _ _).symm
  have hfull : ∀ x, x ∈ s.data.toList.drop (trimN s s.size) → x = 255 := by
    intro x hx
    obtain ⟨i, hi⟩ := List.mem_iff_getElem?.1 hx
    rw [List.getElem?_drop, Array.getElem?_toList] at hi
    have hlt : trimN s s.size + i < s.size := (Array.getElem?_eq_some_iff.1 hi).1
    have := h2 (trimN s s.size + i) (by omega) hlt
    rw [this] at hi
    simpa using hi.symm
  have e1 : afterL s.data.toList = afterL (s.data.toList.take (trimN s s.size)) := by
    conv => lhs; rw [hsplit]
    exact afterL_append _ hfull
  rw [e1]
  unfold afterF
  rcases h3 with h3 | ⟨m, h3, h4⟩
  · rw [h3]; rfl
  · rw [h3]
    have hm : m < s.data.toList.length := by
      have : m < s.size := by omega
      exact this
    have hx : s.data.toList[m]'hm ≠ 255 := by
      intro e
      apply h4
      rw [← Array.getElem?_toList, List.getElem?_eq_getElem hm, e]
    have hd : s.data.getD m 0 = s.data.toList[m]'hm := by
      rw [Array.getD_eq_getD_getElem?, ← Array.getElem?_toList, List.getElem?_eq_getElem hm]; rfl
    rw [List.take_succ_eq_append_getElem hm, afterL_last _ hx, ← hd]


theorem inF_under (s k : ByteArray) : inF s (afterF s).1 (!(afterF s).2) k = s.data.toList.isPrefixOf k.data.toList := by
  rw [← inL_prefix]
  unfold inF inL leL
  rw [afterF_list]
  cases afterL s.data.toList <;> simp [ByteArray.toList_eq]


theorem ltL_asymm : ∀ {a b : List UInt8}, Op.bytesLess a b = true → Op.bytesLess b a = false
  | _, [], h => by simp [Op.bytesLess] at h
  | [], _ :: _, _ => rfl
  | x :: a, y :: b, h => by
    simp only [Op.bytesLess, Bool.or_eq_true, Bool.and_eq_true, decide_eq_true_eq, beq_iff_eq, Bool.or_eq_false_iff, Bool.and_eq_false_iff, decide_eq_false_iff_not, beq_eq_false_iff_ne, ne_eq] at h ⊢
    rcases h with h | ⟨h, k⟩
    · refine ⟨fun q => ?_, .inl fun q => ?_⟩
      · rw [UInt8.lt_iff_toNat_lt] at h q; omega
      · subst q; rw [UInt8.lt_iff_toNat_lt] at h; omega
    · subst h
      exact ⟨fun q => by rw [UInt8.lt_iff_toNat_lt] at q; omega, .inr (ltL_asymm k)⟩

def inU (s k : ByteArray) : Bool := inF s (afterF s).1 (!(afterF s).2) k
def meetU (s t : ByteArray) : Bool := meetF s (afterF s).1 (!(afterF s).2) t (afterF t).1 (!(afterF t).2)

theorem inU_iff (s k : ByteArray) : inU s k = true ↔ s.data.toList <+: k.data.toList := by
  unfold inU
  rw [inF_under, List.isPrefixOf_iff_prefix]

theorem bytes_ext {s t : ByteArray} (h : s.data.toList = t.data.toList) : s = t := by
  cases s; cases t; congr 1; exact Array.toList_inj.1 h

theorem max_prefix {s t : ByteArray} (h : s.data.toList <+: t.data.toList) : maxB s t = t ∧ maxB t s = t := by
  have hi := (inU_iff s t).2 h
  unfold inU inF at hi
  rw [Bool.and_eq_true, Bool.or_eq_true, beq_iff_eq] at hi
  unfold maxB
  rcases hi.1 with hi | hi
  · rw [hi, ltL_asymm hi]; exact ⟨rfl, rfl⟩
  · have : s = t := bytes_ext (by rw [← ByteArray.toList_eq, ← ByteArray.toList_eq]; exact hi)
    subst this
    split <;> exact ⟨rfl, rfl⟩

theorem meetU_eq (s t : ByteArray) : meetU s t = (inU s (maxB s t) && inU t (maxB s t)) := rfl

theorem meetU_prefix {s t : ByteArray} (h : s.data.toList <+: t.data.toList) : meetU s t = true ∧ meetU t s = true := by
  obtain ⟨h1, h2⟩ := max_prefix h
  rw [meetU_eq, meetU_eq, h1, h2, (inU_iff s t).2 h, (inU_iff t t).2 (List.prefix_refl _)]
  exact ⟨rfl, rfl⟩

theorem append_list (s t : ByteArray) : (s ++ t).data.toList = s.data.toList ++ t.data.toList := by
  rw [ByteArray.data_append, Array.toList_append]

theorem prefix_append' (s t : ByteArray) : s.data.toList <+: (s ++ t).data.toList := by
  rw [append_list]; exact List.prefix_append _ _

theorem meetU_same {s t : ByteArray} (h : s.size = t.size) (hne : (s.toList == t.toList) = false) : meetU s t = false := by
  rw [meetU_eq]
  cases h1 : inU s (maxB s t) with
  | false => rfl
  | true =>
    cases h2 : inU t (maxB s t) with
    | false => rfl
    | true =>
      exfalso
      have p1 := (inU_iff _ _).1 h1
      have p2 := (inU_iff _ _).1 h2
      have hl : s.data.toList.length = t.data.toList.length := h
      have p3 := List.prefix_of_prefix_length_le p1 p2 (Nat.le_of_eq hl)
      have := p3.eq_of_length hl
      rw [ByteArray.toList_eq, ByteArray.toList_eq, this] at hne
      simp at hne

theorem meetU_both {s t k : ByteArray} (h1 : inU s k = true) (h2 : inU t k = true) : meetU s t = true := by
  have p1 := (inU_iff _ _).1 h1
  have p2 := (inU_iff _ _).1 h2
  rcases Nat.le_total s.data.toList.length t.data.toList.length with h | h
  · exact (meetU_prefix (List.prefix_of_prefix_length_le p1 p2 h)).1
  · exact (meetU_prefix (List.prefix_of_prefix_length_le p2 p1 h)).2

theorem after_facts {s : ByteArray} (h : (afterF s).2 = true) : Op.bytesLess s.toList (afterF s).1.toList = true ∧ inU s (afterF s).1 = false := by
  rw [afterF_list] at h
  cases ha : afterL s.data.toList with
  | none => rw [ha] at h; cases h
  | some a =>
    have e1 : (afterF s).1.data.toList = a := by rw [afterF_list, ha]
    have hl := afterL_less ha
    refine ⟨by rw [ByteArray.toList_eq, ByteArray.toList_eq, e1]; exact hl, ?_⟩
    unfold inU
    rw [inF_under, ← inL_prefix, e1]
    unfold inL
    rw [ha]
    simp [ltL_irrefl]

end Lv
