/- Maps in printed walks. -/
import Derived.Test.YtmkgfooomdagmaaDoorGwS
/- Maps in printed walks. -/
namespace Lv
open Go
set_option linter.unusedVariables false
set_option linter.unusedSimpArgs false
set_option linter.unusedSectionVars false
def mget {κ β : Type} [BEq κ] : List (κ × β) → κ → Option β
 | [], _ => none
 | p :: m, k => bif k == p.1 then some p.2 else mget m k
def mset {κ β : Type} [BEq κ] : List (κ × β) → κ → β → List (κ × β)
 | [], k, v => [(k, v)]
 | p :: m, k, v => bif k == p.1 then (k, v) :: m else p :: mset m k v
abbrev eM {κ β : Type} (f : κ → D) (g : β → D) (p : κ × β) : D × D := (f p.1, g p.2)
theorem kq_i64 (a b : Int) : D.keq (eI a) (eI b) = some (a == b) := by simp [D.keq]
theorem kq_str (a b : List UInt8) : D.keq (eS a) (eS b) = some (a == b) := by
 simp only [D.keq]
 rw [beq_toListBytes]
 simp [ByteArray.toList_eq]
section
variable {κ β : Type} [BEq κ] {f : κ → D} {g : β → D} {m : List (κ × β)} {k : κ} {v : β}
theorem mfind_none (K : ∀ a b, D.keq (f a) (f b) = some (a == b)) : ∀ (m : List (κ × β)) (k : κ) (v : β) (i : Nat),
  (mget m k = none ∧ mfind (f k) (m.map (eM f g)) i = some none ∧ mset m k v = m ++ [(k, v)]) ∨
  (∃ j y, mget m k = some y ∧ mfind (f k) (m.map (eM f g)) i = some (some (i + j, g y)) ∧ mset m k v = m.set j (k, v))
 | [], k, v, i => .inl ⟨rfl, rfl, rfl⟩
 | p :: m, k, v, i => by
  simp only [mget, mset, List.map_cons, mfind, K]
  cases h : k == p.1 with
  | true => exact .inr ⟨0, p.2, rfl, rfl, rfl⟩
  | false =>
   simp only [cond_false]
   rcases mfind_none K m k v (i + 1) with ⟨h1, h2, h3⟩ | ⟨j, y, h1, h2, h3⟩
   ·exact .inl ⟨h1, h2, by rw [h3]; rfl⟩
   ·exact .inr ⟨j + 1, y, h1, by rw [h2]; congr 3; omega, by rw [h3]; rfl⟩
theorem mput_eq (K : ∀ a b, D.keq (f a) (f b) = some (a == b)) : mput (f k) (g v) (m.map (eM f g)) = some ((mset m k v).map (eM f g)) := by
 unfold mput
 rcases mfind_none (g := g) K m k v 0 with ⟨h1, h2, h3⟩ | ⟨j, y, h1, h2, h3⟩
 ·rw [h2, h3]; simp
 ·rw [h2, h3]; simp [List.map_set]
end
variable [BaseTab]
section
variable {P : Program} {n : Nat} {e : En} {σ σ' : List Ob} {t kt vt : TypeId} {td : TypeDesc} {x y z : Operand} {id : Nat}
variable {κ β : Type} [BEq κ] {f : κ → D} {g : β → D} {m : List (κ × β)} {k : κ} {v : β}
theorem mkm {i : Nat} (un : P.underlying t = some (.map kt vt)) (hσ : snq σ (.map (([] : List (κ × β)).map (eM f g))) i = some σ') : Yl P n e σ (.makeMap t none) (.mapr i) σ' := by
 obtain ⟨h1, h2⟩ := snq_eq hσ
 subst h2
 subst h1
 exact .of fun o ho call => by simp only [aop, ho, optOf, amakeMap, un, List.map_nil]
theorem alk (K : ∀ a b, D.keq (f a) (f b) = some (a == b)) (un : P.underlying t = some (.map kt vt)) (uk : P.underlying kt = some td) (hk : keyOf td (f k) = true) (zo : zeroOf P vt = some (g v)) (h : σ[id]? = some (.map (m.map (eM f g)))) (ok : Bool) :
  alookup P σ t (.mapr id) (.d (f k)) ok = some (if ok then .tuple [.d (g ((mget m k).getD v)), .d (.bool (mget m k).isSome)] else .d (g ((mget m k).getD v))) := by
 simp only [alookup, mapT, un, uk, h, zo, hk, if_true]
 rcases mfind_none (g := g) K m k v 0 with ⟨h1, h2, h3⟩ | ⟨j, w, h1, h2, h3⟩
 ·rw [h2, h1]; rfl
 ·rw [h2, h1]; rfl
theorem mlk (K : ∀ a b, D.keq (f a) (f b) = some (a == b)) (hx : lq n e x = some (.mapr id)) (hy : lq n e y = some (.d (f k))) (un : P.underlying t = some (.map kt vt)) (uk : P.underlying kt = some td) (hk : keyOf td (f k) = true) (zo : zeroOf P vt = some (g v)) (h : σ[id]? = some (.map (m.map (eM f g)))) :
  Yl P n e σ (.lookup t x y false) (.d (g ((mget m k).getD v))) σ :=
 .of fun o ho call => by simp only [aop, ho, lo_opd (lq_lo hx), lo_opd (lq_lo hy), alk K un uk hk zo h]; rfl
theorem mlo (K : ∀ a b, D.keq (f a) (f b) = some (a == b)) (hx : lq n e x = some (.mapr id)) (hy : lq n e y = some (.d (f k))) (un : P.underlying t = some (.map kt vt)) (uk : P.underlying kt = some td) (hk : keyOf td (f k) = true) (zo : zeroOf P vt = some (g v)) (h : σ[id]? = some (.map (m.map (eM f g)))) :
  Yl P n e σ (.lookup t x y true) (.tuple [.d (g ((mget m k).getD v)), .d (eB (mget m k).isSome)]) σ :=
 .of fun o ho call => by simp only [aop, ho, lo_opd (lq_lo hx), lo_opd (lq_lo hy), alk K un uk hk zo h]; rfl
theorem mpu (K : ∀ a b, D.keq (f a) (f b) = some (a == b)) (hx : lq n e x = some (.mapr id)) (hy : lq n e y = some (.d (f k))) (hz : lq n e z = some (.d (g v))) (hg : (g v).isAgg = false) (un : P.underlying t = some (.map kt vt)) (uk : P.underlying kt = some td) (hk : keyOf td (f k) = true)
  (h : σ[id]? = some (.map (m.map (eM f g)))) (hσ : setO σ id (.map ((mset m k v).map (eM f g))) = some σ') : Yl P n e σ (.mapUpdate t x y z) (.tuple []) σ' := by
 have h2 := setO_set hσ
 subst h2
 have ha : (AV.d (g v)).isAgg = false := by cases hq : g v <;> simp_all [D.isAgg, AV.isAgg]
 have hf : frzE σ (.d (g v)) = some (g v, σ) := by
  unfold frzE
  rw [ha]
  simp only [Bool.false_eq_true, if_false, frz, hg]
 exact .of fun o ho call => by simp only [aop, ho, lo_opd (lq_lo hx), lo_opd (lq_lo hy), lo_opd (lq_lo hz), amapUpdate, mapT, un, uk, hk, if_true, hf, h, mput_eq K]
end
end Lv
