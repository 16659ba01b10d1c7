/- Arguments of plain data, read off memory, of sizes that are known. -/
import Derived.Test.YtihhhgaaagefgaaDoorGwRead
import Derived.SizedLaws
/- Arguments of plain data, read off memory, of sizes that are known. -/
namespace Lv
open Go
set_option linter.unusedVariables false
set_option linter.unusedSimpArgs false
set_option linter.unusedSectionVars false
structure GoodLaws {H : Type} (P : Program) (R : Nat) (good : TypeId → DataW H → Prop) : Prop where
 str : ∀ t (bs : List UInt8), good t (.lit (.string bs)) → bs.length ≤ R
 agg : ∀ t (ps : List (DataW H)), P.underlying t = some (.struct (P.fieldsOf t)) → good t (.agg ps) → ∀ (j : Nat) t' d, ((P.fieldsOf t).toList.map (·.type))[j]? = some t' → ps[j]? = some d → good t' d
 slice : ∀ t e (es r : List (DataW H)), P.underlying t = some (.slice e) → P.bytesOf e ≠ 0 → good t (.slice es r) → es.length ≤ R ∧ ∀ d ∈ es, good e d
theorem mem_all {H : Type} {P : Program} {e : TypeId} : ∀ {l : List (DataW H)} {d : DataW H}, d ∈ l → ∀ n ∈ d.weights P e, n ∈ DataW.weightsAll P e l
 | d0 :: l, d, hd, n, hn => by
  simp only [DataW.weightsAll, List.mem_append]
  rcases List.mem_cons.1 hd with rfl | hd
  ·exact .inl hn
  ·exact .inr (mem_all hd n hn)
theorem goodReach {H : Type} (P : Program) : GoodLaws (H := H) P reachBytes (fun t d => ∀ n ∈ d.weights P t, n ≤ reachBytes) where
 str t bs h := h bs.length (by simp [DataW.weights])
 agg t ps hu h j t' d ht hd n hn := h n (by
  simp only [DataW.weights, hu]
  exact DataW.weights_mem_each ht hd n hn)
 slice t e es r hu hb h := by
  have h1 := h ((es.length + r.length) * P.bytesOf e) (by simp [DataW.weights, hu])
  refine ⟨?_, fun d hd n hn => h n ?_⟩
  ·have : es.length ≤ (es.length + r.length) * P.bytesOf e := Nat.le_trans (Nat.le_add_right _ _) (Nat.le_mul_of_pos_right _ (Nat.pos_of_ne_zero hb))
   omega
  ·simp only [DataW.weights, hu, List.mem_cons, List.mem_append]
   exact .inr (.inl (mem_all hd n hn))
structure Sd {H : Type} (good : TypeId → DataW H → Prop) (enc : TypeId × Value → H) (P : Program) (w : World) (t : TypeId) {α : Type} (f : α → D) (sz : Nat) (ok : α → Prop) : Prop where
 get : ∀ {b : Nat} {sp : Nat → Bool} {held : Bool} {n : Nat} {cs : List Value} {x : DataW H × List MemPlace}, DataW.trod enc P w b sp held n t cs = some x → ∃ a : α, cs.length = sz ∧ (f a).okSz sz ∧ CellsOk w cs 0 (f a).cells ∧ (good t x.1 → ok a)
theorem cellsA {w : World} {x : D} {v : Value} (hx : x.cells = [x]) (h : DR (fun q => w.cell? q) x v) : CellsOk w [v] 0 x.cells := by
 intro j c hc
 rw [hx] at hc
 cases j with
 | zero => simp at hc; subst hc; exact ⟨v, rfl, h⟩
 | succ j => simp at hc
section
variable {H : Type} {R : Nat} {good : TypeId → DataW H → Prop} {enc : TypeId × Value → H} {P : Program} {w : World} {t : TypeId} (B : GoodLaws P R good)
include B
theorem sdI64 (hu : P.underlying t = some (.int .i64)) : Sd good enc P w t eI 1 (fun n => -9223372036854775808 ≤ n ∧ n < 9223372036854775808) where
 get h := by
  obtain ⟨n, rfl, rfl, hw⟩ := DataW.trod_int hu h
  refine ⟨n, rfl, ⟨rfl, fun c hc => by simp [D.cells] at hc; subst hc; rfl⟩, cellsA rfl (.int _ _), fun _ => ?_⟩
  simp only [Lit.wf, Bool.and_eq_true, decide_eq_true_eq] at hw
  have e1 : IntKind.i64.min = -9223372036854775808 := rfl
  have e2 : IntKind.i64.max = 9223372036854775807 := rfl
  rw [e1, e2] at hw
  omega
theorem sdU64 (hu : P.underlying t = some (.int .u64)) : Sd good enc P w t eU64 1 (fun _ => True) where
 get h := by
  obtain ⟨n, rfl, rfl, hw⟩ := DataW.trod_int hu h
  simp only [Lit.wf, Bool.and_eq_true, decide_eq_true_eq] at hw
  have e1 : IntKind.u64.min = 0 := rfl
  have e2 : IntKind.u64.max = 18446744073709551615 := rfl
  rw [e1, e2] at hw
  have hn : eU64 (UInt64.ofNat n.toNat) = .int .u64 n := by
   show D.int .u64 _ = _
   congr 1
   rw [UInt64.toNat_ofNat']
   omega
  refine ⟨UInt64.ofNat n.toNat, rfl, ⟨rfl, fun c hc => by simp [D.cells] at hc; subst hc; rfl⟩, ?_, fun _ => trivial⟩
  exact cellsA rfl (by rw [hn]; exact .int _ _)
theorem sdStr (hu : P.underlying t = some .string) : Sd good enc P w t eS 1 (fun s => s.length ≤ R) where
 get h := by
  obtain ⟨s, rfl, rfl, hs⟩ := DataW.trod_string hu h
  exact ⟨s.data.toList, rfl, ⟨rfl, fun c hc => by simp [D.cells] at hc; subst hc; rfl⟩, cellsA rfl (.str _), fun hg => B.str _ _ hg⟩
structure SdF {H : Type} (good : TypeId → DataW H → Prop) (enc : TypeId × Value → H) (P : Program) (w : World) (fs : List (TypeId × Nat)) (off : Nat) {α : Type} (g : α → List D) (sz : Nat) (ok : α → Prop) : Prop where
 get : ∀ {b : Nat} {sp : Nat → Bool} {held : Bool} {n : Nat} {cs : List Value} {xs : List (DataW H × List MemPlace)}, xs.length = fs.length → (∀ (i : Nat) t o, fs[i]? = some (t, o) → DataW.trod enc P w b sp held n t ((cs.drop o).take (P.cellsOf t)) = xs[i]?) →
  ∃ a : α, (g a).length = sz ∧ (∀ c ∈ g a, c.isAgg = false) ∧ CellsOk w cs off (g a) ∧ ((∀ (i : Nat) t o x, fs[i]? = some (t, o) → xs[i]? = some x → good t x.1) → ok a)
omit B in
theorem sdNil {off : Nat} : SdF good enc P w [] off (fun _ : Unit => []) 0 (fun _ => True) where
 get _ _ := ⟨(), rfl, fun c hc => by simp at hc, fun j c h => by simp at h, fun _ => trivial⟩
omit B in
theorem sdCons {off sz sz' : Nat} {fs : List (TypeId × Nat)} {α α' : Type} {f : α → D} {g : α' → List D} {ok : α → Prop} {ok' : α' → Prop} (hc : P.cellsOf t = sz) (Q : Sd good enc P w t f sz ok) (F : SdF good enc P w fs (off + sz) g sz' ok') :
  SdF good enc P w ((t, off) :: fs) off (fun p : α × α' => (f p.1).cells ++ g p.2) (sz + sz') (fun p => ok p.1 ∧ ok' p.2) where
 get hl h := by
  rename_i b sp held n cs xs
  cases xs with
  | nil => simp at hl
  | cons x xs =>
   have h0 := h 0 t off rfl
   obtain ⟨a, k1, k2, k3, k5⟩ := Q.get (x := x) h0
   obtain ⟨a', m1, m2, m3, m5⟩ := F.get (xs := xs) (by simpa using hl) (fun i t o hi => by have := h (i + 1) t o (by simpa using hi); simpa using this)
   refine ⟨(a, a'), by rw [List.length_append, m1, k2.1], fun c hc => ?_, ?_, fun hg => ⟨k5 (hg 0 t off x rfl rfl), m5 fun i t o y h1 h2 => hg (i + 1) t o y (by simpa using h1) (by simpa using h2)⟩⟩
   ·rcases List.mem_append.1 hc with hc | hc
    ·exact k2.2 c hc
    ·exact m2 c hc
   ·refine CellsOk.append (CellsOk.part (sz := P.cellsOf t) k3) ?_
    rw [k2.1]; exact m3
theorem sdStruct {fs : List (TypeId × Nat)} {α S : Type} {f : S → D} {g : α → List D} {sz : Nat} {ok : α → Prop} {ok' : S → Prop} (mk : α → S) (hu : P.underlying t = some (.struct (P.fieldsOf t))) (hc : P.cellsOf t = sz) (hf : (P.fieldsOf t).toList.map (fun x => (x.type, x.offset)) = fs)
  (F : SdF good enc P w fs 0 g sz ok) (hm : ∀ a, f (mk a) = .agg (g a)) (hok : ∀ a, ok a → ok' (mk a)) : Sd good enc P w t f sz ok' where
 get h := by
  obtain ⟨xs, n, rfl, rfl, hl, hlen, hel⟩ := DataW.trod_struct hu h
  obtain ⟨a, k1, k2, k3, k5⟩ := F.get (xs := xs) (by rw [hlen, ← hf]; simp) (fun i t' o hi => by
   rw [← hf, List.getElem?_map, Option.map_eq_some_iff] at hi
   obtain ⟨y, hy, he⟩ := hi
   injection he with h1 h2
   subst h1; subst h2
   exact hel i y (by simpa using hy))
  refine ⟨mk a, by rw [hl, hc], ?_, ?_, fun hg => hok a (k5 fun i t' o x h1 h2 => ?_)⟩
  ·rw [hm]; exact ⟨k1, k2⟩
  ·rw [hm]; exact k3
  ·refine B.agg t (xs.map (·.1)) hu hg i t' x.1 ?_ (by simp [h2])
   rw [← hf, List.getElem?_map, Option.map_eq_some_iff] at h1
   obtain ⟨y, hy, he⟩ := h1
   injection he with q1 q2
   subst q1
   rw [List.getElem?_map, hy]; rfl
theorem sdArg {α : Type} {f : α → D} {sz : Nat} {ok : α → Prop} (Q : Sd good enc P w t f sz ok) {b : Nat} {sp : Nat → Bool} {held : Bool} {v : Value} {d : DataW H} {p : List MemPlace} (h : DataW.Trod enc P w b sp held t v d p)
  (hv : (∀ a, (f a).isAgg = true ∧ ∃ cs, v = .agg cs) ∨ (∀ a, (f a).isAgg = false ∧ ∀ cs, v ≠ .agg cs)) (hg : good t d) : ∃ a : α, VR (fun q => w.cell? q) (fun _ => none) (.d (f a)) v ∧ ok a := by
 obtain ⟨n, hn⟩ := h
 obtain ⟨a, h1, h2, h3, h5⟩ := Q.get hn
 refine ⟨a, .d _ _ ?_, h5 hg⟩
 rcases hv with hv | hv
 ·obtain ⟨ha, cs, rfl⟩ := hv a
  cases hf : f a with
  | agg ds =>
   rw [hf] at h2 h3
   have hl : ds.length = sz := h2.1
   have hcs : cs.toList.length = sz := h1
   refine .agg ds cs (by rw [hl]; simpa using hcs) fun i x u hx hu => ?_
   obtain ⟨v, q1, q2⟩ := h3 i x hx
   have : cs.toList[i]? = some v := by rw [Nat.zero_add] at q1; exact q1
   have : v = u := by
    have h9 : cs[i]? = some v := by simpa using this
    rw [hu] at h9; exact (Option.some.inj h9).symm
   subst this
   exact q2
  | _ => rw [hf] at ha; simp [D.isAgg] at ha
 ·obtain ⟨ha, hna⟩ := hv a
  have hc : v.cells = #[v] := by
   cases v with
   | agg cs => exact absurd rfl (hna cs)
   | _ => rfl
  have hfc : (f a).cells = [f a] := by
   cases hf : f a with
   | agg ds => rw [hf] at ha; simp [D.isAgg] at ha
   | _ => rfl
  obtain ⟨u, q1, q2⟩ := h3 0 (f a) (by rw [hfc]; rfl)
  rw [hc] at q1
  simp at q1
  subst q1
  exact q2
end
end Lv
