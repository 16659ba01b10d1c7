/- Arguments of plain data, read off memory. -/
import Derived.Test.YtddopjhkmkoicaaDoorGwMore
import Derived.ChangeArms
import Derived.WideShapes
import Derived.Below
namespace Lv
open Go
set_option linter.unusedVariables false
set_option linter.unusedSimpArgs false
set_option linter.unusedSectionVars false

section
variable [BaseTab]
theorem good_at (w : World) (hb : ∀ a v, BaseTab.tab a = some v → w.cell? a = some v) : Good (fun a => w.cell? a) (fun _ => none) w (hp []) where
  roOk a v h := h
  ob id := by simp [hp, OR]
  apart id id' L L' h := by simp [hp, Ob.wr] at h
  roApart b h := by
    obtain ⟨id, L, h1, _⟩ := h
    simp [hp, Ob.wr] at h1
  base a v h := hb a v h
theorem calls_of_callAt {P : Program} {f : FuncId} {args : List AV} {y : D} {v : Value} {cargs : Array Value} (h : CallAt P f args [] (.d y) []) (hy : y.val = some v) (w : World) (hb : ∀ a v, BaseTab.tab a = some v → w.cell? a = some v) (ha : VRs (fun a => w.cell? a) (fun _ => none) args cargs) :
    Calls P f cargs w (fun e w' => e = .returned v ∧ RowKit.Below w.heap.size w w') := by
  refine (h _ _ w cargs (good_at w hb) (fun id L h => by cases h) ha).mono ?_
  rintro e w' ⟨u, ro', μ', rfl, k1, k2, k3, k4, k5⟩
  refine ⟨by rw [VR_val k1 hy], ⟨k3.os, k3.tape, k3.output, k3.size, fun b hb => k3.frame b hb ?_⟩⟩
  rintro ⟨id, L, h1, _⟩
  simp [hp, Ob.wr] at h1
/-- A function told by a contract of the library's. -/
theorem CallAt.of_below {P : Program} {f : FuncId} {args : List AV} {vs : List Value} {y : D} {v : Value} (ha : valsOf args = some vs) (hy : ofVal v = some y) (h : ∀ w : World, (∀ a u, BaseTab.tab a = some u → w.cell? a = some u) → Calls P f vs.toArray w (fun e w' => e = .returned v ∧ RowKit.Below w.heap.size w w')) : CallAt P f args [] (.d y) [] := by
  intro ro μ w cargs g hdom hV
  have hargs : ∀ (args : List AV) (vs : List Value) (cargs : Array Value), valsOf args = some vs → VRs ro μ args cargs → cargs = vs.toArray := by
    intro args
    induction args with
    | nil =>
      intro vs cargs h k
      simp only [valsOf, Option.some.injEq] at h
      subst h
      exact Array.eq_empty_of_size_eq_zero (by simpa using k.size)
    | cons x l ih =>
      intro vs cargs h k
      simp only [valsOf] at h
      split at h
      · rename_i u us h1 h2
        simp only [Option.some.injEq] at h
        subst h
        obtain ⟨cs⟩ := cargs
        match cs, k.size with
        | c :: cs, hs =>
          have hc := VR_val (k.get 0 x c rfl rfl) h1
          have := ih us ⟨cs⟩ h2 ⟨by simpa using hs, fun i y z hy hz => k.get (i + 1) y z (by simpa using hy) (by simpa using hz)⟩
          have h5 : cs = us := congrArg Array.toList this
          rw [hc, h5]
      · cases h
  obtain rfl := hargs args vs cargs ha hV
  have rolt : ∀ a v, ro a = some v → a.block < w.heap.size := by
    intro a v h
    have := g.roOk a v h
    rcases Nat.lt_or_ge a.block w.heap.size with k | k
    · exact k
    · simp [World.cell?, Array.getElem?_eq_none k] at this
  refine (h w (fun a u hu => g.roOk a u (g.base a u hu))).mono ?_
  rintro e w' ⟨rfl, hb⟩
  refine ⟨v, ro, μ, rfl, VR_of hy, ⟨fun a v h => ?_, fun id => by simp [hp, OR], fun id id' L L' h => by simp [hp, Ob.wr] at h, fun b hb' => ?_, g.base⟩, ⟨fun _ _ h => h, fun _ _ h => .inl h, fun _ h => .inr h, fun _ h => .inr h, fun b hb' _ => hb.block b hb', hb.size, hb.os, hb.tape, hb.output⟩, hdom, fun _ _ => rfl⟩
  · rw [cell?_of_heap (hb.block _ (rolt a v h))]; exact g.roOk a v h
  · obtain ⟨id, L, h1, _⟩ := hb'
    simp [hp, Ob.wr] at h1
end

/-- What a count of values and letters keeps to. -/
structure BulkLaws {H : Type} (β : DataW H → Nat) : Prop where
  one : ∀ d, 1 ≤ β d
  str : ∀ bs : List UInt8, β (.lit (.string bs)) = bs.length + 1
  agg : ∀ ps : List (DataW H), (ps.map β).sum + 1 ≤ β (.agg ps)
  slice : ∀ es r : List (DataW H), (es.map β).sum + 1 ≤ β (.slice es r)

/-- Cells that read as data. -/
def CellsOk (w : World) (cs : List Value) (off : Nat) (ds : List D) : Prop := ∀ (j : Nat) (c : D), ds[j]? = some c → ∃ v, cs[off + j]? = some v ∧ DR (fun q => w.cell? q) c v
theorem CellsOk.append {w : World} {cs : List Value} {off : Nat} {ds es : List D} (h : CellsOk w cs off ds) (k : CellsOk w cs (off + ds.length) es) : CellsOk w cs off (ds ++ es) := by
  intro j c hc
  rw [List.getElem?_append] at hc
  split at hc
  · exact h j c hc
  · obtain ⟨v, h1, h2⟩ := k _ c hc
    exact ⟨v, by rw [← h1]; congr 1; omega, h2⟩
theorem CellsOk.part {w : World} {cs : List Value} {off sz : Nat} {ds : List D} (h : CellsOk w ((cs.drop off).take sz) 0 ds) : CellsOk w cs off ds := by
  intro j c hc
  obtain ⟨v, h1, h2⟩ := h j c hc
  rw [Nat.zero_add, List.getElem?_take] at h1
  split at h1
  · rw [List.getElem?_drop] at h1; exact ⟨v, h1, h2⟩
  · cases h1

/-- Values of a type read as plain data. -/
structure Rd {H : Type} (β : DataW H → Nat) (enc : TypeId × Value → H) (P : Program) (w : World) (t : TypeId) {α : Type} (f : α → D) (sz : Nat) (wt : α → Nat) (ok : α → Prop) : Prop where
  get : ∀ {b : Nat} {sp : Nat → Bool} {held : Bool} {n : Nat} {cs : List Value} {x : DataW H × List MemPlace}, DataW.trod enc P w b sp held n t cs = some x → ∃ a : α, cs.length = sz ∧ (f a).okSz sz ∧ CellsOk w cs 0 (f a).cells ∧ wt a ≤ β x.1 ∧ ok a

section
variable {H : Type} {β : DataW H → Nat} {enc : TypeId × Value → H} {P : Program} {w : World} {t : TypeId} (B : BulkLaws β)
include B

theorem cells1 {x : D} {v : Value} (hx : x.cells = [x]) (h : DR (fun q => w.cell? q) x v) : CellsOk w [v] 0 x.cells := by
  intro j c hc
  rw [hx] at hc
  cases j with
  | zero => simp at hc; subst hc; exact ⟨v, rfl, h⟩
  | succ j => simp at hc
theorem rdI64 (hu : P.underlying t = some (.int .i64)) : Rd β enc P w t eI 1 (fun _ => 1) (fun n => -9223372036854775808 ≤ n ∧ n < 9223372036854775808) where
  get h := by
    obtain ⟨n, rfl, rfl, hw⟩ := DataW.trod_int hu h
    refine ⟨n, rfl, ⟨rfl, fun c hc => by simp [D.cells] at hc; subst hc; rfl⟩, cells1 B rfl (.int _ _), B.one _, ?_⟩
    simp only [Lit.wf, Bool.and_eq_true, decide_eq_true_eq] at hw
    have e1 : IntKind.i64.min = -9223372036854775808 := rfl
    have e2 : IntKind.i64.max = 9223372036854775807 := rfl
    rw [e1, e2] at hw
    omega
theorem rdU64 (hu : P.underlying t = some (.int .u64)) : Rd β enc P w t eU64 1 (fun _ => 1) (fun _ => True) where
  get h := by
    obtain ⟨n, rfl, rfl, hw⟩ := DataW.trod_int hu h
    simp only [Lit.wf, Bool.and_eq_true, decide_eq_true_eq] at hw
    have e1 : IntKind.u64.min = 0 := rfl
    have e2 : IntKind.u64.max = 18446744073709551615 := rfl
    rw [e1, e2] at hw
    have hn : eU64 (UInt64.ofNat n.toNat) = .int .u64 n := by
      show D.int .u64 _ = _
      congr 1
      rw [UInt64.toNat_ofNat']
      omega
    refine ⟨UInt64.ofNat n.toNat, rfl, ⟨rfl, fun c hc => by simp [D.cells] at hc; subst hc; rfl⟩, ?_, B.one _, trivial⟩
    exact cells1 B rfl (by rw [hn]; exact .int _ _)
theorem rdU8 (hu : P.underlying t = some (.int .u8)) : Rd β enc P w t eU8 1 (fun _ => 1) (fun _ => True) where
  get h := by
    obtain ⟨n, rfl, rfl, hw⟩ := DataW.trod_int hu h
    simp only [Lit.wf, Bool.and_eq_true, decide_eq_true_eq] at hw
    have e1 : IntKind.u8.min = 0 := rfl
    have e2 : IntKind.u8.max = 255 := rfl
    rw [e1, e2] at hw
    have hn : eU8 (UInt8.ofNat n.toNat) = .int .u8 n := by
      show D.int .u8 _ = _
      congr 1
      rw [UInt8.toNat_ofNat']
      omega
    refine ⟨UInt8.ofNat n.toNat, rfl, ⟨rfl, fun c hc => by simp [D.cells] at hc; subst hc; rfl⟩, ?_, B.one _, trivial⟩
    exact cells1 B rfl (by rw [hn]; exact .int _ _)
theorem rdBool (hu : P.underlying t = some .bool) : Rd β enc P w t eB 1 (fun _ => 1) (fun _ => True) where
  get h := by
    obtain ⟨n, rfl, rfl⟩ := DataW.trod_bool hu h
    exact ⟨n, rfl, ⟨rfl, fun c hc => by simp [D.cells] at hc; subst hc; rfl⟩, cells1 B rfl (.bool _), B.one _, trivial⟩
theorem rdStr (hu : P.underlying t = some .string) : Rd β enc P w t eS 1 (fun s => s.length + 1) (fun _ => True) where
  get h := by
    obtain ⟨s, rfl, rfl, hs⟩ := DataW.trod_string hu h
    refine ⟨s.data.toList, rfl, ⟨rfl, fun c hc => by simp [D.cells] at hc; subst hc; rfl⟩, cells1 B rfl (.str _), ?_, trivial⟩
    show _ ≤ β (.lit (.string s.data.toList))
    rw [B.str]; exact Nat.le_refl _

theorem spot_none {a : Addr} {v : Value} (h : w.cell? a = some v) : a.spot = none := by
  unfold World.cell? at h
  split at h
  · split at h
    · cases h
    · rename_i hs; cases hsp : a.spot with
      | none => rfl
      | some x => rw [hsp] at hs; simp at hs
  · cases h
/-- A slice of what can be read. -/
theorem rdSlice {el : TypeId} {α : Type} {f : α → D} {sz : Nat} {wt : α → Nat} {ok : α → Prop} (hu : P.underlying t = some (.slice el)) (hc : P.cellsOf el = sz) (h0 : sz ≠ 0) (R : Rd β enc P w el f sz wt ok) : Rd β enc P w t (eL sz f) 1 (fun l => (l.map wt).sum + 1) (fun l => ∀ x ∈ l, ok x) where
  get h := by
    rcases DataW.trod_slice hu h with ⟨rfl, rfl⟩ | ⟨a, len, cap, elems, rest, n, _, rfl, rfl, hb, hl, hm, hlen, hel, _, _⟩
    · exact ⟨[], rfl, ⟨rfl, fun c hc => by simp [D.cells] at hc; subst hc; rfl⟩, cells1 B rfl (.nl sz), B.one _, fun x hx => by simp at hx⟩
    · have each : ∀ i, i < len → ∃ (y : α) (cs : List Value) (d : DataW H × List MemPlace), elems[i]? = some d ∧ (∀ j v, cs[j]? = some v → w.cell? (a.add (i * sz + j)) = some v) ∧ cs.length = sz ∧ (f y).okSz sz ∧ CellsOk w cs 0 (f y).cells ∧ wt y ≤ β d.1 ∧ ok y := by
        intro i hi
        have he := hel i hi
        obtain ⟨d, hd⟩ : ∃ d, elems[i]? = some d := ⟨_, List.getElem?_eq_getElem (by omega)⟩
        rw [hd, Option.bind_eq_some_iff] at he
        obtain ⟨cs, h1, h2⟩ := he
        obtain ⟨y, k1, k2, k3, k4, k5⟩ := R.get h2
        refine ⟨y, cs, d, hd, fun j v hv => ?_, k1, k2, k3, k4, k5⟩
        rw [hc] at h1
        obtain ⟨_, q1, q2⟩ := World.cells?_some h1
        have hj : j < sz := by rw [← k1]; exact ltGet hv
        have := q2 j hj
        rw [hv] at this
        have e : (a.add (i * sz)).add j = a.add (i * sz + j) := by
          simp only [Addr.add]
          by_cases hj0 : j = 0
          · subst hj0; simp
          · by_cases hi0 : i * sz = 0
            · simp [hi0, hj0]
            · simp [hi0, hj0]; omega
        rw [← e]; exact this
      -- the list
      have build : ∀ k, k ≤ len → ∃ l : List α, l.length = k ∧ ∀ i x, l[i]? = some x → i < len ∧ ∃ (cs : List Value) (d : DataW H × List MemPlace), elems[i]? = some d ∧ (∀ j v, cs[j]? = some v → w.cell? (a.add (i * sz + j)) = some v) ∧ cs.length = sz ∧ (f x).okSz sz ∧ CellsOk w cs 0 (f x).cells ∧ wt x ≤ β d.1 ∧ ok x := by
        intro k
        induction k with
        | zero => intro _; exact ⟨[], rfl, fun i x h => by simp at h⟩
        | succ k ih =>
          intro hk
          obtain ⟨l, h1, h2⟩ := ih (by omega)
          obtain ⟨y, rest⟩ := each k (by omega)
          refine ⟨l ++ [y], by simp [h1], fun i x hx => ?_⟩
          rw [List.getElem?_append] at hx
          split at hx
          · exact h2 i x hx
          · rename_i hi
            have hi2 : i = k := by
              have := ltGet hx
              simp at this
              omega
            subst hi2
            rw [h1, Nat.sub_self] at hx
            simp at hx
            subst hx
            exact ⟨by omega, rest⟩
      obtain ⟨l, hll, hl2⟩ := build len (Nat.le_refl _)
      refine ⟨l, rfl, ⟨rfl, fun c hc => by simp [D.cells] at hc; subst hc; rfl⟩, cells1 B rfl ?_, ?_, fun x hx => ?_⟩
      · have hd := DR.lst (ro := fun q => w.cell? q) sz (l.map f) a cap (fun k => (w.cell? (a.add k)).getD undef) (by simp; omega) (fun hne => ?_) (fun i x hx => ?_) (fun i x j c hx hj => ?_) (fun i x j c hx hj => ?_)
        · rw [List.length_map, hll] at hd; exact hd
        · have : l ≠ [] := by intro e; subst e; simp at hne
          have hpos : 0 < l.length := List.length_pos_iff.2 this
          obtain ⟨_, cs, d, _, k1, k2, k3, _⟩ := hl2 0 _ (List.getElem?_eq_getElem hpos)
          have hcs : 0 < cs.length := by omega
          have := k1 0 _ (List.getElem?_eq_getElem hcs)
          have e : a.add (0 * sz + 0) = a := by simp [Addr.add]
          rw [e] at this
          exact spot_none B this
        · simp only [List.getElem?_map, Option.map_eq_some_iff] at hx
          obtain ⟨y, hy, rfl⟩ := hx
          obtain ⟨_, cs, d, _, _, _, k3, _⟩ := hl2 i y hy
          exact k3
        all_goals
          simp only [List.getElem?_map, Option.map_eq_some_iff] at hx
          obtain ⟨y, hy, rfl⟩ := hx
          obtain ⟨_, cs, d, _, k1, k2, k3, k4, _⟩ := hl2 i y hy
          obtain ⟨v, q1, q2⟩ := k4 j c hj
          rw [Nat.zero_add] at q1
          have q3 := k1 j v q1
        · have hsp : a.spot = none := by
            have := spot_none B q3
            unfold Addr.add at this
            split at this
            · exact this
            · have hpos : 0 < l.length := by have := ltGet hy; omega
              obtain ⟨_, cs', d', _, k1', k2', _⟩ := hl2 0 _ (List.getElem?_eq_getElem hpos)
              have hcs : 0 < cs'.length := by omega
              have := k1' 0 _ (List.getElem?_eq_getElem hcs)
              have e : a.add (0 * sz + 0) = a := by simp [Addr.add]
              rw [e] at this
              exact spot_none B this
          have e : cellAt a.block (a.off + (i * sz + j)) = a.add (i * sz + j) := by
            unfold Addr.add cellAt
            split
            · rename_i h0'; rw [h0', Nat.add_zero]; obtain ⟨ab, ao, asp⟩ := a; simp only at hsp; subst hsp; rfl
            · obtain ⟨ab, ao, asp⟩ := a; rfl
          simp only [e, q3]; rfl
        · simp only [q3]; exact q2
      · have hsum : (l.map wt).sum ≤ (elems.map fun e => β e.1).sum := by
          have : ∀ (l : List α) (es : List (DataW H × List MemPlace)), l.length = es.length → (∀ (i : Nat) (x : α), l[i]? = some x → ∃ d : DataW H × List MemPlace, es[i]? = some d ∧ wt x ≤ β d.1) → (l.map wt).sum ≤ (es.map fun e => β e.1).sum := by
            intro l
            induction l with
            | nil => intro es h _; cases es <;> simp_all
            | cons x l ih =>
              intro es h hh
              cases es with
              | nil => simp at h
              | cons e es =>
                obtain ⟨d, h1, h2⟩ := hh 0 x rfl
                simp at h1
                subst h1
                have := ih es (by simpa using h) (fun i y hy => by have := hh (i + 1) y (by simpa using hy); simpa using this)
                simp only [List.map_cons, List.sum_cons]
                omega
          exact this l elems (by omega) (fun i x hx => by obtain ⟨_, cs, d, h1, _, _, _, _, h2, _⟩ := hl2 i x hx; exact ⟨d, h1, h2⟩)
        have := B.slice (elems.map (·.1)) (rest.map (·.1))
        rw [List.map_map] at this
        have e : (elems.map (β ∘ fun x => x.1)).sum = (elems.map fun e => β e.1).sum := rfl
        rw [e] at this
        show _ ≤ β (.slice (elems.map (·.1)) (rest.map (·.1)))
        omega
      · obtain ⟨i, hi⟩ := List.getElem?_of_mem hx
        obtain ⟨_, cs, d, _, _, _, _, _, _, h⟩ := hl2 i x hi
        exact h

/-- A struct's fields read as plain data. -/
structure RdF {H : Type} (β : DataW H → Nat) (enc : TypeId × Value → H) (P : Program) (w : World) (fs : List (TypeId × Nat)) (off : Nat) {α : Type} (g : α → List D) (sz : Nat) (wt : α → Nat) (ok : α → Prop) : Prop where
  get : ∀ {b : Nat} {sp : Nat → Bool} {held : Bool} {n : Nat} {cs : List Value} {xs : List (DataW H × List MemPlace)}, xs.length = fs.length → (∀ (i : Nat) t o, fs[i]? = some (t, o) → DataW.trod enc P w b sp held n t ((cs.drop o).take (P.cellsOf t)) = xs[i]?) →
    ∃ a : α, (g a).length = sz ∧ (∀ c ∈ g a, c.isAgg = false) ∧ CellsOk w cs off (g a) ∧ wt a ≤ (xs.map fun x => β x.1).sum ∧ ok a
omit B in
theorem rdNil {off : Nat} : RdF β enc P w [] off (fun _ : Unit => []) 0 (fun _ => 0) (fun _ => True) where
  get _ _ := ⟨(), rfl, fun c hc => by simp at hc, fun j c h => by simp at h, Nat.zero_le _, trivial⟩
omit B in
theorem rdCons {off sz sz' : Nat} {fs : List (TypeId × Nat)} {α α' : Type} {f : α → D} {g : α' → List D} {wt : α → Nat} {wt' : α' → Nat} {ok : α → Prop} {ok' : α' → Prop} (hc : P.cellsOf t = sz) (R : Rd β enc P w t f sz wt ok) (F : RdF β enc P w fs (off + sz) g sz' wt' ok') :
    RdF β enc P w ((t, off) :: fs) off (fun p : α × α' => (f p.1).cells ++ g p.2) (sz + sz') (fun p => wt p.1 + wt' p.2) (fun p => ok p.1 ∧ ok' p.2) where
  get hl h := by
    rename_i b sp held n cs xs
    cases xs with
    | nil => simp at hl
    | cons x xs =>
      have h0 := h 0 t off rfl
      obtain ⟨a, k1, k2, k3, k4, k5⟩ := R.get (x := x) h0
      obtain ⟨a', m1, m2, m3, m4, m5⟩ := F.get (xs := xs) (by simpa using hl) (fun i t o hi => by have := h (i + 1) t o (by simpa using hi); simpa using this)
      refine ⟨(a, a'), by rw [List.length_append, m1, k2.1], fun c hc => ?_, ?_, ?_, k5, m5⟩
      · rcases List.mem_append.1 hc with hc | hc
        · exact k2.2 c hc
        · exact m2 c hc
      · refine CellsOk.append (CellsOk.part (sz := P.cellsOf t) k3) ?_
        rw [k2.1]; exact m3
      · simp only [List.map_cons, List.sum_cons]; omega
theorem rdStruct {fs : List (TypeId × Nat)} {α S : Type} {f : S → D} {g : α → List D} {sz : Nat} {wt : α → Nat} {ok : α → Prop} {wt' : S → Nat} {ok' : S → Prop} (mk : α → S) (hu : P.underlying t = some (.struct (P.fieldsOf t))) (hc : P.cellsOf t = sz) (hf : (P.fieldsOf t).toList.map (fun x => (x.type, x.offset)) = fs)
    (F : RdF β enc P w fs 0 g sz wt ok) (hm : ∀ a, f (mk a) = .agg (g a)) (hw : ∀ a, wt' (mk a) ≤ wt a + 1) (hok : ∀ a, ok a → ok' (mk a)) : Rd β enc P w t f sz wt' ok' where
  get h := by
    obtain ⟨xs, n, rfl, rfl, hl, hlen, hel⟩ := DataW.trod_struct hu h
    obtain ⟨a, k1, k2, k3, k4, k5⟩ := F.get (xs := xs) (by rw [hlen, ← hf]; simp) (fun i t' o hi => by
      rw [← hf, List.getElem?_map, Option.map_eq_some_iff] at hi
      obtain ⟨y, hy, he⟩ := hi
      injection he with h1 h2
      subst h1; subst h2
      exact hel i y (by simpa using hy))
    refine ⟨mk a, by rw [hl, hc], ?_, ?_, ?_, hok a k5⟩
    · rw [hm]; exact ⟨k1, k2⟩
    · rw [hm]; exact k3
    · have h1 := B.agg (xs.map (·.1))
      rw [List.map_map] at h1
      have e : (xs.map (β ∘ fun x => x.1)).sum = (xs.map fun x => β x.1).sum := rfl
      rw [e] at h1
      have h2 := hw a
      show _ ≤ β (.agg (xs.map (·.1)))
      omega

/-- An argument. -/
theorem rdArg {α : Type} {f : α → D} {sz : Nat} {wt : α → Nat} {ok : α → Prop} (R : Rd β enc P w t f sz wt ok) {b : Nat} {sp : Nat → Bool} {held : Bool} {v : Value} {d : DataW H} {p : List MemPlace} (h : DataW.Trod enc P w b sp held t v d p)
    (hv : (∀ a, (f a).isAgg = true ∧ ∃ cs, v = .agg cs) ∨ (∀ a, (f a).isAgg = false ∧ ∀ cs, v ≠ .agg cs)) : ∃ a : α, VR (fun q => w.cell? q) (fun _ => none) (.d (f a)) v ∧ wt a ≤ β d ∧ ok a := by
  obtain ⟨n, hn⟩ := h
  obtain ⟨a, h1, h2, h3, h4, h5⟩ := R.get hn
  refine ⟨a, .d _ _ ?_, h4, h5⟩
  rcases hv with hv | hv
  · obtain ⟨ha, cs, rfl⟩ := hv a
    cases hf : f a with
    | agg ds =>
      rw [hf] at h2 h3
      have hl : ds.length = sz := h2.1
      have hcs : cs.toList.length = sz := h1
      refine .agg ds cs (by rw [hl]; simpa using hcs) fun i x u hx hu => ?_
      obtain ⟨v, q1, q2⟩ := h3 i x hx
      have : cs.toList[i]? = some v := by rw [Nat.zero_add] at q1; exact q1
      have : v = u := by
        have h9 : cs[i]? = some v := by simpa using this
        rw [hu] at h9; exact (Option.some.inj h9).symm
      subst this
      exact q2
    | _ => rw [hf] at ha; simp [D.isAgg] at ha
  · obtain ⟨ha, hna⟩ := hv a
    have hc : v.cells = #[v] := by
      cases v with
      | agg cs => exact absurd rfl (hna cs)
      | _ => rfl
    have hfc : (f a).cells = [f a] := by
      cases hf : f a with
      | agg ds => rw [hf] at ha; simp [D.isAgg] at ha
      | _ => rfl
    obtain ⟨u, q1, q2⟩ := h3 0 (f a) (by rw [hfc]; rfl)
    rw [hc] at q1
    simp at q1
    subst q1
    exact q2
omit B in
theorem vrs_cons {ro : Ro} {μ : Mu} {x : AV} {xs : List AV} {v : Value} {vs : List Value} (h : VR ro μ x v) (k : VRs ro μ xs vs.toArray) : VRs ro μ (x :: xs) (v :: vs).toArray := by
  refine ⟨by have := k.size; simp at this ⊢; omega, fun i y u hy hu => ?_⟩
  cases i with
  | zero => simp at hy hu; subst hy; subst hu; exact h
  | succ i => exact k.get i y u (by simpa using hy) (by simpa using hu)
end
theorem vrs_nil {ro : Ro} {μ : Mu} : VRs ro μ [] #[] := ⟨rfl, fun i x v h => by simp at h⟩
end Lv
