/- Part of the proof of a law: functions of the library, and hex and quote, by their contracts. -/
import Derived.Test.YtihhhgaaagefgaaDoorXFacts
import Derived.Test.YtihhhgaaagefgaaDoorGwRead
import Derived.Test.YtihhhgaaagefgaaDoorShelf
import Derived.Test.YtihhhgaaagefgaaDoorHx06
import Derived.Test.YtihhhgaaagefgaaDoorNd06
namespace Lv
open Go Go.Proofs
set_option linter.unusedVariables false
set_option linter.unusedSimpArgs false
set_option linter.unusedSectionVars false
set_option maxRecDepth 100000
class TabOk [BaseTab] : Prop where
 tabs : ∀ w : World, (∀ a v, BaseTab.tab a = some v → w.cell? a = some v) → Go.Lib.Utf8Tabs (Tryd.laysValid_ren.g 3) (Tryd.laysValid_ren.g 4) w
 pow : ∀ w : World, (∀ a v, BaseTab.tab a = some v → w.cell? a = some v) → Go.Proofs.Pow10 w
 errS : ∃ tp p, BaseTab.tab ⟨4, 0, none⟩ = some (.iface tp p)
 errR : ∃ tp p, BaseTab.tab ⟨5, 0, none⟩ = some (.iface tp p)
variable [BaseTab] [TabOk]
omit [TabOk] in
theorem vals_args {ro : Ro} {μ : Mu} : ∀ (args : List AV) (vs : List Value) (cargs : Array Value), valsOf args = some vs → VRs ro μ args cargs → cargs = vs.toArray := by
 intro args
 induction args with
 | nil =>
  intro vs cargs h k
  simp only [valsOf, Option.some.injEq] at h
  subst h
  exact Array.eq_empty_of_size_eq_zero (by simpa using k.size)
 | cons x l ih =>
  intro vs cargs h k
  simp only [valsOf] at h
  split at h
  ·rename_i u us h1 h2
   simp only [Option.some.injEq] at h
   subst h
   obtain ⟨cs⟩ := cargs
   match cs, k.size with
   | c :: cs, hs =>
    have hc := VR_val (k.get 0 x c rfl rfl) h1
    have := ih us ⟨cs⟩ h2 ⟨by simpa using hs, fun i y z hy hz => k.get (i + 1) y z (by simpa using hy) (by simpa using hz)⟩
    have h5 : cs = us := congrArg Array.toList this
    rw [hc, h5]
  ·cases h
omit [TabOk] in
theorem CallAt.of_belowV {P : Program} {f : FuncId} {args : List AV} {vs : List Value} {r : AV} {v : Value} (ha : valsOf args = some vs) (hy : ∀ (ro : Ro) (μ : Mu), VR ro μ r v) (h : ∀ w : World, (∀ a u, BaseTab.tab a = some u → w.cell? a = some u) → Calls P f vs.toArray w (fun e w' => e = .returned v ∧ RowKit.Below w.heap.size w w')) : CallAt P f args [] r [] := by
 intro ro μ w cargs g hdom hV
 have hargs : ∀ (args : List AV) (vs : List Value) (cargs : Array Value), valsOf args = some vs → VRs ro μ args cargs → cargs = vs.toArray := by
  intro args
  induction args with
  | nil =>
   intro vs cargs h k
   simp only [valsOf, Option.some.injEq] at h
   subst h
   exact Array.eq_empty_of_size_eq_zero (by simpa using k.size)
  | cons x l ih =>
   intro vs cargs h k
   simp only [valsOf] at h
   split at h
   ·rename_i u us h1 h2
    simp only [Option.some.injEq] at h
    subst h
    obtain ⟨cs⟩ := cargs
    match cs, k.size with
    | c :: cs, hs =>
     have hc := VR_val (k.get 0 x c rfl rfl) h1
     have := ih us ⟨cs⟩ h2 ⟨by simpa using hs, fun i y z hy hz => k.get (i + 1) y z (by simpa using hy) (by simpa using hz)⟩
     have h5 : cs = us := congrArg Array.toList this
     rw [hc, h5]
   ·cases h
 obtain rfl := hargs args vs cargs ha hV
 have rolt : ∀ a v, ro a = some v → a.block < w.heap.size := by
  intro a v h
  have := g.roOk a v h
  rcases Nat.lt_or_ge a.block w.heap.size with k | k
  ·exact k
  ·simp [World.cell?, Array.getElem?_eq_none k] at this
 refine (h w (fun a u hu => g.roOk a u (g.base a u hu))).mono ?_
 rintro e w' ⟨rfl, hb⟩
 refine ⟨v, ro, μ, rfl, hy _ _, ⟨fun a v h => ?_, fun id => by simp [hp, OR], fun id id' L L' h => by simp [hp, Ob.wr] at h, fun b hb' => ?_, g.base⟩, ⟨fun _ _ h => h, fun _ _ h => .inl h, fun _ h => .inr h, fun _ h => .inr h, fun b hb' _ => hb.block b hb', hb.size, hb.os, hb.tape, hb.output⟩, hdom, fun _ _ => rfl⟩
 ·rw [cell?_of_heap (hb.block _ (rolt a v h))]; exact g.roOk a v h
 ·obtain ⟨id, L, h1, _⟩ := hb'
  simp [hp, Ob.wr] at h1
def validF (s : List UInt8) : Option Bool := if s.length ≤ 9223372036854775807 then some (Go.Lib.validD s) else none
theorem valid_ok (s : List UInt8) (r : Bool) (h0 : validF s = some r) : CallAt Tryd.prog 31 [.d (eS s)] [] (.d (eB r)) [] := by
 unfold validF at h0
 split at h0
 ·rename_i hs
  have := Option.some.inj h0
  subst this
  refine CallAt.of_below (v := .bool (Go.Lib.validD s)) (vs := [.string ⟨s.toArray⟩]) rfl rfl fun w hw => ?_
  exact Any.utf8_ValidString Tryd.laysValid ⟨s.toArray⟩ w (by rw [ba_size]; exact hs) (TabOk.tabs w hw)
 ·cases h0
theorem stays {P : Program} {f : FuncId} {a : Array Value} {v : Value} {w : World} (h : Calls P f a w fun e w' => e = .returned v ∧ w' = w) : Calls P f a w fun e w' => e = .returned v ∧ RowKit.Below w.heap.size w w' :=
 h.mono fun e w' ⟨h1, h2⟩ => ⟨h1, by rw [h2]; exact RowKit.Below.refl _ _⟩
theorem grows {P : Program} {f : FuncId} {a : Array Value} {v : Value} {w : World} (h : Calls P f a w fun e w' => e = .returned v ∧ ∃ k os, w' = Go.Sort.grow (w.drewN k) os) : Calls P f a w fun e w' => e = .returned v ∧ RowKit.Below w.heap.size w w' :=
 h.mono fun e w' ⟨h1, k, os, h2⟩ => ⟨h1, by rw [h2]; exact Go.Lib.below_grow _ w (Nat.le_refl _) k os⟩
def hexF (s : List UInt8) : Option (List UInt8) := if s.length ≤ 1048576 then some (hexL s) else none
theorem hex_ok (s : List UInt8) (r : List UInt8) (h0 : hexF s = some r) : CallAt Tryd.prog 26 [.d (eS s)] [] (.d (eS r)) [] := by
 unfold hexF at h0
 split at h0
 ·rename_i hs
  have := Option.some.inj h0
  subst this
  exact CallAt.of_below (v := .string ⟨(hexL s).toArray⟩) (vs := [.string ⟨s.toArray⟩]) rfl rfl fun w hw => Tryd.hex_walk ⟨s.toArray⟩ w (by rw [ba_size]; exact hs)
 ·cases h0
def quoteF (s : List UInt8) : Option (List UInt8) := if s.length ≤ 1048576 then some (quoteL s) else none
theorem quote_ok (s : List UInt8) (r : List UInt8) (h0 : quoteF s = some r) : CallAt Tryd.prog 27 [.d (eS s)] [] (.d (eS r)) [] := by
 unfold quoteF at h0
 split at h0
 ·rename_i hs
  have := Option.some.inj h0
  subst this
  exact CallAt.of_below (v := .string ⟨(quoteL s).toArray⟩) (vs := [.string ⟨s.toArray⟩]) rfl rfl fun w hw => Tryd.quote_walk ⟨s.toArray⟩ w (by rw [ba_size]; exact hs)
 ·cases h0
def fmtI (n b : Int) : Option (List UInt8) := if b = 10 ∧ -9223372036854775808 ≤ n ∧ n ≤ 9223372036854775807 then some (Go.Lib.itoa n) else none
theorem fmtI_ok (n b : Int) (r : List UInt8) (h0 : fmtI n b = some r) : CallAt Tryd.prog 23 [.d (eI n), .d (eI b)] [] (.d (eS r)) [] := by
 unfold fmtI at h0
 split at h0
 ·rename_i hs
  obtain ⟨rfl, h1, h2⟩ := hs
  have := Option.some.inj h0
  subst this
  exact CallAt.of_below (v := .string ⟨(Go.Lib.itoa n).toArray⟩) (vs := [.int .i64 n, .int .i64 10]) rfl rfl fun w hw => grows (Tryd.FormatInt_at n h1 h2 w (TabOk.pow w hw))
 ·cases h0
def fmtU (n : UInt64) (b : Int) : Option (List UInt8) := if b = 10 then some (Go.Lib.decDigits n.toNat) else none
theorem fmtU_ok (n : UInt64) (b : Int) (r : List UInt8) (h0 : fmtU n b = some r) : CallAt Tryd.prog 24 [.d (eU64 n), .d (eI b)] [] (.d (eS r)) [] := by
 unfold fmtU at h0
 split at h0
 ·rename_i hs
  subst hs
  have := Option.some.inj h0
  subst this
  exact CallAt.of_below (v := .string ⟨(Go.Lib.decDigits n.toNat).toArray⟩) (vs := [.int .u64 n.toNat, .int .i64 10]) rfl rfl fun w hw => grows (Tryd.FormatUint_at n.toNat n.toNat_lt w (TabOk.pow w hw))
 ·cases h0
def cmpF (a b : List UInt8) : Option Int := some (Go.Lib.compareBytes a b)
theorem cmp_ok (a b : List UInt8) (r : Int) (h0 : cmpF a b = some r) : CallAt Tryd.prog 36 [.d (eS a), .d (eS b)] [] (.d (eI r)) [] := by
 have := Option.some.inj h0
 subst this
 exact CallAt.of_below (v := .int .i64 (Go.Lib.compareBytes a b)) (vs := [.string ⟨a.toArray⟩, .string ⟨b.toArray⟩]) rfl rfl fun w hw => stays (Tryd.strings_Compare ⟨a.toArray⟩ ⟨b.toArray⟩ w)
def idxF (s : List UInt8) (c : UInt8) : Option Int := some (Go.Lib.indexByte s c)
theorem idx_ok (s : List UInt8) (c : UInt8) (r : Int) (h0 : idxF s c = some r) : CallAt Tryd.prog 64 [.d (eS s), .d (eU8 c)] [] (.d (eI r)) [] := by
 have := Option.some.inj h0
 subst this
 have e : ((c.toNat : Int).toNat).toUInt8 = c := by simp
 exact CallAt.of_below (v := .int .i64 (Go.Lib.indexByte s c)) (vs := [.string ⟨s.toArray⟩, .int .u8 c.toNat]) rfl rfl fun w hw => stays (by
  have h := Tryd.strings_IndexByte ⟨s.toArray⟩ (c.toNat : Int) w
  rw [e] at h
  exact h)
def preF (s p : List UInt8) : Option Bool := some (Go.Lib.hasPrefix s p)
theorem pre_ok (s p : List UInt8) (r : Bool) (h0 : preF s p = some r) : CallAt Tryd.prog 45 [.d (eS s), .d (eS p)] [] (.d (eB r)) [] := by
 have := Option.some.inj h0
 subst this
 exact CallAt.of_below (v := .bool (Go.Lib.hasPrefix s p)) (vs := [.string ⟨s.toArray⟩, .string ⟨p.toArray⟩]) rfl rfl fun w hw => stays (Tryd.strings_HasPrefix ⟨s.toArray⟩ ⟨p.toArray⟩ w)
def sufF (s p : List UInt8) : Option Bool := if s.length ≤ 9223372036854775807 then some (Go.Lib.hasSuffix s p) else none
theorem suf_ok (s p : List UInt8) (r : Bool) (h0 : sufF s p = some r) : CallAt Tryd.prog 48 [.d (eS s), .d (eS p)] [] (.d (eB r)) [] := by
 unfold sufF at h0
 split at h0
 ·rename_i hs
  have := Option.some.inj h0
  subst this
  exact CallAt.of_below (v := .bool (Go.Lib.hasSuffix s p)) (vs := [.string ⟨s.toArray⟩, .string ⟨p.toArray⟩]) rfl rfl fun w hw => stays (Tryd.strings_HasSuffix ⟨s.toArray⟩ ⟨p.toArray⟩ w (by rw [ba_size]; exact hs))
 ·cases h0
def trimF (s p : List UInt8) : Option (List UInt8) := if s.length ≤ 9223372036854775807 then some (Go.Lib.trimSuffix s p) else none
theorem trim_ok (s p : List UInt8) (r : List UInt8) (h0 : trimF s p = some r) : CallAt Tryd.prog 50 [.d (eS s), .d (eS p)] [] (.d (eS r)) [] := by
 unfold trimF at h0
 split at h0
 ·rename_i hs
  have := Option.some.inj h0
  subst this
  exact CallAt.of_below (v := .string ⟨(Go.Lib.trimSuffix s p).toArray⟩) (vs := [.string ⟨s.toArray⟩, .string ⟨p.toArray⟩]) rfl rfl fun w hw => stays (Tryd.strings_TrimSuffix ⟨s.toArray⟩ ⟨p.toArray⟩ w (by rw [ba_size]; exact hs))
 ·cases h0
omit [TabOk] in
theorem CallAt.of_belowX {P : Program} {f : FuncId} {args : List AV} {vs : List Value} {r : AV} (ha : valsOf args = some vs) (h : ∀ w : World, (∀ a u, BaseTab.tab a = some u → w.cell? a = some u) → Calls P f vs.toArray w (fun e w' => ∃ v, e = .returned v ∧ (∀ (ro : Ro) (μ : Mu), VR ro μ r v) ∧ RowKit.Below w.heap.size w w')) : CallAt P f args [] r [] := by
 intro ro μ w cargs g hdom hV
 have hargs := vals_args args vs cargs ha hV
 obtain rfl := hargs
 have rolt : ∀ a v, ro a = some v → a.block < w.heap.size := by
  intro a v h
  have := g.roOk a v h
  rcases Nat.lt_or_ge a.block w.heap.size with k | k
  ·exact k
  ·simp [World.cell?, Array.getElem?_eq_none k] at this
 refine (h w (fun a u hu => g.roOk a u (g.base a u hu))).mono ?_
 rintro e w' ⟨v, rfl, hy, hb⟩
 refine ⟨v, ro, μ, rfl, hy _ _, ⟨fun a v h => ?_, fun id => by simp [hp, OR], fun id id' L L' h => by simp [hp, Ob.wr] at h, fun b hb' => ?_, g.base⟩, ⟨fun _ _ h => h, fun _ _ h => .inl h, fun _ h => .inr h, fun _ h => .inr h, fun b hb' _ => hb.block b hb', hb.size, hb.os, hb.tape, hb.output⟩, hdom, fun _ _ => rfl⟩
 ·rw [cell?_of_heap (hb.block _ (rolt a v h))]; exact g.roOk a v h
 ·obtain ⟨id, L, h1, _⟩ := hb'
  simp [hp, Ob.wr] at h1
omit [TabOk] in
theorem vr_two {ro : Ro} {μ : Mu} {x y : AV} {u v : Value} (h1 : VR ro μ x u) (h2 : VR ro μ y v) : VR ro μ (.tuple [x, y]) (.tuple #[u, v]) := by
 refine .tuple _ _ rfl fun i z q hz hq => ?_
 match i with
 | 0 => simp at hz hq; subst hz hq; exact h1
 | 1 => simp at hz hq; subst hz hq; exact h2
 | i + 2 => simp at hz
omit [BaseTab] [TabOk] in
theorem ne_cases {α : Type} (x : Go.Lib.NumEnd α) : (∃ v, x = .ok v) ∨ x = .range ∨ x = Go.Lib.NumEnd.syntax := by cases x <;> simp
def parU (s : List UInt8) (b z : Int) : Option (UInt64 ⊕ UInt64) := if b = 10 ∧ z = 64 ∧ s.length ≤ 281474976710656 then (match Go.Lib.parseUintB 64 s with
 | .ok n => if n < 18446744073709551616 then some (.inl (UInt64.ofNat n)) else none
 | .range => some (.inr 18446744073709551615)
 | _ => some (.inr 0)) else none
theorem parU_ok_a (s : List UInt8) (b z : Int) (r : UInt64) (h0 : parU s b z = some (.inl r)) : CallAt Tryd.prog 49 [.d (eS s), .d (eI b), .d (eI z)] [] (.tuple [.d (eU64 r), .d .nili]) [] := by
 unfold parU at h0
 split at h0
 ·rename_i hs
  obtain ⟨rfl, rfl, hl⟩ := hs
  split at h0
  ·rename_i n hn
   split at h0
   ·rename_i hn2
    have := Sum.inl.inj (Option.some.inj h0)
    subst this
    have e : ((UInt64.ofNat n).toNat : Int) = n := by rw [UInt64.toNat_ofNat', Nat.mod_eq_of_lt hn2]
    refine CallAt.of_belowX (vs := [.string ⟨s.toArray⟩, .int .i64 10, .int .i64 64]) rfl fun w hw => (Tryd.strconv_ParseUint_10_at64_ok ⟨s.toArray⟩ (by rw [ba_size]; omega) n hn w).mono ?_
    rintro ex w' ⟨rfl, hb⟩
    refine ⟨_, rfl, fun ro μ => vr_two (.d _ _ ?_) (.d _ _ .nili), ?_⟩
    ·rw [← e]; exact .int _ _
    ·rcases hb with rfl | rfl
     ·exact RowKit.Below.refl _ _
     ·exact Lib.bytesWorld_below _ _ _
   ·cases h0
  ·cases h0
  ·cases h0
 ·cases h0
theorem parU_ok_b (s : List UInt8) (b z : Int) (r : UInt64) (h0 : parU s b z = some (.inr r)) : CallAt Tryd.prog 49 [.d (eS s), .d (eI b), .d (eI z)] [] (.tuple [.d (eU64 r), .iface 103 .undef]) [] := by
 unfold parU at h0
 split at h0
 ·rename_i hs
  obtain ⟨rfl, rfl, hl⟩ := hs
  split at h0
  ·split at h0 <;> cases h0
  ·rename_i hn
   have := Sum.inr.inj (Option.some.inj h0)
   subst this
   obtain ⟨tp, p, hv⟩ := TabOk.errR
   refine CallAt.of_belowX (vs := [.string ⟨s.toArray⟩, .int .i64 10, .int .i64 64]) rfl fun w hw => (Tryd.strconv_ParseUint_10_at64_range ⟨s.toArray⟩ (by rw [ba_size]; exact hl) hn (.iface tp p) w (hw _ _ hv) (.inr ⟨tp, p, rfl⟩)).mono ?_
   rintro ex w' ⟨N, rfl, _, _, hb⟩
   exact ⟨_, rfl, fun ro μ => vr_two (.d _ _ (.int _ _)) (.iface _ _ _ (.undef _)), hb⟩
  ·rename_i n1 n2
   have hn : Go.Lib.parseUintB 64 s = Go.Lib.NumEnd.syntax := by
    rcases ne_cases (Go.Lib.parseUintB 64 s) with ⟨v, q⟩ | q | q
    ·exact (n1 v q).elim
    ·exact (n2 q).elim
    ·exact q
   have := Sum.inr.inj (Option.some.inj h0)
   subst this
   obtain ⟨tp, p, hv⟩ := TabOk.errS
   refine CallAt.of_belowX (vs := [.string ⟨s.toArray⟩, .int .i64 10, .int .i64 64]) rfl fun w hw => (Tryd.strconv_ParseUint_10_at64_syntax ⟨s.toArray⟩ (by rw [ba_size]; exact hl) hn (.iface tp p) w (hw _ _ hv) (.inr ⟨tp, p, rfl⟩)).mono ?_
   rintro ex w' ⟨N, rfl, _, _, hb⟩
   exact ⟨_, rfl, fun ro μ => vr_two (.d _ _ (.int _ _)) (.iface _ _ _ (.undef _)), hb⟩
 ·cases h0
def parI (s : List UInt8) (b z : Int) : Option (Int ⊕ Int) := if b = 10 ∧ z = 64 ∧ s.length ≤ 281474976710656 then (match Go.Lib.parseIntB 64 s with
 | .ok n => some (.inl n)
 | .range => some (.inr (Go.Lib.intSat 64 s))
 | _ => some (.inr 0)) else none
theorem parI_ok_a (s : List UInt8) (b z : Int) (r : Int) (h0 : parI s b z = some (.inl r)) : CallAt Tryd.prog 51 [.d (eS s), .d (eI b), .d (eI z)] [] (.tuple [.d (eI r), .d .nili]) [] := by
 unfold parI at h0
 split at h0
 ·rename_i hs
  obtain ⟨rfl, rfl, hl⟩ := hs
  split at h0
  ·rename_i n hn
   have := Sum.inl.inj (Option.some.inj h0)
   subst this
   refine CallAt.of_belowX (vs := [.string ⟨s.toArray⟩, .int .i64 10, .int .i64 64]) rfl fun w hw => (Tryd.strconv_ParseInt_10_at64_ok ⟨s.toArray⟩ (by rw [ba_size]; omega) n hn w).mono ?_
   rintro ex w' ⟨rfl, hb⟩
   refine ⟨_, rfl, fun ro μ => vr_two (.d _ _ (.int _ _)) (.d _ _ .nili), ?_⟩
   rcases hb with rfl | ⟨t, rfl⟩
   ·exact RowKit.Below.refl _ _
   ·exact Lib.bytesWorld_below _ _ _
  ·cases h0
  ·cases h0
 ·cases h0
theorem parI_ok_b (s : List UInt8) (b z : Int) (r : Int) (h0 : parI s b z = some (.inr r)) : CallAt Tryd.prog 51 [.d (eS s), .d (eI b), .d (eI z)] [] (.tuple [.d (eI r), .iface 103 .undef]) [] := by
 unfold parI at h0
 split at h0
 ·rename_i hs
  obtain ⟨rfl, rfl, hl⟩ := hs
  split at h0
  ·cases h0
  ·rename_i hn
   have := Sum.inr.inj (Option.some.inj h0)
   subst this
   obtain ⟨tp, p, hv⟩ := TabOk.errR
   refine CallAt.of_belowX (vs := [.string ⟨s.toArray⟩, .int .i64 10, .int .i64 64]) rfl fun w hw => (Tryd.strconv_ParseInt_10_at64_range ⟨s.toArray⟩ (by rw [ba_size]; exact hl) hn (.iface tp p) w (hw _ _ hv) (.inr ⟨tp, p, rfl⟩)).mono ?_
   rintro ex w' ⟨N, rfl, _, _, hb⟩
   exact ⟨_, rfl, fun ro μ => vr_two (.d _ _ (.int _ _)) (.iface _ _ _ (.undef _)), hb⟩
  ·rename_i n1 n2
   have hn : Go.Lib.parseIntB 64 s = Go.Lib.NumEnd.syntax := by
    rcases ne_cases (Go.Lib.parseIntB 64 s) with ⟨v, q⟩ | q | q
    ·exact (n1 v q).elim
    ·exact (n2 q).elim
    ·exact q
   have := Sum.inr.inj (Option.some.inj h0)
   subst this
   obtain ⟨tp, p, hv⟩ := TabOk.errS
   refine CallAt.of_belowX (vs := [.string ⟨s.toArray⟩, .int .i64 10, .int .i64 64]) rfl fun w hw => (Tryd.strconv_ParseInt_10_at64_syntax ⟨s.toArray⟩ (by rw [ba_size]; exact hl) hn (.iface tp p) w (hw _ _ hv) (.inr ⟨tp, p, rfl⟩)).mono ?_
   rintro ex w' ⟨N, rfl, _, _, hb⟩
   exact ⟨_, rfl, fun ro μ => vr_two (.d _ _ (.int _ _)) (.iface _ _ _ (.undef _)), hb⟩
 ·cases h0
end Lv
