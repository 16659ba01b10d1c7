/- conversions, literals, make. -/
import Derived.Test.YtddopjhkmkoicaaGreatDoorLvOps6
import Derived.Laws.BytesString
import Derived.Lib.ConvBytes
/- conversions, literals, make. -/
namespace Lv
open Go Go.Lib
set_option linter.unusedVariables false
set_option linter.unusedSimpArgs false
set_option linter.unusedSectionVars false
variable [BaseTab]
theorem ED {ro : Ro} : ∀ (xs : List D) (bs : List UInt8) (C : List Value), bytesOf xs = some bs → C.length = xs.length → (∀ (i : Nat) (x : D) (v : Value), xs[i]? = some x → C[i]? = some v → DR ro x v) →
  ∃ ns : List Int, C = ns.map (Value.int .u8) ∧ bs = ns.map (fun n => UInt8.ofNat n.toNat)
 | [], bs, C, h, hl, _ => by
  simp only [bytesOf, Option.some.injEq] at h
  subst h
  have : C = [] := List.eq_nil_of_length_eq_zero (by simpa using hl)
  subst this
  exact ⟨[], rfl, rfl⟩
 | x :: xs, bs, [], h, hl, _ => by simp at hl
 | x :: xs, bs, c :: C, h, hl, hd => by
  simp only [bytesOf] at h
  split at h
  ·rename_i b bs' hb hbs
   simp only [Option.some.injEq] at h
   subst h
   have h0 := hd 0 x c rfl rfl
   unfold byteOf at hb
   split at hb
   ·rename_i n
    simp only [Option.some.injEq] at hb
    subst hb
    cases h0
    obtain ⟨ns, e1, e2⟩ := ED xs bs' C hbs (by simpa using hl) (fun i y v hy hv => hd (i + 1) y v (by simpa using hy) (by simpa using hv))
    exact ⟨n :: ns, by rw [e1]; rfl, by rw [e2]; rfl⟩
   ·cases hb
  ·cases h
theorem foldl_push (ns : List Int) : ∀ s : ByteArray, (ns.foldl (fun r n => r.push (UInt8.ofNat n.toNat)) s).data.toList = s.data.toList ++ ns.map (fun n => UInt8.ofNat n.toNat) := by
 induction ns with
 | nil => intro s; simp
 | cons n ns ih => intro s; simp [List.foldl_cons, ih]
theorem Ig {P : Program} {σ σ' : List Ob} {src dst : TypeId} {x r : AV} {ro : Ro} {μ : Mu} {w : World} {v : Value} (g : Good ro μ w (hp σ)) (hn : σ.length < σ'.length → μ σ.length = none)
  (hx : VR ro μ x v) (h : dR P σ src dst x = some (r, σ')) : Step P (convert src dst v) ro μ w σ r σ' := by
 have scalar : (match x.val with
  | some v => match vY P (convert src dst v) with
   | some y => some (y, σ)
   | none => none
  | none => none) = some (r, σ') → Step P (convert src dst v) ro μ w σ r σ' := by
  intro h
  split at h
  ·rename_i u hu
   split at h
   ·rename_i y hy
    simp only [Option.some.injEq, Prod.mk.injEq] at h
    obtain ⟨rfl, rfl⟩ := h
    obtain rfl := fA hx hu
    exact Step.still g (pq hy ro μ w)
   ·cases h
  ·cases h
 unfold dR at h
 split at h
 ·rename_i e hs hd
  split at h
  ·rename_i he
   split at h
   ·cases h
   ·rename_i hns
    split at h
    ·rename_i xs hel
     split at h
     ·rename_i bs hbs
      simp only [Option.some.injEq, Prod.mk.injEq] at h
      obtain ⟨rfl, rfl⟩ := h
      obtain ⟨hlen, C, hC, hfc⟩ := nG (P := P) g hx hel
      -- the value is a slice
      have hv : ∃ a len c, v = .slice a len c := by
       unfold elems at hel
       split at hel
       ·rcases pz hx with ⟨L, c, a, rfl, _⟩ | ⟨_, _, rfl⟩ <;> exact ⟨_, _, _, rfl⟩
       ·rcases wW hx with ⟨a, cap, gg, rfl, _⟩ | ⟨_, rfl⟩ <;> exact ⟨_, _, _, rfl⟩
       ·obtain rfl := fA hx rfl; exact ⟨_, _, _, rfl⟩
       ·exact absurd rfl (hns _)
       ·cases hel
      obtain ⟨a, len, c, rfl⟩ := hv
      simp only [Builtin.lenOf, Sem.run_pure, Result.ok.injEq, and_true] at hlen
      subst hlen
      obtain ⟨ns, e1, e2⟩ := ED (ro := ro) xs bs C.toList hbs (by simp [hfc.size]) (fun i x v hx hv => by
       have ho := hfc.ok i x hx
       have hx0 : x.cells = [x] := by
        cases x
        case agg cs =>
         exfalso
         have hb := hbs
         have : ∀ (l : List D) (bs : List UInt8) (i : Nat) (cs : List D), bytesOf l = some bs → l[i]? = some (.agg cs) → False := by
          intro l
          induction l with
          | nil => intro bs i cs _ h; simp at h
          | cons y l ih =>
           intro bs i cs h1 h2
           simp only [bytesOf] at h1
           split at h1
           ·rename_i b bs' q1 q2
            cases i with
            | zero => simp at h2; subst h2; simp [byteOf] at q1
            | succ i => exact ih _ i cs q2 (by simpa using h2)
           ·cases h1
         exact this _ _ _ _ hb hx
        all_goals rfl
       obtain ⟨u, k1, k2⟩ := hfc.get i x 0 x hx (by rw [hx0]; rfl)
       simp only [Nat.mul_one, Nat.add_zero] at k1
       have : C.toList[i]? = some u := by simpa using k1
       rw [hv] at this
       cases this
       exact k2)
      refine Step.still g ⟨.string ⟨bs.toArray⟩, ?_, .d _ _ (.str _)⟩
      rw [run_convert_bytes_string w src dst e a xs.length c hs he hd]
      cases a with
      | none =>
       have : xs.length * 1 = 0 := by
        have h1 : (Builtin.firstCells 1 xs.length (.slice none xs.length c)).run P w = .ok #[] w := rfl
        rw [h1] at hC
        cases hC
        simpa using hfc.size.symm
       have hx0 : xs = [] := List.eq_nil_of_length_eq_zero (by omega)
       subst hx0
       simp only [bytesOf, Option.some.injEq] at hbs
       subst hbs
       rfl
      | some a =>
       have hC' : (loadCells a xs.length).run P w = .ok (ns.map (Value.int .u8)).toArray w := by
        have : (Builtin.firstCells 1 xs.length (.slice (some a) xs.length c)) = loadCells a (xs.length * 1) := rfl
        rw [this, Nat.mul_one] at hC
        rw [hC, ← e1]
       rw [run_bytesToString w a xs.length c ns hC']
       congr 2
       apply ByteArray.ext
       apply Array.ext'
       rw [foldl_push, e2]
       simp
     ·cases h
    ·cases h
  ·cases h
 ·rename_i e hs hd
  split at h
  ·rename_i he hsz
   split at h
   ·rename_i s
    simp only [Option.some.injEq, Prod.mk.injEq] at h
    obtain ⟨rfl, rfl⟩ := h
    obtain rfl := fA hx rfl
    have hrun := Lib.run_convert_string_bytes (P := P) w src dst e s hs hd he
    have hlen : (bytesD s).length = s.size := by simp [bytesD]
    have hbc : bytesCells w e s = (s.data.map fun b => Value.int .u8 b.toNat) ++ Array.replicate (grownCap w s.size 0 e - s.size) (.int .u8 0) := rfl
    have hcap : s.size ≤ grownCap w s.size 0 e := by simp only [grownCap, Question.cut]; omega
    have hheap : (bytesWorld w e s).heap = w.heap.push (.cells (bytesCells w e s) e ((bytesCells w e s).size, (bytesCells w e s).size + 1)) := by
     apply Array.ext_getElem?
     intro i
     rcases Nat.lt_trichotomy i w.heap.size with q | q | q
     ·rw [bytesWorld_at_old w e s i q, Array.getElem?_push, if_neg (by omega)]
     ·subst q
      rw [bytesWorld_at_new]; simp
     ·rw [Array.getElem?_eq_none (by rw [bytesWorld_size]; omega), Array.getElem?_eq_none (by simp; omega)]
    have hfc : FC ro 1 (bytesD s) (s.data.map fun b => Value.int .u8 b.toNat) := by
     obtain ⟨_, C, hC, hfc⟩ := nG (P := P) g hx (by simp [elems] : elems σ 1 (.d (.str s)) = some (bytesD s))
     have : (Builtin.firstCells 1 (bytesD s).length (.string s)) = pure ((s.extract 0 (bytesD s).length).data.map fun b => .int .u8 b.toNat) := rfl
     rw [this, hlen, kr] at hC
     simp only [Sem.run_pure, Result.ok.injEq, and_true] at hC
     rw [hC]; exact hfc
    refine Step.newRow (n := grownCap w s.size 0 e - s.size) (C := s.data.map fun b => Value.int .u8 b.toNat) (R := Array.replicate (grownCap w s.size 0 e - s.size) (.int .u8 0)) (e := e) g (hn (by simp)) hfc (by simp) hheap ?_ ?_ ?_ ?_ hrun hcap (by omega) (by simp)
    ·refine ⟨by simp, ?_⟩
     intro o ho hh
     rw [← hbc] at ho
     simp only at hh
     omega
    ·simp [bytesWorld, World.freeze, World.alloc, World.drew, -World.alloc_eq, -World.drew_eq]
    ·simp [bytesWorld, World.freeze, World.alloc, World.drew, -World.alloc_eq, -World.drew_eq]
    ·simp [bytesWorld, World.freeze, World.alloc, World.drew, -World.alloc_eq, -World.drew_eq]
   ·cases h
  ·cases h
 ·rename_i e e' hs hd
  split at h
  ·rename_i id sz off len cap he
   split at h
   ·rename_i s0 xs hid
    split at h
    ·rename_i hc
     obtain ⟨rfl, hl0⟩ := hc
     simp only [Option.some.injEq, Prod.mk.injEq] at h
     obtain ⟨rfl, rfl⟩ := h
     have hee : e = e' := by have := hs.symm.trans hd; cases this; rfl
     subst hee
     have hx0 := hx
     rcases pz hx with ⟨L, c, a, rfl, hL, hsz, hlc, hcap, ha⟩ | ⟨e0, _⟩
     rotate_left
     ·exact absurd e0 hl0
     obtain ⟨rfl, _⟩ := ha (by omega)
     have zm := g.ob id
     rw [dI hid] at zm
     obtain ⟨A, T, fz, o0, hh, hf, hCs, hlim, hw, hz', hcell⟩ := zm L hL
     have hblt : L.blk < w.heap.size := by
      rcases Nat.lt_or_ge L.blk w.heap.size with q | q
      ·exact q
      ·simp [Array.getElem?_eq_none q] at hh
     have hsh : w.shape? L.blk = some (T, A.size) := by simp [World.shape?, hh]
     have hrun : (convert src src (.slice (some (cellAt L.blk (L.base + off * sz))) len c)).run P w = .ok (.slice (some (cellAt L.blk (L.base + off * sz))) len c) (w.freeze ⟨L.blk, A.size, none⟩ 1) := by
      unfold convert
      simp only [Sem.run_bind, run_underlying hs, run_underlying hd, Result.andThen_ok, run_underlying he, beq_self_eq_true, markStringish, cellAt, shape, freeze, Sem.run, hsh, Sem.bind]
      rfl
     have hk : (w.freeze ⟨L.blk, A.size, none⟩ 1).heap[L.blk]? = some (.cells A T (if fz.1 == fz.2 then (A.size, A.size + 1) else (min fz.1 A.size, max fz.2 (A.size + 1)))) := by
      obtain ⟨lo, hi⟩ := fz
      simp [World.freeze, Array.getElem?_modify, hh]
     have hne : ∀ b, b ≠ L.blk → (w.freeze ⟨L.blk, A.size, none⟩ 1).heap[b]? = w.heap[b]? := by
      intro b hb
      simp [World.freeze, Array.getElem?_modify, Ne.symm hb]
     have := g.write (n := id) (o := .row s0 xs true) (L := L) (by rw [dI hid]; rfl) hL hne (by simp [World.freeze]) rfl rfl rfl (by
      intro L' hL'
      rw [hL] at hL'; cases hL'
      refine ⟨A, T, _, o0, hk, ?_, hCs, hlim, (fun e => Bool.noConfusion e), hz', hcell⟩
      have h1 := hf.1
      by_cases q : fz.1 = fz.2
      ·rw [if_pos (by simpa using q)]
       exact ⟨by simp, fun o ho hh => by simp at hh; omega⟩
      ·rw [if_neg (by simpa using q)]
       have h2 : A.size ≤ fz.1 := by
        rcases Nat.lt_or_ge fz.1 A.size with k | k
        ·exact absurd ⟨Nat.le_refl _, by omega⟩ (hf.2 fz.1 k)
        ·exact k
       refine ⟨by simp; omega, fun o ho hh => ?_⟩
       simp only at hh
       omega)
     rw [← ng (bE hid)] at this
     have hs1 : σ.set id (.row s0 xs true) = σ := by
      apply List.ext_getElem?
      intro i
      rw [List.getElem?_set]
      split
      ·rename_i e; subst e
       split
       ·exact hid.symm
       ·rename_i q; exact absurd (bE hid) q
      ·rfl
     rw [hs1] at this
     exact ⟨_, ro, μ, _, hrun, hx0, this.1, this.2, fun _ h => absurd rfl h, Nat.le_refl _⟩
    ·cases h
   ·cases h
  ·cases h
 ·exact scalar h
 ·cases h
end Lv
set_option linter.unusedSectionVars false
namespace Lv
open Go
variable [BaseTab]
theorem Ed (off : Nat) : ∀ (l : List Value) (k : Nat) (C : Array Value), off + k + l.length ≤ C.size →
  (l.zipIdx k).foldl (fun cs (p : Value × Nat) => cs.setIfInBounds (off + p.2) p.1) C = (over C.toList (off + k) l).toArray
 | [], k, C, h => by simp [over]
 | v :: l, k, C, h => by
  simp only [List.length_cons] at h
  simp only [List.zipIdx_cons, List.foldl_cons]
  rw [Ed off l (k + 1) _ (by simp; omega)]
  apply Array.ext'
  simp only [Array.toList_setIfInBounds]
  apply List.ext_getElem?
  intro i
  rw [iI (by simp; omega), iI (by simp; omega), List.getElem?_set]
  simp only [List.length_cons, Array.length_toList]
  by_cases e : i = off + k
  ·subst e
   rw [if_neg (by omega), if_pos rfl, if_pos (by omega), if_pos (by omega)]
   simp
  ·by_cases e2 : off + (k + 1) ≤ i ∧ i < off + (k + 1) + l.length
   ·rw [if_pos e2, if_pos (by omega), show i - (off + k) = (i - (off + (k + 1))) + 1 by omega]
    simp
   ·rw [if_neg e2, if_neg (by omega), if_neg (by omega)]
theorem Ba (off : Nat) (V C : Array Value) (h : off + V.size ≤ C.size) :
  V.zipIdx.foldl (fun cs (p : Value × Nat) => cs.setIfInBounds (off + p.2) p.1) C = (over C.toList off V.toList).toArray := by
 have := Ed off V.toList 0 C (by simpa using h)
 simp only [Nat.add_zero] at this
 rw [← this, ← Array.foldl_toList]
 simp
structure PRs (ro : Ro) (μ : Mu) (ps : List (Nat × AV)) (qs : List (Nat × Value)) : Prop where
 size : qs.length = ps.length
 fst : ∀ (k : Nat) (p : Nat × AV) (q : Nat × Value), ps[k]? = some p → qs[k]? = some q → p.1 = q.1
 snd : ∀ (k : Nat) (p : Nat × AV) (q : Nat × Value), ps[k]? = some p → qs[k]? = some q → VR ro μ p.2 q.2
theorem PRs.cons {ro : Ro} {μ : Mu} {p : Nat × AV} {ps : List (Nat × AV)} {qs : List (Nat × Value)} (h : PRs ro μ (p :: ps) qs) : ∃ q qs', qs = q :: qs' ∧ p.1 = q.1 ∧ VR ro μ p.2 q.2 ∧ PRs ro μ ps qs' := by
 cases qs with
 | nil => have := h.size; simp at this
 | cons q qs =>
  exact ⟨q, qs, rfl, h.fst 0 p q rfl rfl, h.snd 0 p q rfl rfl, by have := h.size; simpa using this, fun k a b ha hb => h.fst (k + 1) a b (by simpa using ha) (by simpa using hb), fun k a b ha hb => h.snd (k + 1) a b (by simpa using ha) (by simpa using hb)⟩
theorem yZ {ro : Ro} {μ : Mu} {place : Nat → Option (Nat × Nat)} : ∀ (ps : List (Nat × AV)) (qs : List (Nat × Value)) (cells cs : List AV) (C : Array Value), VRs ro μ cells C → PRs ro μ ps qs → JG place cells ps = some cs →
  ∃ C', Instr.fill place C qs = some C' ∧ VRs ro μ cs C'
 | [], qs, cells, cs, C, hc, hp, h => by
  have := hp.size
  have : qs = [] := List.eq_nil_of_length_eq_zero (by simpa using this)
  subst this
  simp only [JG, Option.some.injEq] at h
  subst h
  exact ⟨C, rfl, hc⟩
 | (i, v) :: ps, qs, cells, cs, C, hc, hp, h => by
  obtain ⟨⟨j, u⟩, qs', rfl, e1, e2, hp'⟩ := hp.cons
  simp only at e1 e2
  subst e1
  simp only [JG] at h
  split at h
  ·rename_i off s hpl
   split at h
   ·rename_i hq
    obtain ⟨h1, h2, h3⟩ := hq
    have hcs := qA e2 (Ie h3)
    have hsz := hcs.size
    have hC := hc.size
    have hfit : off + u.cells.size ≤ C.size := by omega
    obtain ⟨C', k1, k2⟩ := yZ ps qs' _ cs _ (ND hc hcs (by omega)) hp' h
    refine ⟨C', ?_, k2⟩
    rw [← k1, ← Ba off u.cells C hfit]
    have hb : (decide (u.cells.size ≠ s) || decide (off + u.cells.size > C.size)) = false := by simp; omega
    simp only [Instr.fill, hpl, hb, Bool.false_eq_true, if_false]
   ·cases h
  ·cases h
theorem La {P : Program} {t : TypeId} {ps : List (Nat × AV)} {qs : Array (Nat × Value)} {x : AV} {ro : Ro} {μ : Mu} (hp : PRs ro μ ps qs.toList) (h : eX P t ps = some x) (w : World) :
  ∃ v, (Instr.build t qs).run P w = .ok v w ∧ VR ro μ x v := by
 unfold eX at h
 split at h
 ·rename_i it fs hi hu
  split at h
  ·rename_i zs pl hz hpl
   split at h
   ·rename_i z hzs
    split at h
    ·rename_i cs hf
     simp only [Option.some.injEq] at h
     subst h
     obtain ⟨hl, hr⟩ := wH (ro := ro) zs.toList z hzs
     have hc : VRs ro μ (z.map AV.d) zs := by
      refine ⟨by simpa using hl, fun i x v hx hv => ?_⟩
      simp only [List.getElem?_map, Option.map_eq_some_iff] at hx
      obtain ⟨y, hy, rfl⟩ := hx
      exact .d _ _ (hr i y v hy (by simpa using hv))
     obtain ⟨C', k1, k2⟩ := yZ ps qs.toList _ cs zs hc hp hf
     refine ⟨.agg C', run_build w t qs C' ?_, yL k2⟩
     unfold placesOf at hpl
     simp only [Program.built, hi, hu, hz, hpl]
     exact k1
    ·cases h
   ·cases h
  ·cases h
 ·rename_i it n e hi hu
  split at h
  ·rename_i zs ie hz hpl
   split at h
   ·rename_i z hzs
    split at h
    ·rename_i cs hf
     simp only [Option.some.injEq] at h
     subst h
     obtain ⟨hl, hr⟩ := wH (ro := ro) zs.toList z hzs
     have hc : VRs ro μ (z.map AV.d) zs := by
      refine ⟨by simpa using hl, fun i x v hx hv => ?_⟩
      simp only [List.getElem?_map, Option.map_eq_some_iff] at hx
      obtain ⟨y, hy, rfl⟩ := hx
      exact .d _ _ (hr i y v hy (by simpa using hv))
     obtain ⟨C', k1, k2⟩ := yZ ps qs.toList _ cs zs hc hp hf
     refine ⟨.agg C', run_build w t qs C' ?_, yL k2⟩
     simp only [Program.built, hi, hu, hz, hpl]
     exact k1
    ·cases h
   ·cases h
  ·cases h
 ·cases h
theorem Cu {sz : Nat} : ∀ (ps : List (Nat × AV)) (qs : List (Nat × Value)) (k : Nat) (C : Array Value) {ro : Ro} {μ : Mu} {w : World} {σ σ' : List Ob} {ds : List D}, Good ro μ w (hp σ) → PRs ro μ ps qs → jR σ sz k ps = some (ds, σ') →
  k * sz + ps.length * sz ≤ C.size →
  ∃ ro' V, Good ro' μ w (hp σ') ∧ Ext ro μ w (hp σ) ro' μ w (hp σ') ∧ σ'.length = σ.length ∧ ds.length = ps.length ∧ FC ro' sz ds V ∧ Instr.fill (fun i => some (i * sz, sz)) C qs = some (over C.toList (k * sz) V.toList).toArray
 | [], qs, k, C, ro, μ, w, σ, σ', ds, g, hp', h, hl => by
  have := hp'.size
  have : qs = [] := List.eq_nil_of_length_eq_zero (by simpa using this)
  subst this
  simp only [jR, Option.some.injEq, Prod.mk.injEq] at h
  obtain ⟨rfl, rfl⟩ := h
  exact ⟨ro, #[], g, Ext.refl _ _ _ _, rfl, rfl, FC.nil ro sz, by simp [Instr.fill, over]⟩
 | (i, v) :: ps, qs, k, C, ro, μ, w, σ, σ', ds, g, hp', h, hl => by
  obtain ⟨⟨j, u⟩, qs', rfl, e1, e2, hp2⟩ := hp'.cons
  simp only at e1 e2
  subst e1
  simp only [jR] at h
  split at h
  ·rename_i hc
   obtain ⟨rfl, hvl⟩ := hc
   split at h
   ·rename_i y σ1 hy
    split at h
    ·rename_i ys σ2 hys
     simp only [Option.some.injEq, Prod.mk.injEq] at h
     obtain ⟨rfl, rfl⟩ := h
     have hl' : i * sz + (ps.length + 1) * sz ≤ C.size := by simpa using hl
     rw [Nat.add_mul] at hl'
     -- the first part
     have first : ∃ tu, Good tu μ w (hp σ1) ∧ Ext ro μ w (hp σ) tu μ w (hp σ1) ∧ σ1.length = σ.length ∧ y.BO sz ∧ u.cells.size = sz ∧
       (∀ (j : Nat) (c : D) (q : Value), y.cells[j]? = some c → u.cells[j]? = some q → DR tu c q) := by
      unfold zH at hy
      split at hy
      ·rename_i hva
       split at hy
       ·rename_i es EK hfz
        simp only [Option.some.injEq, Prod.mk.injEq] at hy
        obtain ⟨rfl, rfl⟩ := hy
        have hne : v ≠ .undef := by rintro rfl; simp [AV.isAgg] at hva
        have hcs := qA e2 hne
        obtain ⟨tu, g1, x1, l1, d1, a1, n1⟩ := ni v.cells (vs := u.cells.toList) g (by simpa using hcs.size) (fun i x v hx hv => hcs.get i x v hx (by simpa using hv)) hfz
        exact ⟨tu, g1, x1, n1, ⟨by simp [D.cells, l1, hvl], fun c hc => a1 c (by simpa [D.cells] using hc)⟩, by rw [hcs.size, hvl], fun j c q hj hq => d1 j c q (by simpa [D.cells] using hj) (by simpa using hq)⟩
       ·cases hy
      ·rename_i hva
       obtain ⟨tu, g1, x1, d1, a1, n1⟩ := vR g e2 hy
       have hy1 := D.oq a1
       have hv1 := xH (x := v) (by simpa using hva)
       have hsz : sz = 1 := by rw [hv1] at hvl; simpa using hvl.symm
       have hu1 : u.cells = #[u] := IV (Eb d1 a1)
       refine ⟨tu, g1, x1, n1, ⟨by rw [hy1, hsz]; rfl, fun c hc => by rw [hy1] at hc; simp only [List.mem_singleton] at hc; subst hc; exact a1⟩, by rw [hu1, hsz]; rfl, fun j c q hj hq => ?_⟩
       rw [hy1] at hj
       rw [hu1] at hq
       cases j with
       | zero => simp at hj hq; subst hj; subst hq; exact d1
       | succ j => simp at hj
     obtain ⟨tu, g1, x1, n1, hok, M7, hd1⟩ := first
     have hp3 : PRs tu μ ps qs' := ⟨hp2.size, hp2.fst, fun k a b ha hb => (hp2.snd k a b ha hb).mono x1.mR (fun _ _ h => h)⟩
     have hfit : i * sz + u.cells.size ≤ C.size := by rw [M7]; omega
     obtain ⟨Xm, V, g2, x2, n2, l2, hfc, Qu⟩ := Cu ps qs' (i + 1) (over C.toList (i * sz) u.cells.toList).toArray g1 hp3 hys (by
      rw [List.size_toArray, gy (by simpa using hfit)]
      simp only [Array.length_toList, Nat.add_mul]
      omega)
     refine ⟨Xm, u.cells ++ V, g2, x1.trans x2, by omega, by simp [l2], ?_, ?_⟩
     ·refine ⟨by simp only [Array.size_append, M7, hfc.size, List.length_cons, Nat.add_mul]; omega, fun k x hx => ?_, fun k x j c hx hj => ?_⟩
      ·cases k with
       | zero => simp at hx; subst hx; exact hok
       | succ k => exact hfc.ok k x (by simpa using hx)
      ·cases k with
       | zero =>
        simp at hx; subst hx
        have hjl := bE hj
        rw [hok.1] at hjl
        have hlt : j < u.cells.size := by omega
        refine ⟨u.cells[j], ?_, (hd1 j c _ hj (Array.getElem?_eq_getElem hlt)).mono x2.mR⟩
        simp only [Nat.zero_mul, Nat.zero_add]
        rw [Array.getElem?_append, if_pos hlt, Array.getElem?_eq_getElem hlt]
       | succ k =>
        obtain ⟨q, k1, k2⟩ := hfc.get k x j c (by simpa using hx) hj
        refine ⟨q, ?_, k2⟩
        rw [Array.getElem?_append, M7, if_neg (by rw [Nat.add_mul]; omega), ← k1]
        congr 1
        rw [Nat.add_mul]; omega
     ·have hb : (decide (u.cells.size ≠ sz) || decide (i * sz + u.cells.size > C.size)) = false := by simp; omega
      simp only [Instr.fill, hb, Bool.false_eq_true, if_false]
      rw [Ba (i * sz) u.cells C hfit, Qu]
      congr 1
      apply Array.ext'
      apply List.ext_getElem?
      intro k
      have hV : V.size = ps.length * sz := by rw [hfc.size, l2]
      have ho1 : (over C.toList (i * sz) u.cells.toList).length = C.size := by rw [gy (by simpa using hfit)]; simp
      rw [iI (by rw [ho1]; simp [hV, Nat.add_mul]; omega), iI (by simpa using hfit), iI (by simp [hV, M7]; omega)]
      simp only [Array.length_toList, hV, M7, Nat.add_mul, Array.toList_append, Nat.one_mul, List.length_append]
      by_cases q1 : i * sz ≤ k ∧ k < i * sz + sz
      ·rw [if_neg (by omega), if_pos q1, if_pos (by omega), List.getElem?_append_left (by simp [M7]; omega)]
      ·by_cases q2 : i * sz + sz ≤ k ∧ k < i * sz + sz + ps.length * sz
       ·rw [if_pos q2, if_pos (by omega), List.getElem?_append_right (by simp [M7]; omega)]
        simp only [Array.length_toList, M7]
        congr 1
        omega
       ·rw [if_neg q2, if_neg q1, if_neg (by omega)]
    ·cases h
   ·cases h
  ·cases h
theorem Cw {P : Program} {σ σ' : List Ob} {t : TypeId} {len : Nat} {ps : List (Nat × AV)} {qs : Array (Nat × Value)} {x : AV} {ro : Ro} {μ : Mu} {w : World} (g : Good ro μ w (hp σ)) (hn : μ σ.length = none)
  (hp' : PRs ro μ ps qs.toList) (h : iX P σ t len ps = some (x, σ')) : Step P (Instr.buildSlice t len qs) ro μ w σ x σ' := by
 unfold iX at h
 split at h
 ·rename_i e hu
  split at h
  ·rename_i s z hs hz
   split at h
   ·rename_i hc
    obtain ⟨hc1, hc2⟩ := hc
    split at h
    ·rename_i ds σ1 hds
     simp only [Option.some.injEq, Prod.mk.injEq] at h
     obtain ⟨rfl, rfl⟩ := h
     obtain ⟨zv, hzv, hzd⟩ := rG hz ro w
     let Z : Array Value := if len * s = 0 then #[] else zv.cells
     let C : Array Value := (Array.range (len * s)).map (fun k => Z[k % Z.size]!)
     have hCs : C.size = len * s := by simp [C]
     obtain ⟨tu, V, g1, x1, n1, l1, hfc, Qu⟩ := Cu ps qs.toList 0 C g hp' hds (by rw [hCs, hc2]; simp)
     have hV : V.size = len * s := by rw [hfc.size, l1, hc2]
     have hall : (over C.toList (0 * s) V.toList).toArray = V := by
      apply Array.ext'
      simp only [over, Nat.zero_mul, List.take_zero, List.nil_append, Nat.zero_add]
      rw [List.drop_eq_nil_of_le (by simp [hCs, hV])]
      simp
     rw [hall] at Qu
     have hrun : (Instr.buildSlice t len qs).run P w = .ok (.slice (some ⟨w.heap.size, 0, none⟩) len len) { w with heap := w.heap.push (.cells (V ++ #[]) e) } := by
      have hnr : (newRow e V).run P w = .ok ⟨w.heap.size, 0, none⟩ { w with heap := w.heap.push (.cells (V ++ #[]) e) } := by
       rw [Array.append_empty]; rfl
      have hlim : ¬ (len * s > 2 ^ 24) := by omega
      unfold Instr.buildSlice
      simp only [Sem.run_bind, run_underlying hu, Result.andThen_ok, gq hs, hlim, if_false]
      have KL : Instr.fill (fun i => some (i * s, s)) ((Array.range (len * s)).map (fun k => Z[k % Z.size]!)) qs.toList = some V := Qu
      by_cases q : len * s = 0
      ·have hZ : Z = #[] := by simp only [Z]; rw [if_pos q]
       rw [hZ] at KL
       rw [if_pos q]
       simp only [Sem.run_bind, Sem.run_pure, Result.andThen_ok, KL, hnr]
      ·have hZ : Z = zv.cells := by simp only [Z]; rw [if_neg q]
       rw [hZ] at KL
       rw [if_neg q]
       simp only [Sem.run_bind, hzv, Sem.run_pure, Result.andThen_ok, KL, hnr]
     have hn' : μ σ1.length = none := by rw [n1]; exact hn
     obtain ⟨v', ro', μ', w'', r1, r2, r3, r4, r5, r6⟩ := Step.newRow (P := P) (n := 0) (C := V) (R := #[]) (e := e) (cap := some len) (w' := { w with heap := w.heap.push (.cells (V ++ #[]) e) }) g1 hn' hfc (by simp) rfl (jc _) rfl rfl rfl hrun (Nat.le_refl _) (by omega) (by simp)
     exact ⟨v', ro', μ', w'', r1, r2, r3, x1.trans r4, fun id h => by have := r5 id h; rw [n1] at this; simpa [n1] using this, by simp [n1]⟩
    ·cases h
   ·cases h
  ·cases h
 ·cases h
theorem D5 {P : Program} {σ σ' : List Ob} {t : TypeId} {l c x : AV} {lv cv : Value} {ro : Ro} {μ : Mu} {w : World} (g : Good ro μ w (hp σ)) (hn : μ σ.length = none)
  (hl : VR ro μ l lv) (hc : VR ro μ c cv) (h : iM P σ t l c = some (x, σ')) : Step P (Instr.makeSlice t lv cv) ro μ w σ x σ' := by
 unfold iM at h
 split at h
 ·rename_i e k1 n k2 m hu
  obtain rfl := Ii hl
  obtain rfl := Ii hc
  split at h
  ·rename_i i z hi hz
   split at h
   ·rename_i hq
    obtain ⟨q1, q2, q3, q4, q5, q6, q7⟩ := hq
    simp only [Option.some.injEq, Prod.mk.injEq] at h
    obtain ⟨rfl, rfl⟩ := h
    obtain ⟨zv, hzv, hzd⟩ := rG hz ro w
    have hzs := qA (μ := μ) (.d z zv hzd) (by simp)
    have hzc : (AV.d z).cells.length = z.cells.length := by cases z <;> simp [AV.cells, D.cells]
    have abE : zv.cells.size = i.size := by rw [hzs.size, hzc, q5]
    let Z : Array Value := if m.toNat * i.size = 0 then #[] else zv.cells
    let C : Array Value := (Array.range (m.toNat * i.size)).map (fun k => Z[k % Z.size]!)
    have hfc : FC ro i.size (List.replicate m.toNat z) C := by
     refine ⟨by simp [C], fun k x hx => ?_, fun k x j c hx hj => ?_⟩
     ·rw [List.getElem?_replicate] at hx
      split at hx
      ·simp only [Option.some.injEq] at hx
       subst hx
       refine ⟨q5, fun c hc => ?_⟩
       have := List.all_eq_true.1 q6 c hc
       simpa using this
      ·cases hx
     ·rw [List.getElem?_replicate] at hx
      split at hx
      ·rename_i hk
       simp only [Option.some.injEq] at hx
       subst hx
       have hjl := bE hj
       have hlt : k * i.size + j < m.toNat * i.size := by
        have : (k + 1) * i.size ≤ m.toNat * i.size := Nat.mul_le_mul_right _ hk
        rw [Nat.add_mul] at this
        omega
       have hZ : Z = zv.cells := by simp only [Z]; rw [if_neg (by omega)]
       have hmod : (k * i.size + j) % Z.size = j := by
        rw [hZ, abE, Nat.mul_comm, Nat.mul_add_mod, Nat.mod_eq_of_lt (by omega)]
       have hjz : j < zv.cells.size := by omega
       refine ⟨zv.cells[j], ?_, ?_⟩
       ·simp only [C, Array.getElem?_map]
        rw [Array.getElem?_range, if_pos hlt]
        rw [hZ] at hmod ⊢
        simp only [Option.map_some, hmod]
        rw [getElem!_pos zv.cells j hjz]
       ·have hj2 : (AV.d z).cells[j]? = some (.d c) := by
         cases z <;> simp_all [AV.cells, D.cells]
        exact NM (hzs.get j _ _ hj2 (Array.getElem?_eq_getElem hjz))
      ·cases hx
    have ahu : IntKind.i64.bits = 64 := rfl
    have hwn : IntKind.i64.wrap n = n := by simp only [IntKind.wrap, ahu]; simp; omega
    have hwm : IntKind.i64.wrap m = m := by simp only [IntKind.wrap, ahu]; simp; omega
    have hrun : (Instr.makeSlice t (.int k1 n) (.int k2 m)).run P w = .ok (.slice (some ⟨w.heap.size, 0, none⟩) n.toNat m.toNat) { w with heap := w.heap.push (.cells (C ++ #[]) e) } := by
     have hnr : (newRow e C).run P w = .ok ⟨w.heap.size, 0, none⟩ { w with heap := w.heap.push (.cells (C ++ #[]) e) } := by
      rw [Array.append_empty]; rfl
     have hti : ∀ w, (typeInfo e).run P w = .ok i w := fun w => by simp [typeInfo, hi]
     have hsz : ∀ w, (Go.sizeOf e).run P w = .ok i.size w := fun w => by simp [Go.sizeOf, typeInfo, hi]
     have hcond : ((decide (m < 0) || decide ((i.bytes : Int) * m > 2 ^ 48)) || decide (n < 0) || decide (n > m)) = false := by
      have : (i.bytes : Int) * m ≤ 70368744177664 := by rw [Int.mul_comm]; exact q3
      simp
      omega
     unfold Instr.makeSlice
     simp only [Sem.run_bind, run_underlying hu, Result.andThen_ok, asInt, asIntOf, Sem.run_pure, hti, hwn, hwm, hcond, Bool.false_eq_true, if_false, run_askRoom, hsz]
     by_cases q : m.toNat * i.size = 0
     ·have hZ : Z = #[] := by simp only [Z]; rw [if_pos q]
      have hC : C = (Array.range (m.toNat * i.size)).map (fun k => (#[] : Array Value)[k % (#[] : Array Value).size]!) := by simp only [C, hZ]
      rw [if_pos q]
      simp only [Sem.run_bind, Sem.run_pure, Result.andThen_ok]
      rw [← hC, hnr]
      rfl
     ·have hZ : Z = zv.cells := by simp only [Z]; rw [if_neg q]
      have hC : C = (Array.range (m.toNat * i.size)).map (fun k => zv.cells[k % zv.cells.size]!) := by simp only [C, hZ]
      rw [if_neg q]
      simp only [Sem.run_bind, hzv, Sem.run_pure, Result.andThen_ok]
      rw [← hC, hnr]
      rfl
    exact Step.newRow (n := 0) (C := C) (R := #[]) (e := e) (cap := some m.toNat) (w' := { w with heap := w.heap.push (.cells (C ++ #[]) e) }) g hn hfc (by simp) rfl (jc _) rfl rfl rfl hrun (by omega) (by simp) (by simp)
   ·cases h
  ·cases h
 ·cases h
end Lv
