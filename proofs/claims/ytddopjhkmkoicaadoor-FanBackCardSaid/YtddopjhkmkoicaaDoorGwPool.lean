/- Blocks that lie apart from all objects: only calls and loads that are told by name meet them. -/
import Derived.Test.YtddopjhkmkoicaaDoorGwIface
import Derived.StillTail
/- Blocks that lie apart from all objects: only calls and loads that are told by name meet them. -/
namespace Lv
open Go
set_option linter.unusedVariables false
set_option linter.unusedSimpArgs false
set_option linter.unusedSectionVars false
variable [BaseTab]
abbrev Pool := List (Nat × List D)
structure Pl (ro : Ro) (μ : Mu) (w : World) (H : Hp) (π : Pool) : Prop where
 nd : (π.map Prod.fst).Nodup
 cell : ∀ q ∈ π, ∃ C T fz, w.heap[q.1]? = some (.cells C T fz) ∧ unfrozen fz C.size ∧ C.size = q.2.length ∧ ∀ (j : Nat) (c : D) (v : Value), q.2[j]? = some c → C[j]? = some v → DR ro c v
 far : ∀ q ∈ π, ¬ LB H μ q.1
 dark : ∀ q ∈ π, ∀ a : Addr, a.block = q.1 → ro a = none
section
variable {ro ro' ro1 ro2 : Ro} {μ μ' μ1 μ2 : Mu} {w w' w1 w2 : World} {H H' H1 H2 : Hp} {π π' : Pool} {B B' : Nat → Prop}
theorem Pl.lt (h : Pl ro μ w H π) {q : Nat × List D} (hq : q ∈ π) : q.1 < w.heap.size := by
 obtain ⟨C, T, fz, e, _⟩ := h.cell q hq
 rcases Nat.lt_or_ge q.1 w.heap.size with h | h
 ·exact h
 ·simp [Array.getElem?_eq_none h] at e
theorem Pl.step (h : Pl ro μ w H π) (x : Ext0 ro μ w H ro' μ' w' H') : Pl ro' μ' w' H' π where
 nd := h.nd
 cell q hq := by
  obtain ⟨C, T, fz, e, h1, h2, h3⟩ := h.cell q hq
  exact ⟨C, T, fz, (x.frame q.1 (h.lt hq) (fun hw => h.far q hq hw.lb)).trans e, h1, h2, fun j c v hc hv => (h3 j c v hc hv).mono x.roUp⟩
 far q hq hl := (x.lbNew q.1 hl).elim (fun k => by have := h.lt hq; omega) (h.far q hq)
 dark q hq a ha := by
  cases e : ro' a with
  | none => rfl
  | some v =>
   have hl := h.lt hq
   rcases x.roNew a v e with k | k | k
   ·rw [h.dark q hq a ha] at k; cases k
   ·rw [ha] at k; omega
   ·exact absurd (ha ▸ k.lb) (h.far q hq)
structure ExtB (B : Nat → Prop) (ro : Ro) (μ : Mu) (w : World) (H : Hp) (ro' : Ro) (μ' : Mu) (w' : World) (H' : Hp) : Prop where
 roUp : ∀ a v, ro a = some v → ro' a = some v
 roNew : ∀ a v, ro' a = some v → ro a = some v ∨ w.heap.size ≤ a.block ∨ WB H μ a.block
 wbNew : ∀ b, WB H' μ' b → w.heap.size ≤ b ∨ WB H μ b
 lbNew : ∀ b, LB H' μ' b → w.heap.size ≤ b ∨ LB H μ b
 frame : ∀ b, b < w.heap.size → ¬ WB H μ b → ¬ B b → w'.heap[b]? = w.heap[b]?
 size : w.heap.size ≤ w'.heap.size
 os : w'.os = w.os
 tape : w'.tape = w.tape
 output : w'.output = w.output
theorem ExtB.of (x : Ext0 ro μ w H ro' μ' w' H') : ExtB B ro μ w H ro' μ' w' H' :=
 ⟨x.roUp, x.roNew, x.wbNew, x.lbNew, fun b h1 h2 _ => x.frame b h1 h2, x.size, x.os, x.tape, x.output⟩
theorem ExtB.to (x : ExtB (fun _ => False) ro μ w H ro' μ' w' H') : Ext0 ro μ w H ro' μ' w' H' :=
 ⟨x.roUp, x.roNew, x.wbNew, x.lbNew, fun b h1 h2 => x.frame b h1 h2 id, x.size, x.os, x.tape, x.output⟩
theorem ExtB.trans (h : ExtB B ro μ w H ro1 μ1 w1 H1) (k : ExtB B' ro1 μ1 w1 H1 ro2 μ2 w2 H2) (hB : ∀ b, B' b → w.heap.size ≤ b ∨ B b) : ExtB B ro μ w H ro2 μ2 w2 H2 where
 roUp a v hi := k.roUp _ _ (h.roUp _ _ hi)
 roNew a v hi := by
  rcases k.roNew a v hi with h1 | h1 | h1
  ·exact h.roNew a v h1
  ·exact .inr (.inl (Nat.le_trans h.size h1))
  ·exact .inr (h.wbNew _ h1)
 wbNew b hb := by
  rcases k.wbNew b hb with h1 | h1
  ·exact .inl (Nat.le_trans h.size h1)
  ·exact h.wbNew _ h1
 lbNew b hb := by
  rcases k.lbNew b hb with h1 | h1
  ·exact .inl (Nat.le_trans h.size h1)
  ·exact h.lbNew _ h1
 frame b hb hn hB' := by
  rw [k.frame b (Nat.lt_of_lt_of_le hb h.size) (fun hw => (h.wbNew b hw).elim (fun x => by omega) hn) (fun q => (hB b q).elim (fun x => by omega) hB')]
  exact h.frame b hb hn hB'
 size := Nat.le_trans h.size k.size
 os := k.os.trans h.os
 tape := k.tape.trans h.tape
 output := k.output.trans h.output
end
structure Lim where
 wr : Nat → Prop
 ro : Prop
structure RelP (B : Lim) (m : Nat) (ro0 : Ro) (μ0 : Mu) (w0 : World) (H0 : Hp) (ro : Ro) (μ : Mu) (w : World) (s : St × Pool) (a : Act) : Prop where
 good : Good ro μ w (hp s.1.σ)
 env : VRs ro μ s.1.env a.tmps
 dom : ∀ id L, μ id = some L → id < s.1.σ.length
 defers : a.defers = []
 ext : ExtB B.wr ro0 μ0 w0 H0 ro μ w (hp s.1.σ)
 keep : ∀ id, id < m → μ id = μ0 id
 hm : m ≤ s.1.σ.length
 pl : Pl ro μ w (hp s.1.σ) s.2
 own : ∀ q ∈ s.2, B.ro ∨ w0.heap.size ≤ q.1 ∨ B.wr q.1
 bare : ∀ b, ¬ WB H0 μ0 b
section
variable {ro ro' ro1 ro2 : Ro} {μ μ' μ1 μ2 : Mu} {w w' w1 w2 : World} {H H' H1 H2 : Hp} {π π' : Pool} {B : Lim}
variable {m : Nat} {ro0 : Ro} {μ0 : Mu} {w0 : World} {H0 : Hp} {s s' : St} {a a' : Act}
theorem RelP.rel {sp : St × Pool} (h : RelP B m ro0 μ0 w0 H0 ro μ w sp a) : Rel m ro μ w (hp sp.1.σ) ro μ w sp.1 a := ⟨h.good, h.env, h.dom, h.defers, (Ext.refl _ _ _ _).to0, fun _ _ => rfl, h.hm⟩
theorem RelP.after (h : RelP B m ro0 μ0 w0 H0 ro μ w (s, π) a) (k : Rel m ro μ w (hp s.σ) ro' μ' w' s' a') : RelP B m ro0 μ0 w0 H0 ro' μ' w' (s', π) a' :=
 ⟨k.good, k.env, k.dom, k.defers, h.ext.trans (B' := fun _ => False) (.of k.ext) (fun _ h => h.elim), fun id hi => (k.keep id hi).trans (h.keep id hi), k.hm, h.pl.step k.ext, h.own, h.bare⟩
end
def EndsP (B : Lim) (m : Nat) (ro0 : Ro) (μ0 : Mu) (w0 : World) (H0 : Hp) (s : St × Pool) (a : Act) (w : World) : Prop := ∃ ro μ, RelP B m ro0 μ0 w0 H0 ro μ w s a
section
variable {P : Program} {B : Lim} {m : Nat} {ops : Array Oper} {o : Oper} {l : List Oper} {s s1 s' : St} {π π' : Pool} {A C : Code}
def SCp (P : Program) (B : Lim) (m : Nat) (c : Code) (s : St × Pool) (Q : Ex → St × Pool → Prop) : Prop :=
 ∀ (ro0 : Ro) (μ0 : Mu) (w0 : World) (H0 : Hp) (ro : Ro) (μ : Mu) (w : World) (a : Act) (Z : Exit → Act → World → Prop), RelP B m ro0 μ0 w0 H0 ro μ w s a →
  (∀ e s' a' w', Q e s' → EndsP B m ro0 μ0 w0 H0 s' a' w' → Z e.exit' a' w') → c.wp P Z a w
def SIp (P : Program) (B : Lim) (m : Nat) (c : Code) (s : St × Pool) (Q : Ex → St × Pool → Prop) : Prop :=
 ∀ (ro0 : Ro) (μ0 : Mu) (w0 : World) (H0 : Hp) (ro : Ro) (μ : Mu) (w : World) (a : Act) (Z : Exit → Act → World → Prop), RelP B m ro0 μ0 w0 H0 ro μ w s a →
  (∀ e s' a' w', Q e s' → EndsP B m ro0 μ0 w0 H0 s' a' w' → Z e.exit' a' w') → wpIn P c Z a w
def WkP (B : Lim) (m : Nat) (s s1 : St × Pool) : Prop := ∀ (ro0 : Ro) (μ0 : Mu) (w0 : World) (H0 : Hp) (ro : Ro) (μ : Mu) (w : World) (a : Act), RelP B m ro0 μ0 w0 H0 ro μ w s a → EndsP B m ro0 μ0 w0 H0 s1 a w
def SOp (P : Program) (B : Lim) (m : Nat) (ops : Array Oper) (l : List Oper) (s : St × Pool) (Q : St × Pool → Prop) : Prop :=
 ∀ (ro0 : Ro) (μ0 : Mu) (w0 : World) (H0 : Hp) (ro : Ro) (μ : Mu) (w : World) (a : Act) (Z : Exit → Act → World → Prop), RelP B m ro0 μ0 w0 H0 ro μ w s a →
  (∀ s' a' w', Q s' → EndsP B m ro0 μ0 w0 H0 s' a' w' → Z .normal a' w') → wpList P ops Z l a w
theorem WkP.of {sp sq : St × Pool} (h : Wk m sp.1 sq.1) (e : sp.2 = sq.2) : WkP B m sp sq := by
 obtain ⟨s, π⟩ := sp
 obtain ⟨s1, π1⟩ := sq
 simp only at h e
 subst e
 intro ro0 μ0 w0 H0 ro μ w a hr
 obtain ⟨ro1, μ1, h1⟩ := h ro μ w (hp s.σ) ro μ w a hr.rel
 exact ⟨ro1, μ1, hr.after h1⟩
theorem WkP.refl (s : St × Pool) : WkP B m s s := fun _ _ _ _ ro μ _ _ h => ⟨ro, μ, h⟩
theorem WkP.trans {s s1 s2 : St × Pool} (h : WkP B m s s1) (k : WkP B m s1 s2) : WkP B m s s2 := fun ro0 μ0 w0 H0 ro μ w a hr => let ⟨ro1, μ1, h1⟩ := h ro0 μ0 w0 H0 ro μ w a hr; k ro0 μ0 w0 H0 ro1 μ1 w a h1
theorem WkP.ends {s s1 : St × Pool} (h : WkP B m s s1) {ro0 : Ro} {μ0 : Mu} {w0 : World} {H0 : Hp} {a : Act} {w : World} (he : EndsP B m ro0 μ0 w0 H0 s a w) : EndsP B m ro0 μ0 w0 H0 s1 a w := let ⟨ro, μ, hr⟩ := he; h ro0 μ0 w0 H0 ro μ w a hr
variable {sp sq : St × Pool} {Q Q' : Ex → St × Pool → Prop}
theorem SCp.wk (h : WkP B m sp sq) (k : SCp P B m A sq Q) : SCp P B m A sp Q := by
 intro ro0 μ0 w0 H0 ro μ w a Z hr hQ
 obtain ⟨ro1, μ1, h1⟩ := h ro0 μ0 w0 H0 ro μ w a hr
 exact k ro0 μ0 w0 H0 ro1 μ1 w a Z h1 hQ
theorem SCp.post (h : SCp P B m A sp Q') (hq : ∀ e s, Q' e s → ∃ s1, WkP B m s s1 ∧ Q e s1) : SCp P B m A sp Q := by
 intro ro0 μ0 w0 H0 ro μ w a Z hr hQ
 refine h ro0 μ0 w0 H0 ro μ w a Z hr fun e s' a' w' h1 h2 => ?_
 obtain ⟨s1, k1, k2⟩ := hq e s' h1
 exact hQ e s1 a' w' k2 (k1.ends h2)
theorem SCp.mono (h : SCp P B m A sp Q') (hq : ∀ e s, Q' e s → Q e s) : SCp P B m A sp Q := h.post fun e s q => ⟨s, WkP.refl s, hq e s q⟩
theorem SCp.frame {Q0 : Ex → St → Prop} (h : SC P m A s Q0) (hq : ∀ e s', Q0 e s' → Q e (s', π)) : SCp P B m A (s, π) Q := by
 intro ro0 μ0 w0 H0 ro μ w a Z hr hQ
 refine h ro μ w (hp s.σ) ro μ w a Z hr.rel fun e s' a' w' h1 h2 => ?_
 obtain ⟨ro', μ', k⟩ := h2
 exact hQ e _ a' w' (hq e s' h1) ⟨ro', μ', hr.after k⟩
theorem SCp.seq (h : SCp P B m A sp (fun e s1 => match e with | .normal => SCp P B m C s1 Q | e => Q e s1)) : SCp P B m (.seq A C) sp Q := by
 intro ro0 μ0 w0 H0 ro μ w act Z hr hQ
 refine wp_seq ?_
 refine h ro0 μ0 w0 H0 ro μ w act _ hr fun e s' a' w' h1 h2 => ?_
 cases e with
 | normal =>
  obtain ⟨ro', μ', hr'⟩ := h2
  exact h1 ro0 μ0 w0 H0 ro' μ' w' a' Z hr' hQ
 | ret => exact hQ .ret s' a' w' h1 h2
 | exit i => exact hQ (.exit i) s' a' w' h1 h2
theorem SCp.cond {c : Operand} {t : Bool} (hc : opd sp.1.env c = some (.d (.bool t))) (h1 : t = true → SCp P B m A sp Q) (h2 : t = false → SCp P B m C sp Q) : SCp P B m (.cond c A C) sp Q := by
 intro ro0 μ0 w0 H0 ro μ w act Z hr hQ
 have ec : act.eval c = .bool t := VR_val (opd_sound hr.env hc) rfl
 refine wp_cond ec ?_
 cases t with
 | true => exact h1 rfl ro0 μ0 w0 H0 ro μ w act Z hr hQ
 | false => exact h2 rfl ro0 μ0 w0 H0 ro μ w act Z hr hQ
theorem SCp.skip (h : Q .normal sp) : SCp P B m .skip sp Q := fun ro0 μ0 w0 H0 ro μ w a Z hr hQ => wp_skip (hQ .normal sp a w h ⟨ro, μ, hr⟩)
theorem SCp.label {i : Nat} (h : Q .normal sp) : SCp P B m (.label i) sp Q := fun ro0 μ0 w0 H0 ro μ w a Z hr hQ => wp_label (hQ .normal sp a w h ⟨ro, μ, hr⟩)
theorem SCp.ret (h : Q .ret sp) : SCp P B m .ret sp Q := fun ro0 μ0 w0 H0 ro μ w a Z hr hQ => wp_ret (hQ .ret sp a w h ⟨ro, μ, hr⟩)
theorem SCp.exit {i : Nat} (h : Q (.exit i) sp) : SCp P B m (.exit i) sp Q := fun ro0 μ0 w0 H0 ro μ w a Z hr hQ => wp_exit (hQ (.exit i) sp a w h ⟨ro, μ, hr⟩)
theorem SCp.block {i : Nat} (h : SCp P B m A sp (fun e s1 => match e with | .exit j => if j = i then Q .normal s1 else Q (.exit j) s1 | e => Q e s1)) : SCp P B m (.block i A) sp Q := by
 intro ro0 μ0 w0 H0 ro μ w act Z hr hQ
 refine wp_block ?_
 refine h ro0 μ0 w0 H0 ro μ w act _ hr fun e s' a' w' h1 h2 => ?_
 cases e with
 | normal => exact hQ .normal s' a' w' h1 h2
 | ret => exact hQ .ret s' a' w' h1 h2
 | exit j =>
  simp only at h1
  simp only [Ex.exit', Exit.inBlock]
  split at h1
  ·rename_i e; rw [if_pos e]; exact hQ .normal s' a' w' h1 h2
  ·rename_i e; rw [if_neg e]; exact hQ (.exit j) s' a' w' h1 h2
theorem SCp.blk {i : Nat} (h : SCp P B m A sp (fun e s1 => match e with | .exit j => _root_.cond (Nat.beq j i) (Q .normal s1) (Q (.exit j) s1) | e => Q e s1)) : SCp P B m (.block i A) sp Q := by
 refine SCp.block (h.mono fun e s1 hq => ?_)
 cases e with
 | normal => exact hq
 | ret => exact hq
 | exit j =>
  simp only at hq ⊢
  cases hb : Nat.beq j i with
  | true => rw [hb] at hq; rw [if_pos (Nat.eq_of_beq_eq_true hb)]; exact hq
  | false =>
   rw [hb] at hq
   rw [if_neg (fun e => by subst e; simp at hb)]
   exact hq
theorem SIp.round {s s1 : St × Pool} (hk : WkP B m s s1) (h : SCp P B m A s1 (fun e s' => match e with | .normal => SIp P B m A s' Q | e => Q e s')) : SIp P B m A s Q := by
 intro ro0 μ0 w0 H0 ro μ w a Z hr hQ
 obtain ⟨ro1, μ1, hr1⟩ := hk ro0 μ0 w0 H0 ro μ w a hr
 refine wpIn_round (h ro0 μ0 w0 H0 ro1 μ1 w a _ hr1 fun e s' a' w' h1 h2 => ?_)
 cases e with
 | normal =>
  obtain ⟨ro', μ', hr'⟩ := h2
  exact h1 ro0 μ0 w0 H0 ro' μ' w' a' Z hr' hQ
 | ret => exact hQ .ret s' a' w' h1 h2
 | exit i => exact hQ (.exit i) s' a' w' h1 h2
theorem SCp.loopJ {Y : Type} (S : Y → St × Pool) (J : Nat → Y → Prop) {s : St × Pool} (n : Nat) (y : Y) (h0 : WkP B m s (S y)) (h1 : J n y)
  (k : ∀ n y, J n y → SCp P B m A (S y) (fun e s' => match e with | .normal => ∃ y' n', n' < n ∧ WkP B m s' (S y') ∧ J n' y' | e => Q e s')) : SCp P B m (.loop A) s Q := by
 have key : ∀ n y s, WkP B m s (S y) → J n y → SIp P B m A s Q := by
  intro n
  induction n using Nat.strongRecOn with
  | ind n ih =>
   intro y s hw hj
   refine SIp.round hw ((k n y hj).mono fun e s' h2 => ?_)
   cases e with
   | normal => obtain ⟨y', n', h3, h4, h5⟩ := h2; exact ih n' h3 y' s' h4 h5
   | ret => exact h2
   | exit i => exact h2
 intro ro0 μ0 w0 H0 ro μ w a Z hr hQ
 exact wp_loop_in (key n y s h0 h1 ro0 μ0 w0 H0 ro μ w a Z hr hQ)
theorem SCp.seqP {Y R : Type} {p : Option Y} {k : Y → Option R} {r : R} (h : p.bind k = some r) (S : Y → St × Pool) (ha : ∀ y, p = some y → SCp P B m A sp (fun e s' => match e with | .normal => WkP B m s' (S y) | e => Q e s')) (hb : ∀ y, k y = some r → SCp P B m C (S y) Q) : SCp P B m (.seq A C) sp Q := by
 obtain ⟨y, h1, h2⟩ := ob h
 refine SCp.seq ((ha y h1).mono fun e s' hq => ?_)
 cases e with
 | normal => exact SCp.wk hq (hb y h2)
 | ret => exact hq
 | exit i => exact hq
theorem SCp.seqB {Y E R : Type} {p : Option (Y ⊕ E)} {k : Y → Option R} {esc : E → Option R} {r : R} (h : bindE p k esc = some r) (S : Y → St × Pool)
  (ha : ∀ u, p = some u → Sum.elim k esc u = some r → SCp P B m A sp (fun e s' => match e with | .normal => ∃ y, u = .inl y ∧ WkP B m s' (S y) | e => Q e s')) (hb : ∀ y, k y = some r → SCp P B m C (S y) Q) : SCp P B m (.seq A C) sp Q := by
 obtain ⟨u, h1, h2⟩ := ob h
 refine SCp.seq ((ha u h1 h2).mono fun e s' hq => ?_)
 cases e with
 | normal =>
  obtain ⟨y, rfl, hw⟩ := hq
  exact SCp.wk hw (hb y h2)
 | ret => exact hq
 | exit i => exact hq
theorem SCp.loopB {Y W : Type} {G : Y → Option (Y ⊕ W)} {y0 : Y} {w : W} (h : Lv.loop G y0 = some w) (S : Y → St × Pool) (h0 : WkP B m sp (S y0))
  (k : ∀ n y v, G y = some v → Sum.elim (fun y' => loopN G n y' = some w) (fun w' => w' = w) v → SCp P B m A (S y) (fun e s' => match e with | .normal => ∃ y', v = .inl y' ∧ WkP B m s' (S y') | e => Q e s')) : SCp P B m (.loop A) sp Q := by
 obtain ⟨n, hn⟩ := loop_some h
 refine SCp.loopJ S (fun n y => loopN G n y = some w) n y0 h0 hn fun n y hj => ?_
 cases n with
 | zero => cases hj
 | succ n =>
  simp only [loopN] at hj
  cases hB : G y with
  | none => rw [hB] at hj; cases hj
  | some v =>
   rw [hB] at hj
   have hv : Sum.elim (fun y' => loopN G n y' = some w) (fun w' => w' = w) v := by
    cases v with
    | inl y' => exact hj
    | inr w' => exact Option.some.inj hj
   refine (k n y v hB hv).mono fun e s' hq => ?_
   cases e with
   | normal =>
    obtain ⟨y', rfl, hw⟩ := hq
    exact ⟨y', n, by omega, hw, hv⟩
   | ret => exact hq
   | exit i => exact hq
end
section
variable {P : Program} {B : Lim} {m : Nat} {ops ops1 : Array Oper} {o : Oper} {l l1 l2 : List Oper} {s s1 s' : St} {π π' : Pool} {A C : Code} {sp sq : St × Pool} {Q : Ex → St × Pool → Prop} {R : St × Pool → Prop}
def cutZ (P : Program) (ops : Array Oper) (Z : Exit → Act → World → Prop) (l : List Oper) : Exit → Act → World → Prop
 | .normal, a, w => wpList P ops Z l a w
 | e, a, w => Z e a w
theorem cutZ_out {Z : Exit → Act → World → Prop} (h : LetsOut (cutZ P ops Z l)) : LetsOut Z := h
theorem wp_cut {Z : Exit → Act → World → Prop} {a : Act} {w : World} {K K' : Act → World → Prop} (hK : ∀ a w, K a w → K' a w) (h : o.wp P a w K (cutZ P ops Z l)) : o.wp P a w K' Z := by
 unfold Oper.wp at *
 generalize (execOp a.eval o).run P w = r at *
 cases r with
 | ok n w' =>
  cases n <;> simp only [Oper.upon] at h ⊢ <;>
   first
    | exact hK _ _ h
    | exact Calls.mono h (fun e w'' he => by cases e <;> first | exact hK _ _ he | exact he)
    | exact Rows.mono h (fun _ _ he => hK _ _ he)
 | halt x w' => cases x <;> simp only [Oper.upon] at h ⊢ <;> exact h
theorem yielded_congr {a : Array Value} {j : Nat} (h : (ops1[j]?).bind (·.dst) = (ops[j]?).bind (·.dst)) : yielded ops1 a j = yielded ops a j := by unfold yielded; rw [h]
def gOk (ops1 ops : Array Oper) (o : Oper) : Prop := ∀ j w, o.guard = some (j, w) → (ops1[j]?).bind (·.dst) = (ops[j]?).bind (·.dst)
theorem wanted_congr (h : gOk ops1 ops o) (t : Array Value) : Region.wanted o (yielded ops1 t) = Region.wanted o (yielded ops t) := by
 unfold Region.wanted
 split
 ·rfl
 ·rename_i j want hg
  rw [yielded_congr (h j want hg)]
theorem wpList_app {Z : Exit → Act → World → Prop} : ∀ {l1 : List Oper} {a : Act} {w : World}, (∀ o ∈ l1, gOk ops1 ops o) → wpList P ops1 (cutZ P ops Z l2) l1 a w → wpList P ops Z (l1 ++ l2) a w
 | [], a, w, _, h => h
 | o :: r, a, w, hg, h => by
  have hr : ∀ a w, wpList P ops1 (cutZ P ops Z l2) r a w → wpList P ops Z (r ++ l2) a w := fun a w => wpList_app fun o ho => hg o (List.mem_cons_of_mem _ ho)
  simp only [List.cons_append, wpList] at h ⊢
  rw [wanted_congr (hg o List.mem_cons_self)] at h
  split
  ·rename_i hw
   rw [if_pos hw] at h
   rcases h with h | h
   ·exact .inl (wp_cut hr h)
   ·exact .inr ⟨h.1, cutZ_out h.2⟩
  ·rename_i hw
   rw [if_neg hw] at h
   exact hr _ _ h
theorem SOp.seg (k : Nat) (hl : ∀ j, l1[j]? = ops1[k + j]?) (hg : ∀ o ∈ l1, gOk ops1 ops o) (h : SO P m ops1 l1 s (fun s1 => SOp P B m ops l2 (s1, π) R)) : SOp P B m ops (l1 ++ l2) (s, π) R := by
 intro ro0 μ0 w0 H0 ro μ w a Z hr hQ
 refine wpList_app hg ?_
 have := h ro μ w (hp s.σ) ro μ w a k (cutZ P ops Z l2) hl hr.rel fun s' a' w' h1 h2 => by
  obtain ⟨ro', μ', h2⟩ := h2
  exact h1 ro0 μ0 w0 H0 ro' μ' w' a' Z (hr.after h2) hQ
 rw [wpOps_eq_wpList l1 k hl] at this
 exact this
theorem sgQ (k : Nat) (hd : ops.toList.drop k = o :: l) (hg : ∀ j w, o.guard = some (j, w) → j < k) (h : SO P m (ops.toList.take (k + 1)).toArray [o] s (fun s1 => SOp P B m ops l (s1, π) R)) : SOp P B m ops (o :: l) (s, π) R := by
 have hk : ops.toList[k]? = some o := by have := congrArg (fun l => l[0]?) hd; simpa using this
 refine SOp.seg (l1 := [o]) k (fun j => ?_) (fun o' ho' j w hj => ?_) h
 ·cases j with
  | zero => simp [List.getElem?_take, hk]
  | succ j => simp [List.getElem?_take]
 ·simp only [List.mem_singleton] at ho'
  subst ho'
  have := hg j w hj
  simp [List.getElem?_take, show j < k + 1 by omega]
theorem fnQ (k : Nat) (hd : ops.toList.drop k = l) (h : SO P m ops l s (fun s1 => R (s1, π))) : SOp P B m ops l (s, π) R := by
 intro ro0 μ0 w0 H0 ro μ w a Z hr hQ
 have hl : ∀ j, l[j]? = ops[k + j]? := fun j => by rw [← hd, List.getElem?_drop]; simp
 have := h ro μ w (hp s.σ) ro μ w a k Z hl hr.rel fun s' a' w' h1 h2 => by
  obtain ⟨ro', μ', h2⟩ := h2
  exact hQ _ a' w' h1 ⟨ro', μ', hr.after h2⟩
 rw [wpOps_eq_wpList l k hl] at this
 exact this
theorem SOp.nil (h : R sp) : SOp P B m ops [] sp R := fun ro0 μ0 w0 H0 ro μ w a Z hr hQ => hQ sp a w h ⟨ro, μ, hr⟩
theorem SCp.regionQ {id : Nat} (h : SOp P B m ops ops.toList sp (fun s' => Q .normal s')) : SCp P B m (.region id ops false) sp Q :=
 fun ro0 μ0 w0 H0 ro μ w a Z hr hQ => wp_region_list (h ro0 μ0 w0 H0 ro μ w a Z hr fun s' a' w' h2 he => hQ .normal s' a' w' h2 he)
theorem SCp.region {id : Nat} (h : SO P m ops ops.toList s (fun s' => Q .normal (s', π))) : SCp P B m (.region id ops false) (s, π) Q := SCp.regionQ (fnQ 0 rfl h)
theorem SCp.draws {id : Nat} (hok : textOk P ops = true) (h : ST P ops ops.toList s [] (fun s' t => unorderedOk ops t = true ∧ Q .normal (s', π))) : SCp P B m (.region id ops true) (s, π) Q := by
 refine SCp.frame (Q0 := fun e s' => e = .normal ∧ Q .normal (s', π)) (SC.draws hok ?_) (fun e s' h => ?_)
 ·obtain ⟨s', t, h1, h2, h3⟩ := h
  exact ⟨s', t, h1, h2, rfl, h3⟩
 ·obtain ⟨rfl, h⟩ := h; exact h
def StOp (P : Program) (s : St) (π : Pool) (o : Oper) (v : AV) : Prop :=
 ∀ (ro : Ro) (μ : Mu) (w : World) (a : Act), Good ro μ w (hp s.σ) → VRs ro μ s.env a.tmps → Pl ro μ w (hp s.σ) π → ∃ u, (execOp a.eval o).run P w = .ok (.value u) w ∧ VR ro μ v u
inductive Stl (P : Program) (π : Pool) : List Oper → St → St → Prop
 | nil (s : St) : Stl P π [] s s
 | cons {o : Oper} {l : List Oper} {s s' : St} {v : AV} (hg : o.guard = none) (h : StOp P s π o v) (k : Stl P π l ⟨putA s.env o.dst v, s.σ⟩ s') : Stl P π (o :: l) s s'
theorem RelP.put {ro0 : Ro} {μ0 : Mu} {w0 : World} {H0 : Hp} {ro : Ro} {μ : Mu} {w : World} {a : Act} {v : AV} {u : Value} (h : RelP B m ro0 μ0 w0 H0 ro μ w (s, π) a) (hv : VR ro μ v u) (d : Option Tmp) : RelP B m ro0 μ0 w0 H0 ro μ w (⟨putA s.env d v, s.σ⟩, π) (a.put d u) :=
 ⟨h.good, VRs_put h.env hv d, h.dom, by rw [put_defers']; exact h.defers, h.ext, h.keep, h.hm, h.pl, h.own, h.bare⟩
theorem Stl.run {ro0 : Ro} {μ0 : Mu} {w0 : World} {H0 : Hp} {ro : Ro} {μ : Mu} {w : World} {K : Act → Prop} (h : Stl P π l s s') : ∀ {a : Act}, RelP B m ro0 μ0 w0 H0 ro μ w (s, π) a → (∀ a', RelP B m ro0 μ0 w0 H0 ro μ w (s', π) a' → K a') → wpStill P ops w K l a := by
 induction h with
 | nil s => intro a hr hK; exact hK a hr
 | cons hg h k ih =>
  intro a hr hK
  obtain ⟨u, h1, h2⟩ := h ro μ w a hr.good hr.env hr.pl
  unfold wpStill
  rw [if_pos (by simp [Region.wanted, hg])]
  unfold Oper.still
  rw [h1, Oper.stillUpon_value]
  exact ih (hr.put h2 _) hK
theorem stQ {v : AV} {d op ty pos af} (h : StOp P s π ⟨d, op, ty, pos, af, none⟩ v) (k : SOp P B m ops l (⟨putA s.env d v, s.σ⟩, π) R) : SOp P B m ops (⟨d, op, ty, pos, af, none⟩ :: l) (s, π) R := by
 intro ro0 μ0 w0 H0 ro μ w a Z hr hQ
 obtain ⟨u, h1, h2⟩ := h ro μ w a hr.good hr.env hr.pl
 unfold wpList
 rw [if_pos (by simp [Region.wanted])]
 refine .inl ?_
 unfold Oper.wp
 rw [h1]
 exact k ro0 μ0 w0 H0 ro μ w _ Z (hr.put h2 d) hQ
theorem RelP.drawn {ro0 : Ro} {μ0 : Mu} {w0 : World} {H0 : Hp} {ro : Ro} {μ : Mu} {w : World} {a : Act} (k : Nat) (h : RelP B m ro0 μ0 w0 H0 ro μ w sp a) : RelP B m ro0 μ0 w0 H0 ro μ { w with drawn := k } sp a :=
 ⟨⟨h.good.roOk, h.good.ob, h.good.apart, h.good.roApart, h.good.base⟩, h.env, h.dom, h.defers, ⟨h.ext.roUp, h.ext.roNew, h.ext.wbNew, h.ext.lbNew, h.ext.frame, h.ext.size, h.ext.os, h.ext.tape, h.ext.output⟩, h.keep, h.hm, ⟨h.pl.nd, h.pl.cell, h.pl.far, h.pl.dark⟩, h.own, h.bare⟩
theorem SCp.drawQ {id : Nat} (n : Nat) (hm : P.follows .mixedOrders = true) (hB : Region.lexTailB .any ops n = true) (h1 : Stl P π (ops.toList.take n) s s1) (h2 : SOp P B m ops (ops.toList.drop n) (s1, π) (fun s' => Q .normal s')) : SCp P B m (.region id ops true) (s, π) Q := by
 intro ro0 μ0 w0 H0 ro μ w a Z hr hQ
 have e : ops.toList.toArray = ops := by simp
 have hB' : Region.lexTailB .any ops.toList.toArray n = true := by rw [e]; exact hB
 rw [← e]
 refine wp_region_still_tail n hm hB' ?_
 refine h1.run (hr.drawn _) fun a' hr' => ?_
 rw [e]
 exact h2 ro0 μ0 w0 H0 ro μ _ a' Z hr' fun s' a' w' h3 he => hQ .normal s' a' w' h3 he
end
section
variable {P : Program} {B : Lim} {m : Nat} {ops : Array Oper} {o : Oper} {l : List Oper} {n : Nat} {e : En} {σ : List Ob} {π π' : Pool} {A C : Code} {Q : Ex → St × Pool → Prop} {R : St × Pool → Prop} {s s1 : St} {v : AV}
def stK : Op → Bool
 | .move _ => true
 | .load _ _ => true
 | .nilCheck _ => true
 | .fieldAddr _ _ _ => true
 | .indexAddr _ _ _ => true
 | _ => false
theorem aop_still {call : Callee} {a : Act} {env : List AV} {σ' : List Ob} {x : AV} {ro : Ro} {μ : Mu} {w : World} (hk : stK o.op = true) (h : aop P call env σ o = some (x, σ')) (g : Good ro μ w (hp σ)) (he : VRs ro μ env a.tmps) :
  ∃ u, (execOp a.eval o).run P w = .ok (.value u) w ∧ VR ro μ x u := by
 have still : ∀ (s : Sem Value), execOp a.eval o = (do pure (.value (← s))) → (∃ v, s.run P w = .ok v w ∧ VR ro μ x v) → ∃ u, (execOp a.eval o).run P w = .ok (.value u) w ∧ VR ro μ x u := by
  rintro s hs ⟨v, h1, h2⟩
  exact ⟨v, by rw [hs]; simp only [Sem.run_bind, h1, Result.andThen_ok, Sem.run_pure], h2⟩
 cases ho : o.op with
 | move y =>
  simp only [aop, ho] at h
  split at h
  ·rename_i v hv
   simp only [Option.some.injEq, Prod.mk.injEq] at h
   obtain ⟨rfl, rfl⟩ := h
   exact still (pure (a.eval y)) (by simp [execOp, ho]) ⟨_, rfl, opd_sound he hv⟩
  ·cases h
 | load t y =>
  simp only [aop, ho] at h
  split at h
  ·rename_i v hv
   split at h
   ·rename_i z hz
    simp only [Option.some.injEq, Prod.mk.injEq] at h
    obtain ⟨rfl, rfl⟩ := h
    obtain ⟨u, p, e, k1, k2⟩ := aload_sound g (opd_sound he hv) hz
    exact still (Instr.loadAt t (a.eval y)) (by simp [execOp, ho]) ⟨u, by rw [e]; simp only [Instr.loadAt, Instr.sureAddr, Sem.run_bind, Sem.run_pure, Result.andThen_ok, k1], k2⟩
   ·cases h
  ·cases h
 | nilCheck y =>
  simp only [aop, ho] at h
  split at h
  ·rename_i id idx off hv
   simp only [Option.some.injEq, Prod.mk.injEq] at h
   obtain ⟨rfl, rfl⟩ := h
   have hv' := opd_sound he hv
   obtain ⟨L, hL, e⟩ := VR_ref hv'
   refine still (pure (a.eval y)) ?_ ⟨_, rfl, hv'⟩
   simp [execOp, ho, e]
  ·rename_i cs hv
   simp only [Option.some.injEq, Prod.mk.injEq] at h
   obtain ⟨rfl, rfl⟩ := h
   have hv' := opd_sound he hv
   obtain ⟨b, o', g', e, _⟩ := VR_rop hv'
   refine still (pure (a.eval y)) ?_ ⟨_, rfl, hv'⟩
   simp [execOp, ho, e]
  ·cases h
 | fieldAddr t y f =>
  simp only [aop, ho] at h
  split at h
  ·rename_i u hu
   split at h
   ·rename_i r hr
    simp only [Option.some.injEq, Prod.mk.injEq] at h
    obtain ⟨rfl, rfl⟩ := h
    exact still (Instr.fieldAt t (a.eval y) f) (by simp [execOp, ho]) (afieldAddr_sound (opd_sound he hu) hr w)
   ·cases h
  ·cases h
 | indexAddr t y z =>
  simp only [aop, ho] at h
  split at h
  ·rename_i u v hu hv
   split at h
   ·rename_i r hr
    simp only [Option.some.injEq, Prod.mk.injEq] at h
    obtain ⟨rfl, rfl⟩ := h
    exact still (Instr.indexAt t (a.eval y) (a.eval z)) (by simp [execOp, ho]) (aindexAddr_sound (opd_sound he hu) (opd_sound he hv) hr w)
   ·cases h
  ·cases h
 | _ => rw [ho] at hk; cases hk
variable {d : Option Tmp} {dd : Tmp} {op : Op} {ty : TypeId} {x : Operand} {t : TypeId} {f b : Nat}
theorem StOp.of {pos af} (hk : stK op = true) (h : Yl P n e σ op v σ) : StOp P ⟨mk n e, σ⟩ π ⟨d, op, ty, pos, af, none⟩ v := by
 intro ro μ w a g he _
 obtain ⟨v0, h1, h2⟩ := h
 obtain ⟨u, k1, k2⟩ := aop_still (o := ⟨d, op, ty, pos, af, none⟩) (call := fun _ _ _ => none) hk (h1 _ rfl _) g he
 exact ⟨u, k1, h2 _ _ _ k2⟩
theorem eval_adr {ro : Ro} {μ : Mu} {a : Act} (he : VRs ro μ (mk n e) a.tmps) (hx : lq n e x = some (.d (.adr b))) : a.eval x = .pointer (some (cellAt b 0)) := by
 have h := opd_sound he (lo_opd (lq_lo hx))
 generalize a.eval x = v at h
 cases h with
 | d _ _ h => cases h; rfl
theorem StOp.nil {pos af} (hx : lq n e x = some (.d (.adr b))) : StOp P ⟨mk n e, σ⟩ π ⟨d, .nilCheck x, ty, pos, af, none⟩ (.d (.adr b)) := by
 intro ro μ w a g he _
 have h := eval_adr he hx
 exact ⟨_, by simp only [execOp, h]; rfl, .d _ _ (.adr b)⟩
theorem StOp.fld {pos af} (hx : lq n e x = some (.d (.adr b))) (hf : afieldAddr P t f (.ref 0 0 0) = some (.ref 0 0 0)) : StOp P ⟨mk n e, σ⟩ π ⟨d, .fieldAddr t x f, ty, pos, af, none⟩ (.d (.adr b)) := by
 intro ro μ w a g he _
 have h := eval_adr he hx
 have hr : VR ro (fun _ => some ⟨b, 0, 0, 0⟩) (.ref 0 0 0) (.pointer (some (cellAt b 0))) := .ref 0 0 0 ⟨b, 0, 0, 0⟩ rfl
 obtain ⟨u, h1, h2⟩ := afieldAddr_sound hr hf w
 obtain ⟨L, hL, rfl⟩ := VR_ref h2
 cases hL
 refine ⟨_, ?_, .d _ _ (.adr b)⟩
 simp only [execOp, h, Sem.run_bind, h1, Result.andThen_ok, Sem.run_pure]
theorem StOp.ld {pos af} {c : D} (hx : lq n e x = some (.d (.adr b))) (hm : (b, [c]) ∈ π) (hs : tsize P t = some 1) (hg : tagg P t = some false) : StOp P ⟨mk n e, σ⟩ π ⟨d, .load t x, ty, pos, af, none⟩ (.d c) := by
 intro ro μ w a g he hp
 have h := eval_adr he hx
 obtain ⟨C, T, fz, h1, h2, h3, h4⟩ := hp.cell _ hm
 simp only [List.length_cons, List.length_nil, Nat.zero_add] at h3
 have h0 : C[0]? = some (C.getD 0 undef) := by simp [Array.getD, h3]
 have hr := run_loadVar_cells (P := P) (w := w) (b := b) (o := 0) hs hg h3 (fun j v hj => by rw [cell?_of_cells h1, Nat.zero_add]; exact hj) (fun _ => rfl)
 refine ⟨C.getD 0 undef, ?_, .d _ _ (h4 0 c _ rfl h0)⟩
 simp only [execOp, h, Instr.loadAt, Instr.sureAddr, Sem.run_bind, Sem.run_pure, Result.andThen_ok, hr]
 rfl
theorem yQ {pos af s'} (hk : stK op = true) (h : Yl P n e σ op v σ) (k : Stl P π l ⟨mk n ((dd, v) :: e), σ⟩ s') : Stl P π (⟨some dd, op, ty, pos, af, none⟩ :: l) ⟨mk n e, σ⟩ s' :=
 .cons rfl (StOp.of hk h) (by simp only [put_mk]; exact k)
theorem zQ {pos af s'} (h : StOp P ⟨mk n e, σ⟩ π ⟨some dd, op, ty, pos, af, none⟩ v) (k : Stl P π l ⟨mk n ((dd, v) :: e), σ⟩ s') : Stl P π (⟨some dd, op, ty, pos, af, none⟩ :: l) ⟨mk n e, σ⟩ s' :=
 .cons rfl h (by simp only [put_mk]; exact k)
theorem stq {pos af} (h : StOp P ⟨mk n e, σ⟩ π ⟨some dd, op, ty, pos, af, none⟩ v) (k : SOp P B m ops l (⟨mk n ((dd, v) :: e), σ⟩, π) R) : SOp P B m ops (⟨some dd, op, ty, pos, af, none⟩ :: l) (⟨mk n e, σ⟩, π) R :=
 stQ h (by simp only [put_mk]; exact k)
end
abbrev muN : Mu := fun _ => none
def CallP (P : Program) (f : FuncId) (args : List AV) (π : Pool) (r : AV) (π' : Pool) : Prop :=
 ∀ (ro : Ro) (w : World) (cargs : Array Value), Good ro muN w (hp []) → VRs ro muN args cargs → Pl ro muN w (hp []) π →
  Calls P f cargs w (fun e w' => ∃ v ro', e = .returned v ∧ VR ro' muN r v ∧ Good ro' muN w' (hp []) ∧ ExtB (fun b => b ∈ π.map Prod.fst) ro muN w (hp []) ro' muN w' (hp []) ∧ Pl ro' muN w' (hp []) π' ∧ (∀ q ∈ π', w.heap.size ≤ q.1 ∨ q.1 ∈ π.map Prod.fst))
def flat : AV → Bool
 | .d _ => true
 | .tuple [] => true
 | _ => false
theorem flat_mv {ro : Ro} {μ μ' : Mu} {x : AV} {v : Value} (h : flat x = true) (k : VR ro μ x v) : VR ro μ' x v := by
 cases k with
 | d x v k => exact .d x v k
 | tuple cs vs hs hh =>
  cases cs with
  | nil => exact .tuple [] vs hs (fun i x v hx => by simp at hx)
  | cons c cs => simp [flat] at h
 | _ => simp [flat] at h
def flats (l : List AV) : Bool := l.all flat
theorem flats_mv {ro : Ro} {μ μ' : Mu} {xs : List AV} {vs : Array Value} (h : flats xs = true) (k : VRs ro μ xs vs) : VRs ro μ' xs vs :=
 ⟨k.size, fun i x v hx hv => flat_mv (List.all_eq_true.1 h x (List.mem_of_getElem? hx)) (k.get i x v hx hv)⟩
theorem Good.bare {ro : Ro} {μ : Mu} {w : World} {H : Hp} (g : Good ro μ w H) : Good ro muN w (hp []) where
 roOk := g.roOk
 ob id := by simp [hp]; trivial
 apart id id' L L' h := by simp [hp, Ob.wr] at h
 roApart b h := by obtain ⟨id, L, h1, _⟩ := h; simp [hp, Ob.wr] at h1
 base := g.base
theorem noWB {μ : Mu} {b : Nat} (h : WB (hp []) μ b) : False := by obtain ⟨id, L, h1, _⟩ := h; simp [hp, Ob.wr] at h1
theorem noLB {μ : Mu} {b : Nat} (h : LB (hp []) μ b) : False := by obtain ⟨id, L, h1, _⟩ := h; simp [hp, Ob.live] at h1
theorem Pl.bare {ro : Ro} {μ : Mu} {w : World} {H : Hp} {π : Pool} (h : Pl ro μ w H π) : Pl ro muN w (hp []) π := ⟨h.nd, h.cell, fun q hq hl => noLB hl, h.dark⟩
section
variable {P : Program} {B : Lim} {m : Nat} {ops : Array Oper} {o : Oper} {l : List Oper} {n : Nat} {e : En} {σ : List Ob} {π π' : Pool} {A C : Code} {Q : Ex → St × Pool → Prop} {R : St × Pool → Prop} {s s1 : St} {v : AV} {d : Option Tmp} {dd : Tmp} {ty : TypeId}
theorem RelP.called (hB : ¬ B.ro) {ro0 : Ro} {μ0 : Mu} {w0 : World} {H0 : Hp} {ro ro' : Ro} {μ : Mu} {w w' : World} {a : Act} {r : AV} {v : Value} (h : RelP B m ro0 μ0 w0 H0 ro μ w (s, π) a) (hf : flat r = true)
  (hv : VR ro' muN r v) (g : Good ro' muN w' (hp [])) (x : ExtB (fun b => b ∈ π.map Prod.fst) ro muN w (hp []) ro' muN w' (hp [])) (p : Pl ro' muN w' (hp []) π') (ho : ∀ q ∈ π', w.heap.size ≤ q.1 ∨ q.1 ∈ π.map Prod.fst) (d : Option Tmp) :
  RelP B m ro0 μ0 w0 H0 ro' μ w' (⟨putA s.env d r, s.σ⟩, π') (a.put d v) := by
 have far : ∀ b, LB (hp s.σ) μ b → b ∉ π.map Prod.fst := by
  intro b hb hm
  obtain ⟨q, hq, rfl⟩ := List.mem_map.1 hm
  exact h.pl.far q hq hb
 have hsame : ∀ b, LB (hp s.σ) μ b → w'.heap[b]? = w.heap[b]? := fun b hb => x.frame b (h.good.lt hb) noWB (far b hb)
 have own' : ∀ q ∈ π', w.heap.size ≤ q.1 ∨ ∃ q0 ∈ π, q0.1 = q.1 := fun q hq => (ho q hq).imp id fun k => by simpa using k
 refine ⟨⟨g.roOk, fun id => ?_, h.good.apart, fun b hb a ha => ?_, fun a v k => x.roUp a v (h.good.base a v k)⟩, VRs_put (h.env.mono x.roUp (fun _ _ k => k)) (flat_mv hf hv) d, h.dom, by rw [put_defers']; exact h.defers, ?_, h.keep, h.hm, ⟨p.nd, p.cell, fun q hq hl => ?_, p.dark⟩, fun q hq => ?_, h.bare⟩
 ·by_cases hl : (hp s.σ id).live = true
  ·exact (h.good.ob id).keep x.roUp (fun _ _ k => k) rfl (fun L hL => hsame _ ⟨id, L, hl, hL, rfl⟩)
  ·have : hp s.σ id = .dead := by cases e : hp s.σ id <;> simp [e, Ob.live] at hl ⊢
   simp only [this]; trivial
 ·cases k : ro' a with
  | none => rfl
  | some v =>
   rcases x.roNew a v k with q | q | q
   ·rw [h.good.roApart b hb a ha] at q; cases q
   ·have := h.good.lt hb.lb; rw [ha] at q; omega
   ·exact (noWB q).elim
 ·exact h.ext.trans (B' := fun b => b ∈ π.map Prod.fst) ⟨x.roUp, fun a v k => (x.roNew a v k).imp id fun k => k.imp id fun q => (noWB q).elim, fun _ k => .inr k, fun _ k => .inr k, fun b h1 _ h3 => x.frame b h1 noWB h3, x.size, x.os, x.tape, x.output⟩
   (fun b hb => by obtain ⟨q, hq, rfl⟩ := List.mem_map.1 hb; exact (h.own q hq).resolve_left hB)
 ·rcases own' q hq with k | ⟨q0, k1, k2⟩
  ·have := h.good.lt hl; omega
  ·exact h.pl.far q0 k1 (k2 ▸ hl)
 ·rcases own' q hq with k | ⟨q0, k1, k2⟩
  ·exact .inr (.inl (Nat.le_trans h.ext.size k))
  ·exact k2 ▸ h.own q0 k1
theorem pcQ {c : Call} {fo : Operand} {f : FuncId} {args : List AV} {r : AV} {g af pos} (hc : CallP P f args π r π') (hw : Wanted ops n e ⟨some dd, .call c, ty, pos, af, g⟩ true) (hargs : lqs n e c.args.toList = some args) (hcal : c.callee = .value fo)
  (hfo : lq n e fo = some (.fn (.func f) [] [])) (hcb : callable P f = true) (hfl : flats args = true) (hfr : flat r = true) (hB : ¬ B.ro) (k : SOp P B m ops l (⟨mk n ((dd, r) :: e), σ⟩, π') R) : SOp P B m ops (⟨some dd, .call c, ty, pos, af, g⟩ :: l) (⟨mk n e, σ⟩, π) R := by
 intro ro0 μ0 w0 H0 ro μ w a Z hr hQ
 unfold wpList
 rw [wants_sound hr.env hw, if_pos rfl]
 refine .inl ?_
 have hf := opd_sound hr.env (lo_opd (lq_lo hfo))
 obtain ⟨vs, us, ef, h1, h2⟩ := VR_fn hf
 have ev : vs = #[] := by have := h1.size; simpa using this
 have eu : us = #[] := by have := h2.size; simpa using this
 subst ev; subst eu
 have hs := opds_sound hr.env (los_opds (lqs_los hargs))
 have e0 : (c.args.toList.map a.eval).toArray = c.args.map a.eval := Array.ext' (by simp)
 rw [e0] at hs
 have hrun : (execOp a.eval ⟨some dd, .call c, ty, pos, af, g⟩).run P w = .ok (.enter f (c.args.map a.eval)) w := by
  unfold callable at hcb
  split at hcb
  ·rename_i fn hfn
   simp only [Bool.and_eq_true, bne_iff_ne, ne_eq] at hcb
   have hbody : fn.body.isNone = false := by simpa using hcb.2
   simp only [execOp, resolve, hcal, ef, Deferred.ofValue, pure_bind, invoke, callFunc, Sem.run_bind, run_program, Result.andThen_ok, hfn, beq_iff_eq, hcb.1, if_false, hbody, Bool.false_eq_true, Sem.run_pure, Array.append_empty, Array.empty_append]
  ·cases hcb
 unfold Oper.wp
 rw [hrun]
 simp only [Oper.upon]
 refine (hc ro w _ hr.good.bare (flats_mv hfl hs) hr.pl.bare).mono ?_
 rintro e w' ⟨v, ro', rfl, k1, k2, k3, k4, k5⟩
 have := hr.called hB hfr k1 k2 k3 k4 k5 (some dd)
 simp only [put_mk] at this
 exact k ro0 μ0 w0 H0 ro' μ w' _ Z this hQ
def FinP (P : Program) (fn : Func) (r : AV) (π' : Pool) (e : Ex) (s : St × Pool) : Prop := (e = .normal ∨ e = .ret) ∧ (∃ rs, resultsOf P s.1 fn.results.toList = some rs ∧ oneOr rs = r ∧ s.1.σ = []) ∧ s.2 = π'
theorem CallP.of {f : FuncId} {args : List AV} {r : AV} {fn : Func} {c : Code} (hfn : P.funcs[f]? = some fn) (hbody : fn.body = some c) (hfr : flat r = true)
  (h : SCp P ⟨fun b => b ∈ π.map Prod.fst, False⟩ 0 c (⟨args ++ List.replicate (fn.ntmps - args.length) (.tuple []), []⟩, π) (FinP P fn r π')) : CallP P f args π r π' := by
 intro ro w cargs g ha hpl0
 let a0 : Act := { tmps := cargs ++ Array.replicate (fn.ntmps - cargs.size) undef, defers := [] }
 have hrel : RelP ⟨fun b => b ∈ π.map Prod.fst, False⟩ 0 ro muN w (hp []) ro muN w (⟨args ++ List.replicate (fn.ntmps - args.length) (.tuple []), []⟩, π) a0 := by
  refine ⟨g, ?_, fun id L h => (by cases h), rfl, .of (Ext.refl _ _ _ _).to0, fun _ _ => rfl, Nat.le_refl _, hpl0, fun q hq => .inr (.inr (List.mem_map.2 ⟨q, hq, rfl⟩)), fun b h => noWB h⟩
  have e : fn.ntmps - args.length = fn.ntmps - cargs.size := by rw [ha.size]
  refine VRs_append ha ⟨by simp [e], fun i x v hx hv => ?_⟩
  rw [List.getElem?_replicate] at hx
  rw [Array.getElem?_replicate] at hv
  split at hx
  ·split at hv
   ·simp only [Option.some.injEq] at hx hv
    subst hx; subst hv
    exact .tuple [] #[] rfl (fun i x v hx => by simp at hx)
   ·cases hv
  ·cases hx
 refine calls_of_wp hfn hbody (h ro muN w (hp []) ro muN w a0 _ hrel fun e s' a' w' hq he => ?_)
 obtain ⟨he1, ⟨rs, h1, rfl, h3⟩, rfl⟩ := hq
 obtain ⟨ro', μ', hr⟩ := he
 obtain ⟨v, k1, k2⟩ := results_run hr.good hr.env h1
 have hμ : μ' = muN := by
  funext i
  cases hm : μ' i with
  | none => rfl
  | some L => have := hr.dom i L hm; rw [h3] at this; simp at this
 have fin : a'.defers = [] ∧ ∃ v, (results fn a'.tmps).run P w' = .ok v w' ∧ (∃ u ro', Ending.returned v = .returned u ∧ VR ro' muN (oneOr rs) u ∧ Good ro' muN w' (hp []) ∧ ExtB (fun b => b ∈ π.map Prod.fst) ro muN w (hp []) ro' muN w' (hp []) ∧ Pl ro' muN w' (hp []) s'.2 ∧ (∀ q ∈ s'.2, w.heap.size ≤ q.1 ∨ q.1 ∈ π.map Prod.fst)) := by
  have hg := hr.good
  have hx := hr.ext
  have hpl := hr.pl
  rw [h3, hμ] at hg hx hpl
  exact ⟨hr.defers, v, k1, v, ro', rfl, hμ ▸ k2, hg, hx, hpl, fun q hq => (hr.own q hq).resolve_left id⟩
 rcases he1 with rfl | rfl
 ·exact fin
 ·exact fin
end
section
variable {P : Program} {B : Lim} {m : Nat} {ops : Array Oper} {o : Oper} {l : List Oper} {n : Nat} {e : En} {σ : List Ob} {π π' : Pool} {A C : Code} {Q : Ex → St × Pool → Prop} {R : St × Pool → Prop} {s s1 s' : St} {v : AV} {d : Option Tmp} {dd : Tmp} {ty : TypeId} {sp : St × Pool}
theorem CallP.inj {f b : Nat} {args : List AV} {r x x' : AV} {cs cs' : List D} {rest : List Ob} (hc : CallAt P f (.ref 0 0 0 :: args) [.box x] r (.box x' :: rest)) (hx : x.cells = cs.map .d) (hx' : x'.cells = cs'.map .d) (hm : (b, cs) ∈ π) (hfl : flats args = true) (hfr : flat r = true)
  (hπ : π.map (fun q => if q.1 = b then (b, cs') else q) = π') : CallP P f (.d (.adr b) :: args) π r π' := by
 subst hπ
 intro ro w cargs g ha hp
 let L : Loc := ⟨b, 0, 0, 0⟩
 let μ1 : Mu := fun id => if id = 0 then some L else none
 have m1 : ∀ id L', μ1 id = some L' → id = 0 ∧ L' = L := by
  intro id L' h
  simp only [μ1] at h
  split at h
  ·rename_i e; exact ⟨e, (Option.some.inj h).symm⟩
  ·cases h
 obtain ⟨C0, T0, fz0, e0, u0, z0, c0⟩ := hp.cell _ hm
 simp only at e0 z0 c0
 have b1 : ∀ (y : AV) b', WB (Lv.hp [Ob.box y]) μ1 b' → b' = b := by
  rintro y b' ⟨id, L', h1, h2, h3⟩
  obtain ⟨rfl, rfl⟩ := m1 _ _ h2
  exact h3.symm
 have l1 : ∀ (y : AV) b', LB (Lv.hp [Ob.box y]) μ1 b' → b' = b := by
  rintro y b' ⟨id, L', h1, h2, h3⟩
  obtain ⟨rfl, rfl⟩ := m1 _ _ h2
  exact h3.symm
 have g1 : Good ro μ1 w (Lv.hp [Ob.box x]) := by
  refine ⟨g.roOk, fun id => ?_, fun id id' L1 L2 h1 h2 h3 h4 h5 => ?_, fun b' hb a ha => ?_, g.base⟩
  ·cases id with
   | zero =>
    rw [hp_some (σ := [Ob.box x]) (id := 0) rfl]
    intro L' hL'
    obtain ⟨_, rfl⟩ := m1 _ _ hL'
    refine ⟨C0, T0, fz0, rfl, e0, u0, ⟨by rw [hx, z0]; simp, fun i y v hy hv => ?_⟩⟩
    rw [hx, List.getElem?_map, Option.map_eq_some_iff] at hy
    obtain ⟨c, hc, rfl⟩ := hy
    exact .d c v (c0 i c v hc hv)
   | succ k => rw [hp_out (by simp)]; trivial
  ·rw [(m1 _ _ h3).1, (m1 _ _ h4).1]
  ·rw [b1 x b' hb] at ha
   exact hp.dark _ hm a ha
 have hV : VRs ro μ1 (.ref 0 0 0 :: args) cargs := by
  refine ⟨ha.size, fun i y v hy hv => ?_⟩
  cases i with
  | zero =>
   simp only [List.getElem?_cons_zero, Option.some.injEq] at hy
   subst hy
   have := ha.get 0 _ v rfl hv
   cases this with
   | d _ _ h => cases h; exact .ref 0 0 0 L rfl
  | succ i => exact flat_mv (List.all_eq_true.1 hfl y (List.mem_of_getElem? (by simpa using hy))) (ha.get (i + 1) y v (by simpa using hy) hv)
 refine (hc ro μ1 w cargs g1 (fun id L' h => by rw [(m1 _ _ h).1]; simp) hV).mono ?_
 rintro e w' ⟨v, ro', μ', rfl, k1, k2, k3, k4, k5⟩
 have hμ0 : μ' 0 = some L := (k5 0 (by simp)).trans rfl
 have wb' : WB (Lv.hp (Ob.box x' :: rest)) μ' b := ⟨0, L, by rw [hp_some (σ := Ob.box x' :: rest) (id := 0) rfl]; rfl, hμ0, rfl⟩
 have hob := k2.ob 0
 rw [hp_some (σ := Ob.box x' :: rest) (id := 0) rfl] at hob
 obtain ⟨C1, T1, fz1, _, e1, u1, c1⟩ := hob L hμ0
 have hw0 : WB (Lv.hp [Ob.box x]) μ1 b := ⟨0, L, by rw [hp_some (σ := [Ob.box x]) (id := 0) rfl]; rfl, rfl, rfl⟩
 have roN : ∀ a v, ro' a = some v → ro a = some v ∨ w.heap.size ≤ a.block := by
  intro a v h
  rcases k3.roNew a v h with q | q | q
  ·exact .inl q
  ·exact .inr q
  ·rw [k2.roApart b wb' a (b1 x _ q)] at h; cases h
 refine ⟨v, ro', rfl, flat_mv hfr k1, k2.bare, ⟨k3.roUp, fun a v h => (roN a v h).imp id .inl, fun b' h => (noWB h).elim, fun b' h => (noLB h).elim, fun b' h1 _ h3 => k3.frame b' h1 fun q => h3 (b1 x _ q ▸ List.mem_map.2 ⟨_, hm, rfl⟩), k3.size, k3.os, k3.tape, k3.output⟩, ⟨?_, fun q hq => ?_, fun q hq hl => (noLB hl).elim, fun q hq a hq' => ?_⟩, fun q hq => ?_⟩
 ·have : (π.map (fun q => if q.1 = b then (b, cs') else q)).map Prod.fst = π.map Prod.fst := by
   rw [List.map_map]
   refine List.map_congr_left fun q _ => ?_
   simp only [Function.comp_apply]
   split
   ·rename_i h; exact h.symm
   ·rfl
  rw [this]; exact hp.nd
 ·obtain ⟨q0, h0, rfl⟩ := List.mem_map.1 hq
  by_cases hb : q0.1 = b
  ·rw [if_pos hb]
   refine ⟨C1, T1, fz1, e1, u1, by rw [c1.size, hx']; simp, fun j c v hc hv => ?_⟩
   have := c1.get j (.d c) v (by rw [hx', List.getElem?_map]; simp only at hc; rw [hc]; rfl) hv
   cases this; assumption
  ·rw [if_neg hb]
   obtain ⟨C, T, fz, q1, q2, q3, q4⟩ := hp.cell q0 h0
   exact ⟨C, T, fz, (k3.frame _ (hp.lt h0) (fun q => hb (b1 x _ q))).trans q1, q2, q3, fun j c v hc hv => (q4 j c v hc hv).mono k3.roUp⟩
 ·obtain ⟨q0, h0, rfl⟩ := List.mem_map.1 hq
  by_cases hb : q0.1 = b
  ·rw [if_pos hb] at hq'
   exact k2.roApart b wb' a hq'
  ·rw [if_neg hb] at hq'
   cases h : ro' a with
   | none => rfl
   | some v =>
    rcases roN a v h with q | q
    ·rw [hp.dark q0 h0 a hq'] at q; cases q
    ·have := hp.lt h0; rw [hq'] at q; omega
 ·obtain ⟨q0, h0, rfl⟩ := List.mem_map.1 hq
  right
  refine List.mem_map.2 ⟨q0, h0, ?_⟩
  split
  ·rename_i h; exact h
  ·rfl
theorem CallAt.frzB {f : FuncId} {args : List AV} {o0 : Ob} {σt σ1 σ2 : List Ob} {r x : AV} {y : D} (h : CallAt P f (.ref 0 0 0 :: args) (o0 :: σt) r σ1) (hb : σ1[0]? = some (.box (.agg [x]))) (k : Lv.frz σ1 x = some (y, σ2)) (hb2 : σ2[0]? = some (.box (.agg [x]))) :
  CallAt P f (.ref 0 0 0 :: args) (o0 :: σt) r (σ2.set 0 (.box (.d (.agg [y])))) := by
 intro ro μ w cargs g hdom hV
 refine (h ro μ w cargs g hdom hV).mono ?_
 rintro e w' ⟨v, ro', μ', he, hv, g', e', d', q'⟩
 have hc : cargs.size = args.length + 1 := by simpa using hV.size
 obtain ⟨L, hL, _⟩ := VR_ref (hV.get 0 _ (cargs[0]'(by omega)) rfl (Array.getElem?_eq_getElem (by omega)))
 have hL' : μ' 0 = some L := (q' 0 (by simp)).trans hL
 have hob := g'.ob 0
 rw [hp_some hb] at hob
 obtain ⟨C, T, fz, h0, h1, h2, h3⟩ := hob L hL'
 have hsz : C.size = 1 := h3.size
 have hx := h3.get 0 x (C[0]'(by omega)) rfl (Array.getElem?_eq_getElem (by omega))
 obtain ⟨ro2, g2, e2, hd, _, hl⟩ := frz_sound g' hx k
 have hlt : 0 < σ2.length := lt_of_get hb2
 have heq : Lv.hp (σ2.set 0 (.box (.d (.agg [y])))) = upd (Lv.hp σ2) 0 (.box (.d (.agg [y]))) := hp_set hlt
 have hwr : ∀ i, (upd (Lv.hp σ2) 0 (.box (.d (.agg [y]))) i).wr = (Lv.hp σ2 i).wr := by
  intro i; unfold upd; split
  ·rename_i q; subst q; rw [hp_some hb2]; rfl
  ·rfl
 have hlv : ∀ i, (upd (Lv.hp σ2) 0 (.box (.d (.agg [y]))) i).live = (Lv.hp σ2 i).live := by
  intro i; unfold upd; split
  ·rename_i q; subst q; rw [hp_some hb2]; rfl
  ·rfl
 have hWB : ∀ b, WB (upd (Lv.hp σ2) 0 (.box (.d (.agg [y])))) μ' b → WB (Lv.hp σ2) μ' b := by
  rintro b ⟨i, L, h1, h2, h3⟩; exact ⟨i, L, by rw [← hwr]; exact h1, h2, h3⟩
 have hLB : ∀ b, LB (upd (Lv.hp σ2) 0 (.box (.d (.agg [y])))) μ' b → LB (Lv.hp σ2) μ' b := by
  rintro b ⟨i, L, h1, h2, h3⟩; exact ⟨i, L, by rw [← hlv]; exact h1, h2, h3⟩
 refine ⟨v, ro2, μ', he, hv.mono e2.roUp (fun _ _ h => h), ?_, ?_, fun id L hL => by rw [List.length_set, hl]; exact d' id L hL, q'⟩
 ·rw [heq]
  refine ⟨g2.roOk, fun i => ?_, fun i i' L L' h1 h2 h3 h4 h5 => g2.apart i i' L L' (by rw [← hwr]; exact h1) (by rw [← hlv]; exact h2) h3 h4 h5, fun b hb => g2.roApart b (hWB b hb), g2.base⟩
  unfold upd
  split
  ·rename_i q; subst q
   intro L1 hL1
   rw [hL'] at hL1
   cases hL1
   refine ⟨C, T, fz, h0, h1, h2, ⟨by rw [hsz]; rfl, fun j z u hz hu => ?_⟩⟩
   cases j with
   | zero =>
    have hz' : AV.d y = z := by simpa [AV.cells] using hz
    have hu' : C[0]'(by omega) = u := by rw [Array.getElem?_eq_getElem (by omega)] at hu; exact Option.some.inj hu
    subst hz'; subst hu'
    exact .d _ _ hd
   | succ j => simp [AV.cells] at hz
  ·exact g2.ob i
 ·have x3 := e'.trans e2.to0
  rw [heq]
  exact ⟨x3.roUp, x3.roNew, fun b hb => x3.wbNew b (hWB b hb), fun b hb => x3.lbNew b (hLB b hb), x3.frame, x3.size, x3.os, x3.tape, x3.output⟩
def Sqp (P : Program) (B : Lim) (m : Nat) (C : Code) (Q : Ex → St × Pool → Prop) (e : Ex) (s : St × Pool) : Prop := match e with
 | .normal => SCp P B m C s Q
 | e => Q e s
theorem sqp (h : SCp P B m A sp (Sqp P B m C Q)) : SCp P B m (.seq A C) sp Q := SCp.seq (h.mono fun e s q => by cases e <;> exact q)
theorem skp (h : SCp P B m C sp Q) : SCp P B m .skip sp (Sqp P B m C Q) := SCp.skip h
theorem srp {id : Nat} (h : SO P m ops ops.toList s (fun s' => SCp P B m C (s', π) Q)) : SCp P B m (.seq (.region id ops false) C) (s, π) Q := SCp.seq (SCp.region h)
theorem snp (h : SCp P B m C (s, π) Q) : SO P m ops [] s (fun s' => SCp P B m C (s', π) Q) := SO.nil h
theorem sdp {id : Nat} (hok : textOk P ops = true) (h : ST P ops ops.toList s [] (fun s' t => unorderedOk ops t = true ∧ SCp P B m C (s', π) Q)) : SCp P B m (.seq (.region id ops true) C) (s, π) Q := sqp (SCp.draws hok h)
theorem tnp {acc : List (List Nat × Bool)} (h1 : unorderedOk ops acc.reverse = true) (h : SCp P B m C (s, π) Q) : ST P ops [] s acc (fun s' t => unorderedOk ops t = true ∧ SCp P B m C (s', π) Q) := ST.nil ⟨h1, h⟩
theorem srQ {id : Nat} (h : SOp P B m ops ops.toList sp (fun s' => SCp P B m C s' Q)) : SCp P B m (.seq (.region id ops false) C) sp Q := SCp.seq (SCp.regionQ h)
def StC (P : Program) (π : Pool) (l : List Oper) (s : St) (K : St → Prop) : Prop := ∃ s', Stl P π l s s' ∧ K s'
theorem StC.nil {K : St → Prop} (h : K s) : StC P π [] s K := ⟨s, .nil s, h⟩
theorem yq {op : Op} {pos af} {K : St → Prop} (h : Yl P n e σ op v σ) (hk : stK op = true) (k : StC P π l ⟨mk n ((dd, v) :: e), σ⟩ K) : StC P π (⟨some dd, op, ty, pos, af, none⟩ :: l) ⟨mk n e, σ⟩ K :=
 let ⟨s', h1, h2⟩ := k; ⟨s', yQ hk h h1, h2⟩
theorem zq {op : Op} {pos af} {K : St → Prop} (h : StOp P ⟨mk n e, σ⟩ π ⟨some dd, op, ty, pos, af, none⟩ v) (k : StC P π l ⟨mk n ((dd, v) :: e), σ⟩ K) : StC P π (⟨some dd, op, ty, pos, af, none⟩ :: l) ⟨mk n e, σ⟩ K :=
 let ⟨s', h1, h2⟩ := k; ⟨s', zQ h h1, h2⟩
theorem drQ {id : Nat} (k : Nat) (hm : P.follows .mixedOrders = true) (hB : Region.lexTailB .any ops k = true) (h : StC P π (ops.toList.take k) s (fun s1 => SOp P B m ops (ops.toList.drop k) (s1, π) (fun s' => Q .normal s'))) : SCp P B m (.region id ops true) (s, π) Q :=
 let ⟨s1, h1, h2⟩ := h; SCp.drawQ k hm hB h1 h2
theorem sdQ {id : Nat} (k : Nat) (hm : P.follows .mixedOrders = true) (hB : Region.lexTailB .any ops k = true) (h : StC P π (ops.toList.take k) s (fun s1 => SOp P B m ops (ops.toList.drop k) (s1, π) (fun s' => SCp P B m C s' Q))) : SCp P B m (.seq (.region id ops true) C) (s, π) Q := SCp.seq (drQ k hm hB h)
theorem cBp {β : Type} {w1 w2 z : β} {b : Bool} {c : Operand} (h : (bif b then w1 else w2) = z) (hc : lq n e c = some (.d (.bool b))) (h1 : w1 = z → SCp P B m A (⟨mk n e, σ⟩, π) Q) (h2 : w2 = z → SCp P B m C (⟨mk n e, σ⟩, π) Q) : SCp P B m (.cond c A C) (⟨mk n e, σ⟩, π) Q :=
 SCp.cond (lo_opd (lq_lo hc)) (fun hb => h1 (ct hb h)) (fun hb => h2 (cf hb h))
theorem spp {β : Type} {w1 w2 z : β} {b : Bool} (h : (bif b then w1 else w2) = z) (ht : w1 = z → SOp P B m ops l (⟨mk n ((dd, .d (.bool true)) :: e), σ⟩, π) R) (hf : w2 = z → SOp P B m ops l (⟨mk n ((dd, .d (.bool false)) :: e), σ⟩, π) R) : SOp P B m ops l (⟨mk n ((dd, .d (.bool b)) :: e), σ⟩, π) R := by
 cases b with
 | true => exact ht h
 | false => exact hf h
theorem lfp {Y E : Type} {S : Y → St × Pool} {y : Y} (h : Wk m s (S y).1) (hp : π = (S y).2) : ∃ y', (Sum.inl y : Y ⊕ E) = .inl y' ∧ WkP B m (s, π) (S y') := ⟨y, rfl, WkP.of h hp⟩
theorem finRp {fn : Func} {r : AV} {rs : List AV} (hk : Wk m s ⟨mk n e, []⟩) (hr : LRes P n e [] fn.results.toList rs) (ho : oneOr rs = r) (hp : π = π') : ∃ s1, WkP B m (s, π) s1 ∧ FinP P fn r π' .ret s1 := ⟨(⟨mk n e, []⟩, π), WkP.of hk rfl, .inr rfl, ⟨rs, hr.res, ho, rfl⟩, hp⟩
theorem fnp {f : FuncId} {args : List AV} {r : AV} {fn : Func} {c : Code} (ι : List Nat) (hfn : P.funcs[f]? = some fn) (hbody : fn.body = some c) (hn : fn.ntmps = n) (hz : zipq ι args = some e) (he : enum 0 args = e) (hl : Nat.ble args.length n = true) (hfr : flat r = true)
  (h : SCp P ⟨fun b => b ∈ π.map Prod.fst, False⟩ 0 c (⟨mk n e, []⟩, π) (fun e s => ∃ s1, WkP ⟨fun b => b ∈ π.map Prod.fst, False⟩ 0 s s1 ∧ FinP P fn r π' e s1)) : CallP P f args π r π' := by
 subst hn
 subst he
 exact CallP.of hfn hbody hfr (SCp.post (SCp.wk (sq := (⟨mk fn.ntmps (enum 0 args), []⟩, π)) (WkP.of (Wk.begin (Nat.le_of_ble_eq_true hl)) rfl) h) (fun _ _ h => h))
def offk (k i : Nat) : Option Nat := if i = k then none else some i
theorem toPool {ro0 : Ro} {μ0 : Mu} {w0 : World} {H0 : Hp} {ro : Ro} {μ : Mu} {w : World} {a : Act} {k : Nat} {v : AV} {cs : List D} (hk : σ.length = k) (hos : obsRe (offk k) σ = some σ) (he : eRe (offk k) e = some e) (hv : AWs v.cells (cs.map .d)) (hm : m ≤ k)
  (h : RelP B m ro0 μ0 w0 H0 ro μ w (⟨mk n ((dd, .ref k 0 0) :: e), σ ++ [.box v]⟩, π) a) (hdd : dd < n) : ∃ b μ', b ∉ π.map Prod.fst ∧ RelP B m ro0 μ0 w0 H0 ro μ' w (⟨mk n ((dd, .d (.adr b)) :: e), σ⟩, π ++ [(b, cs)]) a := by
 have ek : (σ ++ [Ob.box v])[k]? = some (.box v) := by rw [← hk]; simp
 have hpk : Lv.hp (σ ++ [Ob.box v]) k = .box v := hp_some ek
 have hpo : ∀ i, i ≠ k → Lv.hp (σ ++ [Ob.box v]) i = Lv.hp σ i := by
  intro i hi
  rcases Nat.lt_or_ge i σ.length with q | q
  ·simp only [Lv.hp, List.getElem?_append_left q]
  ·rw [hp_out q, hp_out (by simp; omega)]
 have hlen : a.tmps.size = n := by rw [h.env.size, mk_length]
 have hd' : @LT.lt Nat instLTNat dd n := hdd
 have hda : @LT.lt Nat instLTNat dd a.tmps.size := by rw [hlen]; exact hd'
 have hv0 := h.env.get dd (.ref k 0 0) (a.tmps[dd]'hda) (by show (mk n ((dd, .ref k 0 0) :: e))[dd]? = _; rw [mk_get hdd]; simp [lk]) (Array.getElem?_eq_getElem hda)
 obtain ⟨L, hL, ev⟩ := VR_ref hv0
 have hob := h.good.ob k
 simp only [hpk] at hob
 obtain ⟨C, T, fz, hb0, hh, hu, hc⟩ := hob L hL
 have ev' : a.tmps[dd]'hda = .pointer (some (cellAt L.blk 0)) := by rw [ev, hb0]; simp
 have hwb : WB (Lv.hp (σ ++ [Ob.box v])) μ L.blk := ⟨k, L, by rw [hpk]; rfl, hL, rfl⟩
 have hnew : L.blk ∉ π.map Prod.fst := by
  intro hq
  obtain ⟨q, h1, h2⟩ := List.mem_map.1 hq
  exact h.pl.far q h1 (h2 ▸ hwb.lb)
 let μ' : Mu := fun i => if i = k then none else μ i
 have hg : ∀ i j, offk k i = some j → μ' j = μ i := by
  intro i j h
  unfold offk at h
  split at h
  ·cases h
  ·rename_i q; cases h; simp only [μ', if_neg q]
 have hK : ∀ j, (Lv.hp σ j).live = true → ∃ i, offk k i = some j ∧ (Lv.hp (σ ++ [Ob.box v]) i).re (offk k) = some (Lv.hp σ j) := by
  intro j hl
  have hj : j < σ.length := by
   rcases Nat.lt_or_ge j σ.length with q | q
   ·exact q
   ·rw [hp_out q] at hl; simp [Ob.live] at hl
  obtain ⟨x, k1, k2⟩ := obsRe_get hos j _ (List.getElem?_eq_getElem hj)
  have : σ[j] = x := by rw [List.getElem?_eq_getElem hj] at k1; exact Option.some.inj k1
  subst this
  refine ⟨j, by unfold offk; rw [if_neg (by omega)], ?_⟩
  rw [hpo j (by omega), hp_some (List.getElem?_eq_getElem hj)]
  exact k2
 have g' : Good ro μ' w (Lv.hp σ) := h.good.re hg hK
 have lb' : ∀ b, LB (Lv.hp σ) μ' b → LB (Lv.hp (σ ++ [Ob.box v])) μ b ∧ b ≠ L.blk := by
  rintro b ⟨i, L1, h1, h2, rfl⟩
  have hik : i ≠ k := by
   rintro rfl
   simp [μ'] at h2
  simp only [μ', if_neg hik] at h2
  have h1' : (Lv.hp (σ ++ [Ob.box v]) i).live = true := by rw [hpo i hik]; exact h1
  refine ⟨⟨i, L1, h1', h2, rfl⟩, fun q => hik (h.good.apart k i L L1 (by rw [hpk]; rfl) h1' hL h2 q.symm).symm⟩
 have wb' : ∀ b, WB (Lv.hp σ) μ' b → WB (Lv.hp (σ ++ [Ob.box v])) μ b := by
  rintro b ⟨i, L1, h1, h2, rfl⟩
  have hik : i ≠ k := by
   rintro rfl
   simp [μ'] at h2
  simp only [μ', if_neg hik] at h2
  exact ⟨i, L1, by rw [hpo i hik]; exact h1, h2, rfl⟩
 refine ⟨L.blk, μ', hnew, g', ⟨by rw [hlen, mk_length], fun j y u hy hu => ?_⟩, fun id L1 h1 => ?_, h.defers, ⟨h.ext.roUp, h.ext.roNew, fun b hb => h.ext.wbNew b (wb' b hb), fun b hb => h.ext.lbNew b (lb' b hb).1, h.ext.frame, h.ext.size, h.ext.os, h.ext.tape, h.ext.output⟩, fun id hid => ?_, by simp only; omega, ⟨?_, fun q hq => ?_, fun q hq hl => ?_, fun q hq => ?_⟩, fun q hq => ?_, h.bare⟩
 ·obtain ⟨hj, rfl⟩ := mk_get' hy
  by_cases hjd : dd = j
  ·subst hjd
   have hu' : a.tmps[dd]'hda = u := by rw [Array.getElem?_eq_getElem hda] at hu; exact Option.some.inj hu
   have : lk ((dd, AV.d (.adr L.blk)) :: e) dd = .d (.adr L.blk) := by simp [lk]
   rw [this, ← hu', ev']
   exact .d _ _ (.adr _)
  ·have e1 : ∀ x, lk ((dd, x) :: e) j = lk e j := by intro x; simp only [lk]; cases hb : Nat.beq dd j with
    | true => exact absurd (Nat.eq_of_beq_eq_true hb) hjd
    | false => rfl
   have hy1 := h.env.get j (lk e j) u (by show (mk n ((dd, .ref k 0 0) :: e))[j]? = _; rw [mk_get hj, e1]) hu
   rw [e1]
   exact VR_re hg hy1 _ (eRe_lk he j)
 ·simp only [μ'] at h1
  split at h1
  ·cases h1
  ·rename_i q
   have := h.dom id L1 h1
   simp at this ⊢; omega
 ·simp only [μ']
  rw [if_neg (by omega)]
  exact h.keep id hid
 ·simp only [List.map_append, List.map_cons, List.map_nil]
  exact List.nodup_append.2 ⟨h.pl.nd, by simp, fun x hx y hy hxy => by simp at hy; subst hy; exact hnew (hxy ▸ hx)⟩
 ·rcases List.mem_append.1 hq with q1 | q1
  ·exact h.pl.cell q q1
  ·simp only [List.mem_singleton] at q1
   subst q1
   have hc' := hv.vrs hc
   refine ⟨C, T, fz, hh, hu, by rw [hc'.size]; simp, fun j c u hc1 hu1 => ?_⟩
   have := hc'.get j (.d c) u (by simp only at hc1; rw [List.getElem?_map, hc1]; rfl) hu1
   cases this; assumption
 ·obtain ⟨q1, q2⟩ := lb' _ hl
  rcases List.mem_append.1 hq with q3 | q3
  ·exact h.pl.far q q3 q1
  ·simp only [List.mem_singleton] at q3
   subst q3; exact q2 rfl
 ·rcases List.mem_append.1 hq with q3 | q3
  ·exact h.pl.dark q q3
  ·simp only [List.mem_singleton] at q3
   subst q3
   exact h.good.roApart _ hwb
 ·rcases List.mem_append.1 hq with q3 | q3
  ·exact h.own q q3
  ·simp only [List.mem_singleton] at q3
   subst q3
   exact .inr (.inl ((h.ext.wbNew _ hwb).resolve_right (h.bare _)))
theorem plQ {k : Nat} {v : AV} {cs : List D} (hk : σ.length = k) (hos : obsRe (offk k) σ = some σ) (he : eRe (offk k) e = some e) (hv : AWs v.cells (cs.map .d)) (hm : Nat.ble m k = true) (hdd : Nat.blt dd n = true)
  (kk : ∀ b, b ∉ π.map Prod.fst → SOp P B m ops l (⟨mk n ((dd, .d (.adr b)) :: e), σ⟩, π ++ [(b, cs)]) R) : SOp P B m ops l (⟨mk n ((dd, .ref k 0 0) :: e), σ ++ [.box v]⟩, π) R := by
 intro ro0 μ0 w0 H0 ro μ w a Z hr hQ
 obtain ⟨b, μ', hb, hr'⟩ := toPool hk hos he hv (Nat.le_of_ble_eq_true hm) hr (Nat.le_of_ble_eq_true hdd)
 exact kk b hb ro0 μ0 w0 H0 ro μ' w a Z hr' hQ
open Classical in
noncomputable def dem {α R : Type} (π : List (Nat × α)) (k : Nat → Option R) : Option R := if h : ∃ r, ∀ b, b ∉ π.map Prod.fst → k b = some r then some h.choose else none
theorem dem_some {α R : Type} {π : List (Nat × α)} {k : Nat → Option R} {r : R} (h : dem π k = some r) : ∀ b, b ∉ π.map Prod.fst → k b = some r := by
 unfold dem at h
 split at h
 ·rename_i hex
  rw [← Option.some.inj h]
  exact hex.choose_spec
 ·cases h
theorem fresh_ex (l : List Nat) : ∃ b, b ∉ l := by
 refine ⟨l.foldl max 0 + 1, fun h => ?_⟩
 have key : ∀ (l : List Nat) (a : Nat), a ≤ l.foldl max a ∧ ∀ x ∈ l, x ≤ l.foldl max a := by
  intro l
  induction l with
  | nil => intro a; exact ⟨Nat.le_refl _, fun x h => by cases h⟩
  | cons y l ih =>
   intro a
   obtain ⟨h1, h2⟩ := ih (max a y)
   refine ⟨by simp only [List.foldl_cons]; omega, fun x hx => ?_⟩
   simp only [List.foldl_cons]
   rcases List.mem_cons.1 hx with rfl | hx
   ·omega
   ·exact h2 x hx
 have := (key l 0).2 _ h
 omega
theorem dem_of {α R : Type} {π : List (Nat × α)} {k : Nat → Option R} {r : R} (h : ∀ b, b ∉ π.map Prod.fst → k b = some r) : dem π k = some r := by
 have hex : ∃ r, ∀ b, b ∉ π.map Prod.fst → k b = some r := ⟨r, h⟩
 obtain ⟨b, hb⟩ := fresh_ex (π.map Prod.fst)
 unfold dem
 rw [dif_pos hex]
 exact (hex.choose_spec b hb).symm.trans (h b hb)
def cps {Y R : Type} (f : (Y → Option R) → Option R) (k : Y → Option R) : Option R := f k
theorem SCp.seqC {Y Z : Type} {f : (Y → Option Z) → Option Z} {k : Y → Option Z} {r : Z} (h : cps f k = some r) (S : Y → St × Pool) (ha : ∀ κ : Y → Option Z, f κ = some r → SCp P B m A sp (fun e s' => match e with | .normal => ∃ y, WkP B m s' (S y) ∧ κ y = some r | e => Q e s')) (hb : ∀ y, k y = some r → SCp P B m C (S y) Q) : SCp P B m (.seq A C) sp Q := by
 refine SCp.seq ((ha k h).mono fun e s' hq => ?_)
 cases e with
 | normal => obtain ⟨y, h1, h2⟩ := hq; exact SCp.wk h1 (hb y h2)
 | ret => exact hq
 | exit i => exact hq
def loopD {Y Z : Type} (G : (Y → Option Z) → Y → Option Z) : Nat → Y → Option Z
 | 0, _ => none
 | n + 1, y => G (loopD G n) y
theorem SCp.loopC {Y Z : Type} {G : (Y → Option Z) → Y → Option Z} {N : Nat} {y0 : Y} {r : Z} (h : loopD G N y0 = some r) (S : Y → St × Pool) (h0 : WkP B m sp (S y0))
  (k : ∀ (ρ : Y → Option Z) y, G ρ y = some r → SCp P B m A (S y) (fun e s' => match e with | .normal => ∃ y', WkP B m s' (S y') ∧ ρ y' = some r | e => Q e s')) : SCp P B m (.loop A) sp Q := by
 refine SCp.loopJ S (fun n y => loopD G n y = some r) N y0 h0 h fun n y hj => ?_
 cases n with
 | zero => cases hj
 | succ n =>
  refine (k _ y hj).mono fun e s' hq => ?_
  cases e with
  | normal => obtain ⟨y', h1, h2⟩ := hq; exact ⟨y', n, by omega, h1, h2⟩
  | ret => exact hq
  | exit i => exact hq
theorem lfc {Y Z : Type} {S : Y → St × Pool} {y : Y} {k : Y → Option Z} {r : Z} (hk : k y = some r) (h : Wk m s (S y).1) (hp : π = (S y).2) : ∃ y, WkP B m (s, π) (S y) ∧ k y = some r := ⟨y, WkP.of h hp, hk⟩
theorem finRr {fn : Func} {r : AV} {rs : List AV} (hk : Wk m s ⟨mk n e, []⟩) (hr : LRes P n e [] fn.results.toList rs) (ho : oneOr rs = r) : ∃ s1 π', WkP B m (s, π) s1 ∧ FinP P fn r π' .ret s1 := ⟨(⟨mk n e, []⟩, π), π, WkP.of hk rfl, .inr rfl, ⟨rs, hr.res, ho, rfl⟩, rfl⟩
theorem fnr {f : FuncId} {args : List AV} {r : AV} {fn : Func} {c : Code} (ι : List Nat) (hfn : P.funcs[f]? = some fn) (hbody : fn.body = some c) (hn : fn.ntmps = n) (hz : zipq ι args = some e) (he : enum 0 args = e) (hl : Nat.ble args.length n = true)
  (h : SCp P ⟨fun _ => False, False⟩ 0 c (⟨mk n e, []⟩, []) (fun e s => ∃ s1 π', WkP ⟨fun _ => False, False⟩ 0 s s1 ∧ FinP P fn r π' e s1)) : CallAt P f args [] r [] := by
 subst hn
 subst he
 have h' : SCp P ⟨fun _ => False, False⟩ 0 c (⟨args ++ List.replicate (fn.ntmps - args.length) (.tuple []), []⟩, []) (fun e s => ∃ π', FinP P fn r π' e s) :=
  SCp.post (SCp.wk (sq := (⟨mk fn.ntmps (enum 0 args), []⟩, [])) (WkP.of (Wk.begin (Nat.le_of_ble_eq_true hl)) rfl) h) (fun _ _ ⟨s1, π', h1, h2⟩ => ⟨s1, h1, π', h2⟩)
 intro ro μ w cargs g hdom ha
 let a0 : Act := { tmps := cargs ++ Array.replicate (fn.ntmps - cargs.size) undef, defers := [] }
 have hrel : RelP ⟨fun _ => False, False⟩ 0 ro μ w (Lv.hp []) ro μ w (⟨args ++ List.replicate (fn.ntmps - args.length) (.tuple []), []⟩, []) a0 := by
  refine ⟨g, ?_, hdom, rfl, .of (Ext.refl _ _ _ _).to0, fun _ _ => rfl, Nat.le_refl _, ⟨List.nodup_nil, fun q hq => (by cases hq), fun q hq => (by cases hq), fun q hq => (by cases hq)⟩, fun q hq => (by cases hq), fun b h => noWB h⟩
  have e : fn.ntmps - args.length = fn.ntmps - cargs.size := by rw [ha.size]
  refine VRs_append ha ⟨by simp [e], fun i x v hx hv => ?_⟩
  rw [List.getElem?_replicate] at hx
  rw [Array.getElem?_replicate] at hv
  split at hx
  ·split at hv
   ·simp only [Option.some.injEq] at hx hv
    subst hx; subst hv
    exact .tuple [] #[] rfl (fun i x v hx => by simp at hx)
   ·cases hv
  ·cases hx
 refine calls_of_wp hfn hbody (h' ro μ w (Lv.hp []) ro μ w a0 _ hrel fun e s' a' w' hq he => ?_)
 obtain ⟨π', he1, ⟨rs, h1, rfl, h3⟩, rfl⟩ := hq
 obtain ⟨ro', μ', hr⟩ := he
 obtain ⟨v, k1, k2⟩ := results_run hr.good hr.env h1
 have hg := hr.good
 have hx := hr.ext
 have hd := hr.dom
 rw [h3] at hg hx hd
 have fin : a'.defers = [] ∧ ∃ v, (results fn a'.tmps).run P w' = .ok v w' ∧ (∃ u ro' μ', Ending.returned v = .returned u ∧ VR ro' μ' (oneOr rs) u ∧ Good ro' μ' w' (Lv.hp []) ∧ Ext0 ro μ w (Lv.hp []) ro' μ' w' (Lv.hp []) ∧ (∀ id L, μ' id = some L → id < ([] : List Ob).length) ∧ (∀ id, id < ([] : List Ob).length → μ' id = μ id)) :=
  ⟨hr.defers, v, k1, v, ro', μ', rfl, k2, hg, hx.to, hd, fun id hid => by simp at hid⟩
 rcases he1 with rfl | rfl
 ·exact fin
 ·exact fin
def pget {α : Type} (π : List (Nat × α)) (b : Nat) : Option α := (π.find? (fun q => q.1 == b)).map (·.2)
def pset {α : Type} (π : List (Nat × α)) (b : Nat) (x : α) : List (Nat × α) := π.map fun q => if q.1 = b then (b, x) else q
def plM {α : Type} (f : α → D) (π : List (Nat × α)) : Pool := π.map fun q => (q.1, [f q.2])
theorem pget_mem {α : Type} {π : List (Nat × α)} {b : Nat} {x : α} (h : pget π b = some x) : (b, x) ∈ π := by
 unfold pget at h
 rw [Option.map_eq_some_iff] at h
 obtain ⟨q, h1, rfl⟩ := h
 have := List.find?_some h1
 simp only [beq_iff_eq] at this
 subst this
 exact List.mem_of_find?_eq_some h1
theorem plM_mem {α : Type} {f : α → D} {π : List (Nat × α)} {b : Nat} {x : α} (h : pget π b = some x) : (b, [f x]) ∈ plM f π := List.mem_map.2 ⟨_, pget_mem h, rfl⟩
theorem plM_set {α : Type} {f : α → D} {π : List (Nat × α)} {b : Nat} {x : α} : (plM f π).map (fun q => if q.1 = b then (b, [f x]) else q) = plM f (pset π b x) := by
 simp only [plM, pset, List.map_map]
 refine List.map_congr_left fun q _ => ?_
 simp only [Function.comp_apply]
 split <;> rfl
theorem plM_app {α : Type} {f : α → D} {π : List (Nat × α)} {b : Nat} {x : α} : plM f (π ++ [(b, x)]) = plM f π ++ [(b, [f x])] := by simp [plM]
theorem plR {α Z : Type} {f : α → D} {pp : List (Nat × α)} {z : α} {kont : Nat → Option Z} {r : Z} {k : Nat} {v : AV} (h : dem pp kont = some r) (hk : σ.length = k) (hos : obsRe (offk k) σ = some σ) (he : eRe (offk k) e = some e) (hv : AWs v.cells [.d (f z)]) (hm : Nat.ble m k = true) (hdd : Nat.blt dd n = true)
  (kk : ∀ b, kont b = some r → SOp P B m ops l (⟨mk n ((dd, .d (.adr b)) :: e), σ⟩, plM f (pp ++ [(b, z)])) R) : SOp P B m ops l (⟨mk n ((dd, .ref k 0 0) :: e), σ ++ [.box v]⟩, plM f pp) R :=
 plQ (cs := [f z]) hk hos he hv hm hdd fun b hb => by
  rw [← plM_app]
  refine kk b (dem_some h b fun hq => hb ?_)
  obtain ⟨q, h1, h2⟩ := List.mem_map.1 hq
  exact List.mem_map.2 ⟨(q.1, [f q.2]), List.mem_map.2 ⟨q, h1, rfl⟩, h2⟩
theorem SOp.wk (h : Wk m s s1) (k : SOp P B m ops l (s1, π) R) : SOp P B m ops l (s, π) R := by
 intro ro0 μ0 w0 H0 ro μ w a Z hr hQ
 obtain ⟨ro1, μ1, h1⟩ := h ro μ w (Lv.hp s.σ) ro μ w a hr.rel
 exact k ro0 μ0 w0 H0 ro1 μ1 w a Z (hr.after h1) hQ
end
end Lv
