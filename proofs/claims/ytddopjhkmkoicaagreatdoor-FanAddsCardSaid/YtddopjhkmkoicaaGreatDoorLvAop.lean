/- One operation. -/
import Derived.Test.YtddopjhkmkoicaaGreatDoorLvOps8
import Derived.Test.YtddopjhkmkoicaaGreatDoorLvCall
/- One operation. -/
namespace Lv
open Go
set_option linter.unusedVariables false
set_option linter.unusedSimpArgs false
set_option linter.unusedSectionVars false
variable [BaseTab]
theorem bT {ro : Ro} {μ : Mu} {env : List AV} {a : Act} (he : VRs ro μ env a.tmps) {x : Operand} {y : AV} (h : mY env x = some y) : VR ro μ y (a.eval x) := by
 unfold mY at h
 split at h
 ·rename_i t
  have hlt : t < a.tmps.size := by rw [he.size]; exact bE h
  refine he.get t y _ h ?_
  simp [Act.eval, Array.getD, hlt]
 ·split at h
  ·rename_i v z hz
   simp only [Option.some.injEq] at h; subst h
   exact NH hz
  ·cases h
 ·simp only [Option.some.injEq] at h; subst h
  exact .fn _ [] [] #[] #[] rfl rfl (fun i x v hx => by simp at hx) (fun i x v hx => by simp at hx)
 ·cases h
theorem je {ro : Ro} {μ : Mu} {env : List AV} {a : Act} (he : VRs ro μ env a.tmps) : ∀ {xs : List Operand} {ys : List AV}, yJ env xs = some ys → VRs ro μ ys (xs.map a.eval).toArray
 | [], ys, h => by simp only [yJ, Option.some.injEq] at h; subst h; exact ⟨rfl, fun i x v hx => by simp at hx⟩
 | x :: xs, ys, h => by
  simp only [yJ] at h
  split at h
  ·rename_i v vs h1 h2
   simp only [Option.some.injEq] at h; subst h
   have ih := je he h2
   refine ⟨by have := ih.size; simp at this ⊢; exact this, fun i y u hy hu => ?_⟩
   cases i with
   | zero => simp at hy hu; subst hy; subst hu; exact bT he h1
   | succ i => exact ih.get i y u (by simpa using hy) (by simpa using hu)
  ·cases h
theorem uQ {ro : Ro} {μ : Mu} {env : List AV} {a : Act} (he : VRs ro μ env a.tmps) : ∀ {xs : List (Nat × Operand)} {ys : List (Nat × AV)}, partsOf env xs = some ys → PRs ro μ ys (xs.map fun p => (p.1, a.eval p.2))
 | [], ys, h => by simp only [partsOf, Option.some.injEq] at h; subst h; exact ⟨rfl, fun k p q hp => by simp at hp, fun k p q hp => by simp at hp⟩
 | (i, x) :: xs, ys, h => by
  simp only [partsOf] at h
  split at h
  ·rename_i v vs h1 h2
   simp only [Option.some.injEq] at h; subst h
   have ih := uQ he h2
   refine ⟨by have := ih.size; simp at this ⊢; exact this, fun k p q hp hq => ?_, fun k p q hp hq => ?_⟩
   ·cases k with
    | zero => simp at hp hq; subst hp; subst hq; rfl
    | succ k => exact ih.fst k p q (by simpa using hp) (by simpa using hq)
   ·cases k with
    | zero => simp at hp hq; subst hp; subst hq; exact bT he h1
    | succ k => exact ih.snd k p q (by simpa using hp) (by simpa using hq)
  ·cases h
theorem tZ {ro : Ro} {μ : Mu} {env : List AV} {a : Act} (he : VRs ro μ env a.tmps) {x : Option Operand} {y : Option AV} (h : vM env x = some y) :
  (∀ z, y = some z → ∃ u, x.map a.eval = some u ∧ VR ro μ z u) ∧ (y = none → x.map a.eval = none) := by
 unfold vM at h
 split at h
 ·simp only [Option.some.injEq] at h; subst h; exact ⟨fun z hz => (by cases hz), fun _ => rfl⟩
 ·split at h
  ·rename_i x v hv
   simp only [Option.some.injEq] at h; subst h
   exact ⟨fun z hz => ⟨_, rfl, by cases hz; exact bT he hv⟩, fun hz => (by cases hz)⟩
  ·cases h
theorem PV {P : Program} {t ty : TypeId} {at_ : Array TypeId} {x r : AV} {ro : Ro} {μ : Mu} {w : World} {v : Value} (h0 : at_[0]? = some t) (hx : VR ro μ x v) (h : D6 P t x = some r) :
  ∃ u, (Builtin.len_ at_ ty #[v]).run P w = .ok u w ∧ VR ro μ r u := by
 unfold D6 at h
 split at h
 ·split at h
  ·rename_i hu
   simp only [Option.some.injEq] at h; subst h
   rcases pz hx with ⟨L, c, a, rfl, _⟩ | ⟨rfl, _, rfl⟩ <;> exact ⟨_, by simp [Builtin.len_, h0, run_underlying hu, goInt], .d _ _ (.int _ _)⟩
  ·cases h
 ·split at h
  ·rename_i hu
   simp only [Option.some.injEq] at h; subst h
   rcases wW hx with ⟨a, cap, g, rfl, _⟩ | ⟨rfl, rfl⟩ <;> exact ⟨_, by simp [Builtin.len_, h0, run_underlying hu, goInt], .d _ _ (.int _ _)⟩
  ·cases h
 ·split at h
  ·rename_i hu
   simp only [Option.some.injEq] at h; subst h
   obtain rfl := fA hx rfl
   exact ⟨_, by simp [Builtin.len_, h0, run_underlying hu, goInt], .d _ _ (.int _ _)⟩
  ·cases h
 ·split at h
  ·rename_i hu
   simp only [Option.some.injEq] at h; subst h
   obtain rfl := fA hx rfl
   exact ⟨_, by simp [Builtin.len_, h0, run_underlying hu, goInt], .d _ _ (.int _ _)⟩
  ·cases h
 ·cases h
theorem QF {ro : Ro} {μ : Mu} {id : Nat} {v : Value} (h : VR ro μ (.qN id) v) : ∃ L, v = .map (some L.blk) ∧ μ id = some L := by
 cases h with
 | qN _ L h => exact ⟨L, rfl, h⟩
theorem NJ {ro : Ro} {μ : Mu} {t : TypeId} {x : AV} {v : Value} (h : VR ro μ (.iface t x) v) : ∃ u, v = .iface t u ∧ VR ro μ x u := by
 cases h with
 | iface _ _ u h => exact ⟨u, rfl, h⟩
theorem MG {P : Program} {t : TypeId} {td : TypeDesc} {a b : AV} {ro : Ro} {μ : Mu} {u v : Value} (hu : P.underlying t = some td) (h : BU td a b = true) (ha : VR ro μ a u) (hb : VR ro μ b v) (op : BinOp) (x y : Operand) (w : World) :
  (eqGuard op t x y u v).run P w = .ok () w ∧ (Op.equal t u v).run P w = .ok false w ∧ (op = .eql → binOp op t u v = (do pure (.bool (← Op.equal t u v)))) ∧ (op = .neq → binOp op t u v = (do pure (.bool (!(← Op.equal t u v))))) := by
 have key : ∀ (u v : Value), (match u, v with | .nilIface, .nilIface => False | .agg _, .agg _ => False | _, _ => True) → (eqGuard op t x y u v).run P w = .ok () w := by
  intro u v huv
  unfold eqGuard
  cases op <;> simp <;> (cases u <;> cases v <;> first | rfl | exact huv.elim)
 unfold BU at h
 split at h
 case h_15 => cases h
 all_goals
  first
   | (obtain rfl := fA ha rfl)
   | (obtain rfl := fA hb rfl)
  first
   | (obtain ⟨L, hL, rfl⟩ := Ea ha)
   | (obtain ⟨L, hL, rfl⟩ := Ea hb)
   | (obtain ⟨b', o', g', rfl, _⟩ := Lc ha)
   | (obtain ⟨b', o', g', rfl, _⟩ := Lc hb)
   | (rcases pz ha with ⟨L, c, a', rfl, _⟩ | ⟨rfl, _, _⟩; rotate_left; exact absurd h (by decide))
   | (rcases pz hb with ⟨L, c, a', rfl, _⟩ | ⟨rfl, _, _⟩; rotate_left; exact absurd h (by decide))
   | (rcases wW ha with ⟨a', c, g', rfl, _⟩ | ⟨rfl, _⟩; rotate_left; exact absurd h (by decide))
   | (rcases wW hb with ⟨a', c, g', rfl, _⟩ | ⟨rfl, _⟩; rotate_left; exact absurd h (by decide))
   | (obtain ⟨vs, us, rfl, _⟩ := NK ha)
   | (obtain ⟨vs, us, rfl, _⟩ := NK hb)
   | (obtain ⟨L, rfl, _⟩ := QF ha)
   | (obtain ⟨L, rfl, _⟩ := QF hb)
   | (obtain ⟨z, rfl, _⟩ := NJ ha)
   | (obtain ⟨z, rfl, _⟩ := NJ hb)
  refine ⟨key _ _ trivial, ?_, fun e => by subst e; rfl, fun e => by subst e; rfl⟩
  refine (?_ : ∀ d, (Op.equalIn (d + 1) t _ _).run P w = .ok false w) 9999
  intro d
  simp only [Op.equalIn, Sem.run_bind, run_underlying hu, Result.andThen_ok, Sem.run_pure, Option.isNone_some, Option.isNone_none]
theorem Lb {P : Program} {op : BinOp} {t : TypeId} {x y : Operand} {a b r : AV} {ro : Ro} {μ : Mu} {u v : Value} (ha : VR ro μ a u) (hb : VR ro μ b v) (h : bC P op t x y a b = some r) (w : World) :
  ∃ z, (do eqGuard op t x y u v; binOp op t u v : Sem Value).run P w = .ok z w ∧ VR ro μ r z := by
 unfold bC at h
 split at h
 ·rename_i u' v' h1 h2
  obtain rfl := fA ha h1
  obtain rfl := fA hb h2
  exact pq h ro μ w
 ·split at h
  ·rename_i td hu
   split at h
   ·rename_i hk
    obtain ⟨k1, k2, k3, k4⟩ := MG hu hk ha hb op x y w
    split at h
    ·simp only [Option.some.injEq] at h; subst h
     refine ⟨.bool false, ?_, .d _ _ (.bool _)⟩
     simp only [Sem.run_bind, k1, Result.andThen_ok, k3 rfl, k2, Sem.run_pure]
    ·simp only [Option.some.injEq] at h; subst h
     refine ⟨.bool true, ?_, .d _ _ (.bool _)⟩
     simp only [Sem.run_bind, k1, Result.andThen_ok, k4 rfl, k2, Sem.run_pure]
     rfl
    ·cases h
   ·cases h
  ·cases h
def Goes (ro : Ro) (μ : Mu) (w : World) (σ : List Ob) (x : AV) (σ' : List Ob) (K : Value → World → Prop) : Prop :=
 ∀ v ro' μ' w', VR ro' μ' x v → Good ro' μ' w' (hp σ') → Ext ro μ w (hp σ) ro' μ' w' (hp σ') → (∀ id, μ' id ≠ μ id → σ.length ≤ id ∧ id < σ'.length) → σ.length ≤ σ'.length → K v w'
theorem iZ {P : Program} {o : Oper} {a : Act} {s : Sem Value} {ro : Ro} {μ : Mu} {w : World} {σ σ' : List Ob} {x : AV} {K : Act → World → Prop} {Q : Exit → Act → World → Prop}
  (he : execOp a.eval o = (do pure (.value (← s)))) (h : Step P s ro μ w σ x σ') (hK : Goes ro μ w σ x σ' (fun v w' => K (a.put o.dst v) w')) : o.wp P a w K Q := by
 obtain ⟨v, ro', μ', w', h1, h2, h3, h4, h5, h6⟩ := h
 unfold Oper.wp
 rw [he]
 simp only [Sem.run_bind, h1, Result.andThen_ok, Sem.run_pure, Oper.upon]
 exact hK v ro' μ' w' h2 h3 h4 h5 h6
theorem Step.len {P : Program} {s : Sem Value} {ro : Ro} {μ : Mu} {w : World} {σ σ' : List Ob} {x : AV} (h : Step P s ro μ w σ x σ') : σ.length ≤ σ'.length := by
 obtain ⟨v, ro', μ', w', h1, h2, h3, h4, h5, h6⟩ := h
 exact h6
theorem oW {μ : Mu} {σ σ' : List Ob} (h : ∀ id, σ.length ≤ id → id < σ'.length → μ id = none) (hl : σ.length < σ'.length) : μ σ.length = none := h _ (Nat.le_refl _) hl
theorem Wi {env : List AV} {c : Call} {a : Act} {ro : Ro} {μ : Mu} (he : VRs ro μ env a.tmps) {x : AV} (h : yJ env c.args.toList = some [x]) : ∃ v, c.args.map a.eval = #[v] ∧ VR ro μ x v := by
 have hs := je he h
 have e : (c.args.toList.map a.eval).toArray = c.args.map a.eval := Array.ext' (by simp)
 rw [e] at hs
 obtain ⟨v, hv⟩ : ∃ v, c.args.map a.eval = #[v] := by
  have := hs.size
  cases hm : c.args.map a.eval with
  | mk l => rw [hm] at this; match l, this with
   | [v], _ => exact ⟨v, rfl⟩
 rw [hv] at hs
 exact ⟨v, hv, hs.get 0 x v rfl rfl⟩
theorem Nv {env : List AV} {c : Call} {a : Act} {ro : Ro} {μ : Mu} (he : VRs ro μ env a.tmps) {x y : AV} (h : yJ env c.args.toList = some [x, y]) : ∃ v u, c.args.map a.eval = #[v, u] ∧ VR ro μ x v ∧ VR ro μ y u := by
 have hs := je he h
 have e : (c.args.toList.map a.eval).toArray = c.args.map a.eval := Array.ext' (by simp)
 rw [e] at hs
 obtain ⟨v, u, hv⟩ : ∃ v u, c.args.map a.eval = #[v, u] := by
  have := hs.size
  cases hm : c.args.map a.eval with
  | mk l => rw [hm] at this; match l, this with
   | [v, u], _ => exact ⟨v, u, rfl⟩
 rw [hv] at hs
 exact ⟨v, u, hv, hs.get 0 x v rfl rfl, hs.get 1 y u rfl rfl⟩
theorem kU {ro : Ro} {μ : Mu} {xs ys : List AV} {vs us : Array Value} (h : VRs ro μ xs vs) (k : VRs ro μ ys us) : VRs ro μ (xs ++ ys) (vs ++ us) := by
 refine ⟨by simp [h.size, k.size], fun i x v hx hv => ?_⟩
 rw [List.getElem?_append] at hx
 rw [Array.getElem?_append, h.size] at hv
 split at hx
 ·rename_i hi
  rw [if_pos hi] at hv
  exact h.get i x v hx hv
 ·rename_i hi
  rw [if_neg hi] at hv
  exact k.get _ x v hx hv
theorem sG {σ σ' : List Ob} {x : AV} {y : D} (h : lX σ x = some (y, σ')) : σ'.length = σ.length := by
 unfold lX at h
 split at h
 ·split at h
  ·cases h
  ·simp only [Option.some.injEq, Prod.mk.injEq] at h; rw [h.2]
 ·split at h
  ·split at h
   ·simp only [Option.some.injEq, Prod.mk.injEq] at h; rw [← h.2]; simp
   ·cases h
  ·cases h
 ·cases h
theorem jD : ∀ {xs : List AV} {σ σ' : List Ob} {ys : List D}, jN σ xs = some (ys, σ') → σ'.length = σ.length
 | [], σ, σ', ys, h => by simp only [jN, Option.some.injEq, Prod.mk.injEq] at h; rw [h.2]
 | x :: xs, σ, σ', ys, h => by
  simp only [jN] at h
  split at h
  ·rename_i y σ1 h1
   split at h
   ·rename_i ys' σ2 h2
    simp only [Option.some.injEq, Prod.mk.injEq] at h
    rw [← h.2, jD h2, sG h1]
   ·cases h
  ·cases h
theorem pV {sz : Nat} : ∀ {ps : List (Nat × AV)} {k : Nat} {σ σ' : List Ob} {ds : List D}, jR σ sz k ps = some (ds, σ') → σ'.length = σ.length
 | [], k, σ, σ', ds, h => by simp only [jR, Option.some.injEq, Prod.mk.injEq] at h; rw [h.2]
 | (i, v) :: ps, k, σ, σ', ds, h => by
  simp only [jR] at h
  split at h
  ·split at h
   ·rename_i y σ1 hy
    split at h
    ·rename_i ys σ2 hys
     simp only [Option.some.injEq, Prod.mk.injEq] at h
     rw [← h.2, pV hys]
     unfold zH at hy
     split at hy
     ·split at hy
      ·rename_i es EK hfz
       simp only [Option.some.injEq, Prod.mk.injEq] at hy
       rw [← hy.2, jD hfz]
      ·cases hy
     ·exact sG hy
    ·cases h
   ·cases h
  ·cases h
theorem FR : ∀ {l : List AV} {us : List Value}, qB l = some us → us.length = l.length ∧ ∀ (i : Nat) (x : AV), l[i]? = some x → x.val = us[i]?
 | [], us, h => by
  simp only [qB, Option.some.injEq] at h
  subst h
  exact ⟨rfl, fun i x hx => by simp at hx⟩
 | y :: l, us, h => by
  simp only [qB] at h
  split at h
  ·rename_i u us' hu hus
   simp only [Option.some.injEq] at h
   subst h
   obtain ⟨h1, h2⟩ := FR hus
   refine ⟨by simp [h1], fun i x hx => ?_⟩
   cases i with
   | zero =>
    simp only [List.getElem?_cons_zero, Option.some.injEq] at hx ⊢
    rw [← hx, hu]
   | succ i => exact h2 i x (by simpa using hx)
  ·cases h
theorem wm {ro : Ro} {μ : Mu} {l : List AV} {us : List Value} {vs : Array Value} (h : qB l = some us) (hv : VRs ro μ l vs) : vs = us.toArray := by
 obtain ⟨h1, h2⟩ := FR h
 apply Array.ext
 ·rw [hv.size]; simp [h1]
 ·intro i hi1 hi2
  have hl : i < l.length := by rw [← hv.size]; exact hi1
  have hu : i < us.length := by omega
  have e := h2 i l[i] (List.getElem?_eq_getElem hl)
  rw [List.getElem?_eq_getElem hu] at e
  have := fA (hv.get i l[i] vs[i] (List.getElem?_eq_getElem hl) (Array.getElem?_eq_getElem hi1)) e
  simpa using this
theorem JF {P : Program} {call : Callee} (hc : A8 P call) {o : Oper} {a : Act} {env : List AV} {σ σ' : List Ob} {x : AV} {ro : Ro} {μ : Mu} {w : World} (h : kH P call env σ o = some (x, σ')) (g : Good ro μ w (hp σ))
  (hfree : ∀ id, σ.length ≤ id → id < σ'.length → μ id = none) (he : VRs ro μ env a.tmps) {K : Act → World → Prop} {Q : Exit → Act → World → Prop} (hK : Goes ro μ w σ x σ' (fun v w' => K (a.put o.dst v) w')) :
  o.wp P a w K Q := by
 have still : ∀ (s : Sem Value), execOp a.eval o = (do pure (.value (← s))) → σ' = σ → (∃ v, s.run P w = .ok v w ∧ VR ro μ x v) → o.wp P a w K Q := by
  intro s hs hσ hv
  subst hσ
  exact iZ hs (Step.still g hv) hK
 unfold kH at h
 split at h
 ·-- move
  rename_i y ho
  split at h
  ·rename_i v hv
   simp only [Option.some.injEq, Prod.mk.injEq] at h
   obtain ⟨rfl, rfl⟩ := h
   exact still (pure (a.eval y)) (by simp [execOp, ho]) rfl ⟨_, rfl, bT he hv⟩
  ·cases h
 ·-- assign
  rename_i y ho
  split at h
  ·rename_i v hv
   simp only [Option.some.injEq, Prod.mk.injEq] at h
   obtain ⟨rfl, rfl⟩ := h
   exact still (pure (a.eval y)) (by simp [execOp, ho]) rfl ⟨_, rfl, bT he hv⟩
  ·cases h
 ·-- pick
  rename_i c y z ho
  split at h
  ·rename_i t hcv
   have ec : a.eval c = .bool t := fA (bT he hcv) rfl
   split at h
   ·rename_i v hv
    simp only [Option.some.injEq, Prod.mk.injEq] at h
    obtain ⟨rfl, rfl⟩ := h
    refine still (pure (if t then a.eval y else a.eval z)) ?_ rfl ⟨_, rfl, ?_⟩
    ·simp [execOp, ho, ec, asBool]
    ·have := bT he hv
     cases t <;> exact this
   ·cases h
  ·cases h
 ·-- alloc
  rename_i t ho
  split at h
  ·rename_i z hz
   simp only [Option.some.injEq, Prod.mk.injEq] at h
   obtain ⟨rfl, rfl⟩ := h
   exact iZ (s := Instr.alloc t true (.tuple #[])) (by simp [execOp, ho]) (Ny g (oW hfree (by simp)) hz) hK
  ·cases h
 ·-- box
  rename_i t y ho
  split at h
  ·cases h
  ·rename_i v hne hv
   simp only [Option.some.injEq, Prod.mk.injEq] at h
   obtain ⟨rfl, rfl⟩ := h
   exact iZ (s := Instr.box t (a.eval y)) (by simp [execOp, ho]) (JE g (oW hfree (by simp)) (bT he hv) hne) hK
  ·cases h
 ·-- build
  rename_i t ps ho
  split at h
  ·rename_i parts hps
   split at h
   ·rename_i v hv
    simp only [Option.some.injEq, Prod.mk.injEq] at h
    obtain ⟨rfl, rfl⟩ := h
    have hp := uQ he hps
    exact still (Instr.build t (ps.map fun (i, x) => (i, a.eval x))) (by simp [execOp, ho]) rfl (La (qs := ps.map fun (i, x) => (i, a.eval x)) (by simpa using hp) hv w)
   ·cases h
  ·cases h
 ·-- buildSlice
  rename_i t len ps ho
  split at h
  ·rename_i parts hps
   have hp := uQ he hps
   have hlen : σ.length < σ'.length := by
    have h' := h
    unfold iX at h'
    split at h'
    ·split at h'
     ·split at h'
      ·split at h'
       ·rename_i ds σ1 hds
        simp only [Option.some.injEq, Prod.mk.injEq] at h'
        obtain ⟨_, rfl⟩ := h'
        have n1 := pV hds
        simp [n1]
       ·cases h'
      ·cases h'
     ·cases h'
    ·cases h'
   exact iZ (s := Instr.buildSlice t len (ps.map fun (i, x) => (i, a.eval x))) (by simp [execOp, ho]) (Cw g (oW hfree hlen) (by simpa using hp) h) hK
  ·cases h
 ·-- load
  rename_i t y ho
  split at h
  ·rename_i v hv
   split at h
   ·rename_i z hz
    simp only [Option.some.injEq, Prod.mk.injEq] at h
    obtain ⟨rfl, rfl⟩ := h
    obtain ⟨u, p, e, k1, k2⟩ := yY g (bT he hv) hz
    exact still (Instr.loadAt t (a.eval y)) (by simp [execOp, ho]) rfl ⟨u, by rw [e]; simp only [Instr.loadAt, Instr.sureAddr, Sem.run_bind, Sem.run_pure, Result.andThen_ok, k1], k2⟩
   ·cases h
  ·cases h
 ·-- store
  rename_i t y z ho
  split at h
  ·rename_i v u hv hu
   split at h
   ·rename_i σ1 hst
    simp only [Option.some.injEq, Prod.mk.injEq] at h
    obtain ⟨rfl, rfl⟩ := h
    obtain ⟨p, w', ro', e, k1, k2, k3, k4⟩ := K3 g (bT he hv) (bT he hu) hst
    unfold Oper.wp
    have : (execOp a.eval o).run P w = .ok .skip w' := by
     simp only [execOp, ho, e, Instr.storeAt, Instr.sureAddr, Sem.run_bind, Sem.run_pure, Result.andThen_ok, k1]
    rw [this]
    exact hK undef ro' μ w' (.tuple [] #[] rfl (fun i x v hx => by simp at hx)) k2 k3 (fun id h => absurd rfl h) (by omega)
   ·cases h
  ·cases h
 ·-- nilCheck
  rename_i y ho
  split at h
  ·rename_i id idx off hv
   simp only [Option.some.injEq, Prod.mk.injEq] at h
   obtain ⟨rfl, rfl⟩ := h
   have hv' := bT he hv
   obtain ⟨L, hL, e⟩ := Ea hv'
   refine still (pure (a.eval y)) ?_ rfl ⟨_, rfl, hv'⟩
   simp [execOp, ho, e]
  ·rename_i cs hv
   simp only [Option.some.injEq, Prod.mk.injEq] at h
   obtain ⟨rfl, rfl⟩ := h
   have hv' := bT he hv
   obtain ⟨b, o', g', e, _⟩ := Lc hv'
   refine still (pure (a.eval y)) ?_ rfl ⟨_, rfl, hv'⟩
   simp [execOp, ho, e]
  ·cases h
 ·-- binOp
  rename_i op t y z yt ho
  split at h
  ·rename_i u v hu hv
   split at h
   ·rename_i r hr
    simp only [Option.some.injEq, Prod.mk.injEq] at h
    obtain ⟨rfl, rfl⟩ := h
    exact still (do eqGuard op t y z (a.eval y) (a.eval z); binOp op t (a.eval y) (a.eval z)) (by simp [execOp, ho]) rfl (Lb (bT he hu) (bT he hv) hr w)
   ·cases h
  ·cases h
 ·-- unOp
  rename_i op t y ho
  split at h
  ·rename_i u hu
   split at h
   ·rename_i v hv
    split at h
    ·rename_i r hr
     simp only [Option.some.injEq, Prod.mk.injEq] at h
     obtain ⟨rfl, rfl⟩ := h
     have e := fA (bT he hu) hv
     exact still (Op.unary op (a.eval y)) (by simp [execOp, ho]) rfl (by rw [e]; exact pq hr ro μ w)
    ·cases h
   ·cases h
  ·cases h
 ·-- convert
  rename_i s d y ho
  split at h
  ·rename_i u hu
   exact iZ (s := convert s d (a.eval y)) (by simp [execOp, ho]) (Ig g (oW hfree) (bT he hu) h) hK
  ·cases h
 ·-- fieldAddr
  rename_i t y f ho
  split at h
  ·rename_i u hu
   split at h
   ·rename_i r hr
    simp only [Option.some.injEq, Prod.mk.injEq] at h
    obtain ⟨rfl, rfl⟩ := h
    exact still (Instr.fieldAt t (a.eval y) f) (by simp [execOp, ho]) rfl (D8 (bT he hu) hr w)
   ·cases h
  ·cases h
 ·-- field
  rename_i t y f ho
  split at h
  ·rename_i u hu
   split at h
   ·rename_i r hr
    simp only [Option.some.injEq, Prod.mk.injEq] at h
    obtain ⟨rfl, rfl⟩ := h
    exact still (Instr.field t (a.eval y) f) (by simp [execOp, ho]) rfl (K7 (bT he hu) hr w)
   ·cases h
  ·cases h
 ·-- indexAddr
  rename_i t y z ho
  split at h
  ·rename_i u v hu hv
   split at h
   ·rename_i r hr
    simp only [Option.some.injEq, Prod.mk.injEq] at h
    obtain ⟨rfl, rfl⟩ := h
    exact still (Instr.indexAt t (a.eval y) (a.eval z)) (by simp [execOp, ho]) rfl (D7 (bT he hu) (bT he hv) hr w)
   ·cases h
  ·cases h
 ·-- index
  rename_i t y z ho
  split at h
  ·rename_i u v hu hv
   split at h
   ·rename_i u' v' hu' hv'
    split at h
    ·rename_i r hr
     simp only [Option.some.injEq, Prod.mk.injEq] at h
     obtain ⟨rfl, rfl⟩ := h
     have e1 := fA (bT he hu) hu'
     have e2 := fA (bT he hv) hv'
     exact still (Instr.index t (a.eval y) (a.eval z)) (by simp [execOp, ho]) rfl (by rw [e1, e2]; exact pq hr ro μ w)
    ·cases h
   ·cases h
  ·cases h
 ·-- slice
  rename_i t y lo hi mx ho
  split at h
  ·rename_i u l hh m hu hl hhi hm
   split at h
   ·rename_i r hr
    simp only [Option.some.injEq, Prod.mk.injEq] at h
    obtain ⟨rfl, rfl⟩ := h
    have s1 := tZ he hl
    have s2 := tZ he hhi
    have s3 := tZ he hm
    exact still (Instr.sliceAt t (a.eval y) (lo.map a.eval) (hi.map a.eval) (mx.map a.eval)) (by simp [execOp, ho]) rfl (K4 (bT he hu) s1.1 s1.2 s2.1 s2.2 s3.1 s3.2 hr w)
   ·cases h
  ·cases h
 ·-- makeSlice
  rename_i t l c ho
  split at h
  ·rename_i u v hu hv
   have hlen : σ.length < σ'.length := by
    have h' := h
    unfold iM at h'
    split at h'
    ·split at h'
     ·split at h'
      ·simp only [Option.some.injEq, Prod.mk.injEq] at h'
       rw [← h'.2]; simp
      ·cases h'
     ·cases h'
    ·cases h'
   exact iZ (s := Instr.makeSlice t (a.eval l) (a.eval c)) (by simp [execOp, ho]) (D5 g (oW hfree hlen) (bT he hu) (bT he hv) h) hK
  ·cases h
 ·-- makeMap
  rename_i t r ho
  split at h
  ·rename_i u hu
   have hlen : σ.length < σ'.length := by
    have h' := h
    unfold sU at h'
    split at h'
    ·simp only [Option.some.injEq, Prod.mk.injEq] at h'
     rw [← h'.2]; simp
    ·simp only [Option.some.injEq, Prod.mk.injEq] at h'
     rw [← h'.2]; simp
    ·cases h'
   have s1 := tZ he hu
   exact iZ (s := Instr.makeMap t (r.map a.eval)) (by simp [execOp, ho]) (Ic g (oW hfree hlen) s1.2 s1.1 h) hK
  ·cases h
 ·-- lookup
  rename_i t y z ok ho
  split at h
  ·rename_i u v hu hv
   split at h
   ·rename_i r hr
    simp only [Option.some.injEq, Prod.mk.injEq] at h
    obtain ⟨rfl, rfl⟩ := h
    exact still (Instr.lookup t (a.eval y) (a.eval z) ok) (by simp [execOp, ho]) rfl (Jb g (bT he hu) (bT he hv) hr)
   ·cases h
  ·cases h
 ·-- mapUpdate
  rename_i t y z q ho
  split at h
  ·rename_i u v r hu hv hr
   obtain ⟨w', ro', rfl, k1, k2, k3, k4⟩ := DZ g (bT he hu) (bT he hv) (bT he hr) h
   unfold Oper.wp
   have : (execOp a.eval o).run P w = .ok .skip w' := by
    simp only [execOp, ho, Sem.run_bind, Sem.run_pure, Result.andThen_ok, k1]
   rw [this]
   exact hK undef ro' μ w' (.tuple [] #[] rfl (fun i x v hx => by simp at hx)) k2 k3 (fun id h => absurd rfl h) (by omega)
  ·cases h
 ·-- makeFunc
  rename_i fn first caps ho
  split at h
  ·rename_i xs ys hx hy
   simp only [Option.some.injEq, Prod.mk.injEq] at h
   obtain ⟨rfl, rfl⟩ := h
   have s1 := je he hx
   have s2 := je he hy
   refine still (Instr.makeFunc fn (first.map a.eval) (caps.map a.eval)) (by simp [execOp, ho]) rfl ⟨.func fn (first.map a.eval) (caps.map a.eval), rfl, ?_⟩
   have e1 : (first.toList.map a.eval).toArray = first.map a.eval := Array.ext' (by simp)
   have e2 : (caps.toList.map a.eval).toArray = caps.map a.eval := Array.ext' (by simp)
   rw [e1] at s1
   rw [e2] at s2
   exact .fn fn xs ys _ _ s1.size s2.size s1.get s2.get
  ·cases h
 ·-- extract
  rename_i y i ho
  split at h
  ·rename_i vs hv
   split at h
   ·rename_i v hvi
    simp only [Option.some.injEq, Prod.mk.injEq] at h
    obtain ⟨rfl, rfl⟩ := h
    obtain ⟨us, e, hus⟩ := Ih (bT he hv)
    have hlt : i < us.size := by rw [hus.size]; exact bE hvi
    refine still (Instr.extract (a.eval y) i) (by simp [execOp, ho]) rfl ⟨us[i], ?_, hus.get i v _ hvi (Array.getElem?_eq_getElem hlt)⟩
    rw [e]
    simp [Instr.extract, hlt]
   ·cases h
  ·cases h
 ·-- makeInterface
  rename_i t y ho
  split at h
  ·rename_i v hv
   split at h
   ·cases h
   ·rename_i d hu hni
    simp only [Option.some.injEq, Prod.mk.injEq] at h
    obtain ⟨rfl, rfl⟩ := h
    refine still (Instr.makeInterface t (a.eval y)) (by simp [execOp, ho]) rfl ⟨.iface t (a.eval y), ?_, .iface t v _ (bT he hv)⟩
    simp only [Instr.makeInterface, Sem.run_bind, run_underlying hni, Result.andThen_ok]
    cases d <;> first | rfl | exact absurd rfl (hu _)
   ·cases h
  ·cases h
 ·-- typeAssert
  rename_i y xt t ok ho
  split at h
  ·rename_i t' v hv
   split at h
   ·cases h
   ·rename_i d hu hni
    split at h
    ·rename_i hq
     obtain ⟨rfl, rfl⟩ := hq
     simp only [Option.some.injEq, Prod.mk.injEq] at h
     obtain ⟨rfl, rfl⟩ := h
     have hi := bT he hv
     generalize hy : a.eval y = u at hi
     cases hi with
     | iface _ _ u' hi' =>
      refine still (Instr.typeAssert (a.eval y) xt t' false) (by simp [execOp, ho]) rfl ⟨u', ?_, hi'⟩
      rw [hy]
      simp only [Instr.typeAssert, Sem.run_bind, run_underlying hni, Result.andThen_ok]
      cases d <;> first | (simp; done) | exact absurd rfl (hu _)
    ·cases h
   ·cases h
  ·cases h
 ·-- call
  rename_i c ho
  ·have qz : ∀ (b : Builtin) (s : Sem Value), c.callee = .builtin b → (builtin b c.argTypes o.type (c.args.map fun | .const _ => true | _ => false) (c.args.map a.eval) = (do pure (.value (← s)))) → execOp a.eval o = (do pure (.value (← s))) := by
    intro b s hb hs
    simp only [execOp, ho, resolve, hb, pure_bind, invoke]
    exact hs
   have fin : ∀ args, yJ env c.args.toList = some args → ∀ fv, (∀ f, c.callee = .value f → fv = mY env f) → ow P call σ c args fv = some (x, σ') → o.wp P a w K Q := by
    clear h
    intro args hargs fv hfv h
    unfold ow at h
    split at h
    ·-- len
     rename_i hb
     split at h
     ·rename_i t y ht
      split at h
      ·rename_i r hr
       simp only [Option.some.injEq, Prod.mk.injEq] at h
       obtain ⟨rfl, rfl⟩ := h
       obtain ⟨v, ev, hv⟩ := Wi he hargs
       refine still (Builtin.len_ c.argTypes o.type #[v]) (qz .len _ hb ?_) rfl (PV ht hv hr)
       rw [ev]; rfl
      ·cases h
     ·cases h
    ·-- append
     rename_i hb
     split at h
     ·rename_i t t2 y z ht ht2
      obtain ⟨v, u, ev, hv, hu⟩ := Nv he hargs
      have e : execOp a.eval o = (do pure (.value (← Builtin.append_ c.argTypes o.type #[v, u]))) := qz .append _ hb (by rw [ev]; rfl)
      split at h
      ·cases h
      ·rename_i hq
       exact iZ e (Jc g (oW hfree) ht ht2 (by simpa using hq) hv hu h) hK
     ·cases h
    ·-- copy
     rename_i hb
     split at h
     ·rename_i t y z ht
      obtain ⟨v, u, ev, hv, hu⟩ := Nv he hargs
      have e : execOp a.eval o = (do pure (.value (← Builtin.copy_ c.argTypes o.type #[v, u]))) := qz .copy _ hb (by rw [ev]; rfl)
      exact iZ e (Nz g ht hv hu h) hK
     ·cases h
    ·-- a function
     rename_i fo hb
     split at h
     ·rename_i f first caps
      split at h
      ·rename_i hcl
       have hf := bT he (hfv fo hb).symm
       obtain ⟨vs, us, ef, h1, h2⟩ := NK hf
       have hs := je he hargs
       have e0 : (c.args.toList.map a.eval).toArray = c.args.map a.eval := Array.ext' (by simp)
       rw [e0] at hs
       have hall := kU (kU h1 hs) h2
       obtain ⟨hlen, G9⟩ := wU hc h g hfree hall
       have hrun : (execOp a.eval o).run P w = .ok (.enter f (vs ++ c.args.map a.eval ++ us)) w := by
        unfold callable at hcl
        split at hcl
        ·rename_i fn hfn
         simp only [Bool.and_eq_true, bne_iff_ne, ne_eq] at hcl
         have hbody : fn.body.isNone = false := by simpa using hcl.2
         simp only [execOp, ho, resolve, hb, ef, Deferred.ofValue, pure_bind, invoke, callFunc, Sem.run_bind, run_program, Result.andThen_ok, hfn, beq_iff_eq, hcl.1, if_false, hbody, Bool.false_eq_true, Sem.run_pure]
        ·cases hcl
       unfold Oper.wp
       rw [hrun]
       simp only [Oper.upon]
       refine G9.mono ?_
       rintro e w' ⟨v, ro', μ', rfl, k1, k2, k3, k4⟩
       exact hK v ro' μ' w' k1 k2 k3 k4 hlen
      ·have hf := bT he (hfv fo hb).symm
       obtain ⟨vs, us, ef, h1, h2⟩ := NK hf
       have hs := je he hargs
       have e0 : (c.args.toList.map a.eval).toArray = c.args.map a.eval := Array.ext' (by simp)
       rw [e0] at hs
       have hall := kU (kU h1 hs) h2
       unfold outside at h
       split at h
       ·rename_i ws hws
        have hw := wm hws hall
        split at h
        ·rename_i v hpr
         split at h
         ·rename_i y hy
          simp only [Option.some.injEq, Prod.mk.injEq] at h
          obtain ⟨rfl, rfl⟩ := h
          have hrun : (execOp a.eval o).run P w = .ok (.value v) w := by
           simp only [execOp, ho, resolve, hb, ef, Deferred.ofValue, pure_bind, invoke]
           rw [hw]
           exact Gx hpr w
          unfold Oper.wp
          rw [hrun]
          simp only [Oper.upon]
          exact hK v ro μ w (NH hy) g (Ext.refl _ _ _ _) (fun id q => absurd rfl q) (Nat.le_refl _)
         ·cases h
        ·cases h
       ·cases h
     ·cases h
    ·-- max
     rename_i hb
     have hs := je he hargs
     have e0 : (c.args.toList.map a.eval).toArray = c.args.map a.eval := Array.ext' (by simp)
     rw [e0] at hs
     split at h
     ·rename_i ws hws
      have hw := wm hws hs
      split at h
      ·rename_i y hy
       simp only [Option.some.injEq, Prod.mk.injEq] at h
       obtain ⟨rfl, rfl⟩ := h
       exact still (Builtin.max_ c.argTypes 0 ws.toArray) (qz .max _ hb (by rw [hw]; rfl)) rfl (pq hy ro μ w)
      ·cases h
     ·cases h
    ·-- min
     rename_i hb
     have hs := je he hargs
     have e0 : (c.args.toList.map a.eval).toArray = c.args.map a.eval := Array.ext' (by simp)
     rw [e0] at hs
     split at h
     ·rename_i ws hws
      have hw := wm hws hs
      split at h
      ·rename_i y hy
       simp only [Option.some.injEq, Prod.mk.injEq] at h
       obtain ⟨rfl, rfl⟩ := h
       exact still (Builtin.min_ c.argTypes 0 ws.toArray) (qz .min _ hb (by rw [hw]; rfl)) rfl (pq hy ro μ w)
      ·cases h
     ·cases h
    ·cases h
   split at h
   ·rename_i args hargs
    split at h
    ·rename_i f hf
     exact fin args hargs (mY env f) (fun f' hf' => by rw [hf] at hf'; cases hf'; rfl) h
    ·rename_i hnf
     exact fin args hargs none (fun f hf => absurd hf (hnf f)) h
   ·cases h
 ·cases h
end Lv
