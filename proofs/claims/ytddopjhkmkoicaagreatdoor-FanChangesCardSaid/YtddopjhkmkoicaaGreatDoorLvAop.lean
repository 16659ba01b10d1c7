/- One operation. -/
import Derived.Test.YtddopjhkmkoicaaGreatDoorLvOps8
import Derived.Test.YtddopjhkmkoicaaGreatDoorLvCall
/- One operation. -/
namespace Lv
open Go
set_option linter.unusedVariables false
set_option linter.unusedSimpArgs false
set_option linter.unusedSectionVars false
variable [BaseTab]
theorem opd_sound {ro : Ro} {μ : Mu} {env : List AV} {a : Act} (he : VRs ro μ env a.tmps) {x : Operand} {y : AV} (h : opd env x = some y) : VR ro μ y (a.eval x) := by
 unfold opd at h
 split at h
 ·rename_i t
  have hlt : t < a.tmps.size := by rw [he.size]; exact lt_of_get h
  refine he.get t y _ h ?_
  simp [Act.eval, Array.getD, hlt]
 ·split at h
  ·rename_i v z hz
   simp only [Option.some.injEq] at h; subst h
   exact VR_of hz
  ·cases h
 ·simp only [Option.some.injEq] at h; subst h
  exact .fn _ [] [] #[] #[] rfl rfl (fun i x v hx => by simp at hx) (fun i x v hx => by simp at hx)
 ·cases h
theorem opds_sound {ro : Ro} {μ : Mu} {env : List AV} {a : Act} (he : VRs ro μ env a.tmps) : ∀ {xs : List Operand} {ys : List AV}, opds env xs = some ys → VRs ro μ ys (xs.map a.eval).toArray
 | [], ys, h => by simp only [opds, Option.some.injEq] at h; subst h; exact ⟨rfl, fun i x v hx => by simp at hx⟩
 | x :: xs, ys, h => by
  simp only [opds] at h
  split at h
  ·rename_i v vs h1 h2
   simp only [Option.some.injEq] at h; subst h
   have ih := opds_sound he h2
   refine ⟨by have := ih.size; simp at this ⊢; exact this, fun i y u hy hu => ?_⟩
   cases i with
   | zero => simp at hy hu; subst hy; subst hu; exact opd_sound he h1
   | succ i => exact ih.get i y u (by simpa using hy) (by simpa using hu)
  ·cases h
theorem partsOf_sound {ro : Ro} {μ : Mu} {env : List AV} {a : Act} (he : VRs ro μ env a.tmps) : ∀ {xs : List (Nat × Operand)} {ys : List (Nat × AV)}, partsOf env xs = some ys → PRs ro μ ys (xs.map fun p => (p.1, a.eval p.2))
 | [], ys, h => by simp only [partsOf, Option.some.injEq] at h; subst h; exact ⟨rfl, fun k p q hp => by simp at hp, fun k p q hp => by simp at hp⟩
 | (i, x) :: xs, ys, h => by
  simp only [partsOf] at h
  split at h
  ·rename_i v vs h1 h2
   simp only [Option.some.injEq] at h; subst h
   have ih := partsOf_sound he h2
   refine ⟨by have := ih.size; simp at this ⊢; exact this, fun k p q hp hq => ?_, fun k p q hp hq => ?_⟩
   ·cases k with
    | zero => simp at hp hq; subst hp; subst hq; rfl
    | succ k => exact ih.fst k p q (by simpa using hp) (by simpa using hq)
   ·cases k with
    | zero => simp at hp hq; subst hp; subst hq; exact opd_sound he h1
    | succ k => exact ih.snd k p q (by simpa using hp) (by simpa using hq)
  ·cases h
theorem optOf_sound {ro : Ro} {μ : Mu} {env : List AV} {a : Act} (he : VRs ro μ env a.tmps) {x : Option Operand} {y : Option AV} (h : optOf env x = some y) :
  (∀ z, y = some z → ∃ u, x.map a.eval = some u ∧ VR ro μ z u) ∧ (y = none → x.map a.eval = none) := by
 unfold optOf at h
 split at h
 ·simp only [Option.some.injEq] at h; subst h; exact ⟨fun z hz => (by cases hz), fun _ => rfl⟩
 ·split at h
  ·rename_i x v hv
   simp only [Option.some.injEq] at h; subst h
   exact ⟨fun z hz => ⟨_, rfl, by cases hz; exact opd_sound he hv⟩, fun hz => (by cases hz)⟩
  ·cases h
theorem alen_sound {P : Program} {t ty : TypeId} {at_ : Array TypeId} {x r : AV} {ro : Ro} {μ : Mu} {w : World} {v : Value} (h0 : at_[0]? = some t) (hx : VR ro μ x v) (h : alen P t x = some r) :
  ∃ u, (Builtin.len_ at_ ty #[v]).run P w = .ok u w ∧ VR ro μ r u := by
 unfold alen at h
 split at h
 ·split at h
  ·rename_i hu
   simp only [Option.some.injEq] at h; subst h
   rcases VR_slc hx with ⟨L, c, a, rfl, _⟩ | ⟨rfl, _, rfl⟩ <;> exact ⟨_, by simp [Builtin.len_, h0, run_underlying hu, goInt], .d _ _ (.int _ _)⟩
  ·cases h
 ·split at h
  ·rename_i hu
   simp only [Option.some.injEq] at h; subst h
   rcases VR_lst hx with ⟨a, cap, g, rfl, _⟩ | ⟨rfl, rfl⟩ <;> exact ⟨_, by simp [Builtin.len_, h0, run_underlying hu, goInt], .d _ _ (.int _ _)⟩
  ·cases h
 ·split at h
  ·rename_i hu
   simp only [Option.some.injEq] at h; subst h
   obtain rfl := VR_val hx rfl
   exact ⟨_, by simp [Builtin.len_, h0, run_underlying hu, goInt], .d _ _ (.int _ _)⟩
  ·cases h
 ·split at h
  ·rename_i hu
   simp only [Option.some.injEq] at h; subst h
   obtain rfl := VR_val hx rfl
   exact ⟨_, by simp [Builtin.len_, h0, run_underlying hu, goInt], .d _ _ (.int _ _)⟩
  ·cases h
 ·cases h
theorem VR_mapr {ro : Ro} {μ : Mu} {id : Nat} {v : Value} (h : VR ro μ (.mapr id) v) : ∃ L, v = .map (some L.blk) ∧ μ id = some L := by
 cases h with
 | mapr _ L h => exact ⟨L, rfl, h⟩
theorem VR_iface {ro : Ro} {μ : Mu} {t : TypeId} {x : AV} {v : Value} (h : VR ro μ (.iface t x) v) : ∃ u, v = .iface t u ∧ VR ro μ x u := by
 cases h with
 | iface _ _ u h => exact ⟨u, rfl, h⟩
theorem nilKind_run {P : Program} {t : TypeId} {td : TypeDesc} {a b : AV} {ro : Ro} {μ : Mu} {u v : Value} (hu : P.underlying t = some td) (h : nilKind td a b = true) (ha : VR ro μ a u) (hb : VR ro μ b v) (op : BinOp) (x y : Operand) (w : World) :
  (eqGuard op t x y u v).run P w = .ok () w ∧ (Op.equal t u v).run P w = .ok false w ∧ (op = .eql → binOp op t u v = (do pure (.bool (← Op.equal t u v)))) ∧ (op = .neq → binOp op t u v = (do pure (.bool (!(← Op.equal t u v))))) := by
 have key : ∀ (u v : Value), (match u, v with | .nilIface, .nilIface => False | .agg _, .agg _ => False | _, _ => True) → (eqGuard op t x y u v).run P w = .ok () w := by
  intro u v huv
  unfold eqGuard
  cases op <;> simp <;> (cases u <;> cases v <;> first | rfl | exact huv.elim)
 unfold nilKind at h
 split at h
 case h_15 => cases h
 all_goals
  first
   | (obtain rfl := VR_val ha rfl)
   | (obtain rfl := VR_val hb rfl)
  first
   | (obtain ⟨L, hL, rfl⟩ := VR_ref ha)
   | (obtain ⟨L, hL, rfl⟩ := VR_ref hb)
   | (obtain ⟨b', o', g', rfl, _⟩ := VR_rop ha)
   | (obtain ⟨b', o', g', rfl, _⟩ := VR_rop hb)
   | (rcases VR_slc ha with ⟨L, c, a', rfl, _⟩ | ⟨rfl, _, _⟩; rotate_left; exact absurd h (by decide))
   | (rcases VR_slc hb with ⟨L, c, a', rfl, _⟩ | ⟨rfl, _, _⟩; rotate_left; exact absurd h (by decide))
   | (rcases VR_lst ha with ⟨a', c, g', rfl, _⟩ | ⟨rfl, _⟩; rotate_left; exact absurd h (by decide))
   | (rcases VR_lst hb with ⟨a', c, g', rfl, _⟩ | ⟨rfl, _⟩; rotate_left; exact absurd h (by decide))
   | (obtain ⟨vs, us, rfl, _⟩ := VR_fn ha)
   | (obtain ⟨vs, us, rfl, _⟩ := VR_fn hb)
   | (obtain ⟨L, rfl, _⟩ := VR_mapr ha)
   | (obtain ⟨L, rfl, _⟩ := VR_mapr hb)
   | (obtain ⟨z, rfl, _⟩ := VR_iface ha)
   | (obtain ⟨z, rfl, _⟩ := VR_iface hb)
  refine ⟨key _ _ trivial, ?_, fun e => by subst e; rfl, fun e => by subst e; rfl⟩
  refine (?_ : ∀ d, (Op.equalIn (d + 1) t _ _).run P w = .ok false w) 9999
  intro d
  simp only [Op.equalIn, Sem.run_bind, run_underlying hu, Result.andThen_ok, Sem.run_pure, Option.isNone_some, Option.isNone_none]
theorem abinOp_sound {P : Program} {op : BinOp} {t : TypeId} {x y : Operand} {a b r : AV} {ro : Ro} {μ : Mu} {u v : Value} (ha : VR ro μ a u) (hb : VR ro μ b v) (h : abinOp P op t x y a b = some r) (w : World) :
  ∃ z, (do eqGuard op t x y u v; binOp op t u v : Sem Value).run P w = .ok z w ∧ VR ro μ r z := by
 unfold abinOp at h
 split at h
 ·rename_i u' v' h1 h2
  obtain rfl := VR_val ha h1
  obtain rfl := VR_val hb h2
  exact byPr_sound h ro μ w
 ·split at h
  ·rename_i td hu
   split at h
   ·rename_i hk
    obtain ⟨k1, k2, k3, k4⟩ := nilKind_run hu hk ha hb op x y w
    split at h
    ·simp only [Option.some.injEq] at h; subst h
     refine ⟨.bool false, ?_, .d _ _ (.bool _)⟩
     simp only [Sem.run_bind, k1, Result.andThen_ok, k3 rfl, k2, Sem.run_pure]
    ·simp only [Option.some.injEq] at h; subst h
     refine ⟨.bool true, ?_, .d _ _ (.bool _)⟩
     simp only [Sem.run_bind, k1, Result.andThen_ok, k4 rfl, k2, Sem.run_pure]
     rfl
    ·cases h
   ·cases h
  ·cases h
def Goes (ro : Ro) (μ : Mu) (w : World) (σ : List Ob) (x : AV) (σ' : List Ob) (K : Value → World → Prop) : Prop :=
 ∀ v ro' μ' w', VR ro' μ' x v → Good ro' μ' w' (hp σ') → Ext ro μ w (hp σ) ro' μ' w' (hp σ') → (∀ id, μ' id ≠ μ id → σ.length ≤ id ∧ id < σ'.length) → σ.length ≤ σ'.length → K v w'
theorem wp_of_step {P : Program} {o : Oper} {a : Act} {s : Sem Value} {ro : Ro} {μ : Mu} {w : World} {σ σ' : List Ob} {x : AV} {K : Act → World → Prop} {Q : Exit → Act → World → Prop}
  (he : execOp a.eval o = (do pure (.value (← s)))) (h : Step P s ro μ w σ x σ') (hK : Goes ro μ w σ x σ' (fun v w' => K (a.put o.dst v) w')) : o.wp P a w K Q := by
 obtain ⟨v, ro', μ', w', h1, h2, h3, h4, h5, h6⟩ := h
 unfold Oper.wp
 rw [he]
 simp only [Sem.run_bind, h1, Result.andThen_ok, Sem.run_pure, Oper.upon]
 exact hK v ro' μ' w' h2 h3 h4 h5 h6
theorem Step.len {P : Program} {s : Sem Value} {ro : Ro} {μ : Mu} {w : World} {σ σ' : List Ob} {x : AV} (h : Step P s ro μ w σ x σ') : σ.length ≤ σ'.length := by
 obtain ⟨v, ro', μ', w', h1, h2, h3, h4, h5, h6⟩ := h
 exact h6
theorem free_head {μ : Mu} {σ σ' : List Ob} (h : ∀ id, σ.length ≤ id → id < σ'.length → μ id = none) (hl : σ.length < σ'.length) : μ σ.length = none := h _ (Nat.le_refl _) hl
theorem args_one {env : List AV} {c : Call} {a : Act} {ro : Ro} {μ : Mu} (he : VRs ro μ env a.tmps) {x : AV} (h : opds env c.args.toList = some [x]) : ∃ v, c.args.map a.eval = #[v] ∧ VR ro μ x v := by
 have hs := opds_sound he h
 have e : (c.args.toList.map a.eval).toArray = c.args.map a.eval := Array.ext' (by simp)
 rw [e] at hs
 obtain ⟨v, hv⟩ : ∃ v, c.args.map a.eval = #[v] := by
  have := hs.size
  cases hm : c.args.map a.eval with
  | mk l => rw [hm] at this; match l, this with
   | [v], _ => exact ⟨v, rfl⟩
 rw [hv] at hs
 exact ⟨v, hv, hs.get 0 x v rfl rfl⟩
theorem args_two {env : List AV} {c : Call} {a : Act} {ro : Ro} {μ : Mu} (he : VRs ro μ env a.tmps) {x y : AV} (h : opds env c.args.toList = some [x, y]) : ∃ v u, c.args.map a.eval = #[v, u] ∧ VR ro μ x v ∧ VR ro μ y u := by
 have hs := opds_sound he h
 have e : (c.args.toList.map a.eval).toArray = c.args.map a.eval := Array.ext' (by simp)
 rw [e] at hs
 obtain ⟨v, u, hv⟩ : ∃ v u, c.args.map a.eval = #[v, u] := by
  have := hs.size
  cases hm : c.args.map a.eval with
  | mk l => rw [hm] at this; match l, this with
   | [v, u], _ => exact ⟨v, u, rfl⟩
 rw [hv] at hs
 exact ⟨v, u, hv, hs.get 0 x v rfl rfl, hs.get 1 y u rfl rfl⟩
theorem VRs_append {ro : Ro} {μ : Mu} {xs ys : List AV} {vs us : Array Value} (h : VRs ro μ xs vs) (k : VRs ro μ ys us) : VRs ro μ (xs ++ ys) (vs ++ us) := by
 refine ⟨by simp [h.size, k.size], fun i x v hx hv => ?_⟩
 rw [List.getElem?_append] at hx
 rw [Array.getElem?_append, h.size] at hv
 split at hx
 ·rename_i hi
  rw [if_pos hi] at hv
  exact h.get i x v hx hv
 ·rename_i hi
  rw [if_neg hi] at hv
  exact k.get _ x v hx hv
theorem frz_length {σ σ' : List Ob} {x : AV} {y : D} (h : frz σ x = some (y, σ')) : σ'.length = σ.length := by
 unfold frz at h
 split at h
 ·split at h
  ·cases h
  ·simp only [Option.some.injEq, Prod.mk.injEq] at h; rw [h.2]
 ·split at h
  ·split at h
   ·simp only [Option.some.injEq, Prod.mk.injEq] at h; rw [← h.2]; simp
   ·cases h
  ·cases h
 ·cases h
theorem frzs_length : ∀ {xs : List AV} {σ σ' : List Ob} {ys : List D}, frzs σ xs = some (ys, σ') → σ'.length = σ.length
 | [], σ, σ', ys, h => by simp only [frzs, Option.some.injEq, Prod.mk.injEq] at h; rw [h.2]
 | x :: xs, σ, σ', ys, h => by
  simp only [frzs] at h
  split at h
  ·rename_i y σ1 h1
   split at h
   ·rename_i ys' σ2 h2
    simp only [Option.some.injEq, Prod.mk.injEq] at h
    rw [← h.2, frzs_length h2, frz_length h1]
   ·cases h
  ·cases h
theorem aparts_length {sz : Nat} : ∀ {ps : List (Nat × AV)} {k : Nat} {σ σ' : List Ob} {ds : List D}, aparts σ sz k ps = some (ds, σ') → σ'.length = σ.length
 | [], k, σ, σ', ds, h => by simp only [aparts, Option.some.injEq, Prod.mk.injEq] at h; rw [h.2]
 | (i, v) :: ps, k, σ, σ', ds, h => by
  simp only [aparts] at h
  split at h
  ·split at h
   ·rename_i y σ1 hy
    split at h
    ·rename_i ys σ2 hys
     simp only [Option.some.injEq, Prod.mk.injEq] at h
     rw [← h.2, aparts_length hys]
     unfold frzE at hy
     split at hy
     ·split at hy
      ·rename_i es σ1' hfz
       simp only [Option.some.injEq, Prod.mk.injEq] at hy
       rw [← hy.2, frzs_length hfz]
      ·cases hy
     ·exact frz_length hy
    ·cases h
   ·cases h
  ·cases h
theorem valsOf_get : ∀ {l : List AV} {us : List Value}, valsOf l = some us → us.length = l.length ∧ ∀ (i : Nat) (x : AV), l[i]? = some x → x.val = us[i]?
 | [], us, h => by
  simp only [valsOf, Option.some.injEq] at h
  subst h
  exact ⟨rfl, fun i x hx => by simp at hx⟩
 | y :: l, us, h => by
  simp only [valsOf] at h
  split at h
  ·rename_i u us' hu hus
   simp only [Option.some.injEq] at h
   subst h
   obtain ⟨h1, h2⟩ := valsOf_get hus
   refine ⟨by simp [h1], fun i x hx => ?_⟩
   cases i with
   | zero =>
    simp only [List.getElem?_cons_zero, Option.some.injEq] at hx ⊢
    rw [← hx, hu]
   | succ i => exact h2 i x (by simpa using hx)
  ·cases h
theorem valsOf_sound {ro : Ro} {μ : Mu} {l : List AV} {us : List Value} {vs : Array Value} (h : valsOf l = some us) (hv : VRs ro μ l vs) : vs = us.toArray := by
 obtain ⟨h1, h2⟩ := valsOf_get h
 apply Array.ext
 ·rw [hv.size]; simp [h1]
 ·intro i hi1 hi2
  have hl : i < l.length := by rw [← hv.size]; exact hi1
  have hu : i < us.length := by omega
  have e := h2 i l[i] (List.getElem?_eq_getElem hl)
  rw [List.getElem?_eq_getElem hu] at e
  have := VR_val (hv.get i l[i] vs[i] (List.getElem?_eq_getElem hl) (Array.getElem?_eq_getElem hi1)) e
  simpa using this
theorem aop_sound {P : Program} {call : Callee} (hc : CallOk P call) {o : Oper} {a : Act} {env : List AV} {σ σ' : List Ob} {x : AV} {ro : Ro} {μ : Mu} {w : World} (h : aop P call env σ o = some (x, σ')) (g : Good ro μ w (hp σ))
  (hfree : ∀ id, σ.length ≤ id → id < σ'.length → μ id = none) (he : VRs ro μ env a.tmps) {K : Act → World → Prop} {Q : Exit → Act → World → Prop} (hK : Goes ro μ w σ x σ' (fun v w' => K (a.put o.dst v) w')) :
  o.wp P a w K Q := by
 have still : ∀ (s : Sem Value), execOp a.eval o = (do pure (.value (← s))) → σ' = σ → (∃ v, s.run P w = .ok v w ∧ VR ro μ x v) → o.wp P a w K Q := by
  intro s hs hσ hv
  subst hσ
  exact wp_of_step hs (Step.still g hv) hK
 unfold aop at h
 split at h
 ·-- move
  rename_i y ho
  split at h
  ·rename_i v hv
   simp only [Option.some.injEq, Prod.mk.injEq] at h
   obtain ⟨rfl, rfl⟩ := h
   exact still (pure (a.eval y)) (by simp [execOp, ho]) rfl ⟨_, rfl, opd_sound he hv⟩
  ·cases h
 ·-- assign
  rename_i y ho
  split at h
  ·rename_i v hv
   simp only [Option.some.injEq, Prod.mk.injEq] at h
   obtain ⟨rfl, rfl⟩ := h
   exact still (pure (a.eval y)) (by simp [execOp, ho]) rfl ⟨_, rfl, opd_sound he hv⟩
  ·cases h
 ·-- pick
  rename_i c y z ho
  split at h
  ·rename_i t hcv
   have ec : a.eval c = .bool t := VR_val (opd_sound he hcv) rfl
   split at h
   ·rename_i v hv
    simp only [Option.some.injEq, Prod.mk.injEq] at h
    obtain ⟨rfl, rfl⟩ := h
    refine still (pure (if t then a.eval y else a.eval z)) ?_ rfl ⟨_, rfl, ?_⟩
    ·simp [execOp, ho, ec, asBool]
    ·have := opd_sound he hv
     cases t <;> exact this
   ·cases h
  ·cases h
 ·-- alloc
  rename_i t ho
  split at h
  ·rename_i z hz
   simp only [Option.some.injEq, Prod.mk.injEq] at h
   obtain ⟨rfl, rfl⟩ := h
   exact wp_of_step (s := Instr.alloc t true (.tuple #[])) (by simp [execOp, ho]) (alloc_sound g (free_head hfree (by simp)) hz) hK
  ·cases h
 ·-- box
  rename_i t y ho
  split at h
  ·cases h
  ·rename_i v hne hv
   simp only [Option.some.injEq, Prod.mk.injEq] at h
   obtain ⟨rfl, rfl⟩ := h
   exact wp_of_step (s := Instr.box t (a.eval y)) (by simp [execOp, ho]) (box_sound g (free_head hfree (by simp)) (opd_sound he hv) hne) hK
  ·cases h
 ·-- build
  rename_i t ps ho
  split at h
  ·rename_i parts hps
   split at h
   ·rename_i v hv
    simp only [Option.some.injEq, Prod.mk.injEq] at h
    obtain ⟨rfl, rfl⟩ := h
    have hp := partsOf_sound he hps
    exact still (Instr.build t (ps.map fun (i, x) => (i, a.eval x))) (by simp [execOp, ho]) rfl (abuild_sound (qs := ps.map fun (i, x) => (i, a.eval x)) (by simpa using hp) hv w)
   ·cases h
  ·cases h
 ·-- buildSlice
  rename_i t len ps ho
  split at h
  ·rename_i parts hps
   have hp := partsOf_sound he hps
   have hlen : σ.length < σ'.length := by
    have h' := h
    unfold abuildSlice at h'
    split at h'
    ·split at h'
     ·split at h'
      ·split at h'
       ·rename_i ds σ1 hds
        simp only [Option.some.injEq, Prod.mk.injEq] at h'
        obtain ⟨_, rfl⟩ := h'
        have n1 := aparts_length hds
        simp [n1]
       ·cases h'
      ·cases h'
     ·cases h'
    ·cases h'
   exact wp_of_step (s := Instr.buildSlice t len (ps.map fun (i, x) => (i, a.eval x))) (by simp [execOp, ho]) (abuildSlice_sound g (free_head hfree hlen) (by simpa using hp) h) hK
  ·cases h
 ·-- load
  rename_i t y ho
  split at h
  ·rename_i v hv
   split at h
   ·rename_i z hz
    simp only [Option.some.injEq, Prod.mk.injEq] at h
    obtain ⟨rfl, rfl⟩ := h
    obtain ⟨u, p, e, k1, k2⟩ := aload_sound g (opd_sound he hv) hz
    exact still (Instr.loadAt t (a.eval y)) (by simp [execOp, ho]) rfl ⟨u, by rw [e]; simp only [Instr.loadAt, Instr.sureAddr, Sem.run_bind, Sem.run_pure, Result.andThen_ok, k1], k2⟩
   ·cases h
  ·cases h
 ·-- store
  rename_i t y z ho
  split at h
  ·rename_i v u hv hu
   split at h
   ·rename_i σ1 hst
    simp only [Option.some.injEq, Prod.mk.injEq] at h
    obtain ⟨rfl, rfl⟩ := h
    obtain ⟨p, w', ro', e, k1, k2, k3, k4⟩ := astore_sound g (opd_sound he hv) (opd_sound he hu) hst
    unfold Oper.wp
    have : (execOp a.eval o).run P w = .ok .skip w' := by
     simp only [execOp, ho, e, Instr.storeAt, Instr.sureAddr, Sem.run_bind, Sem.run_pure, Result.andThen_ok, k1]
    rw [this]
    exact hK undef ro' μ w' (.tuple [] #[] rfl (fun i x v hx => by simp at hx)) k2 k3 (fun id h => absurd rfl h) (by omega)
   ·cases h
  ·cases h
 ·-- nilCheck
  rename_i y ho
  split at h
  ·rename_i id idx off hv
   simp only [Option.some.injEq, Prod.mk.injEq] at h
   obtain ⟨rfl, rfl⟩ := h
   have hv' := opd_sound he hv
   obtain ⟨L, hL, e⟩ := VR_ref hv'
   refine still (pure (a.eval y)) ?_ rfl ⟨_, rfl, hv'⟩
   simp [execOp, ho, e]
  ·rename_i cs hv
   simp only [Option.some.injEq, Prod.mk.injEq] at h
   obtain ⟨rfl, rfl⟩ := h
   have hv' := opd_sound he hv
   obtain ⟨b, o', g', e, _⟩ := VR_rop hv'
   refine still (pure (a.eval y)) ?_ rfl ⟨_, rfl, hv'⟩
   simp [execOp, ho, e]
  ·cases h
 ·-- binOp
  rename_i op t y z yt ho
  split at h
  ·rename_i u v hu hv
   split at h
   ·rename_i r hr
    simp only [Option.some.injEq, Prod.mk.injEq] at h
    obtain ⟨rfl, rfl⟩ := h
    exact still (do eqGuard op t y z (a.eval y) (a.eval z); binOp op t (a.eval y) (a.eval z)) (by simp [execOp, ho]) rfl (abinOp_sound (opd_sound he hu) (opd_sound he hv) hr w)
   ·cases h
  ·cases h
 ·-- unOp
  rename_i op t y ho
  split at h
  ·rename_i u hu
   split at h
   ·rename_i v hv
    split at h
    ·rename_i r hr
     simp only [Option.some.injEq, Prod.mk.injEq] at h
     obtain ⟨rfl, rfl⟩ := h
     have e := VR_val (opd_sound he hu) hv
     exact still (Op.unary op (a.eval y)) (by simp [execOp, ho]) rfl (by rw [e]; exact byPr_sound hr ro μ w)
    ·cases h
   ·cases h
  ·cases h
 ·-- convert
  rename_i s d y ho
  split at h
  ·rename_i u hu
   exact wp_of_step (s := convert s d (a.eval y)) (by simp [execOp, ho]) (aconvert_sound g (free_head hfree) (opd_sound he hu) h) hK
  ·cases h
 ·-- fieldAddr
  rename_i t y f ho
  split at h
  ·rename_i u hu
   split at h
   ·rename_i r hr
    simp only [Option.some.injEq, Prod.mk.injEq] at h
    obtain ⟨rfl, rfl⟩ := h
    exact still (Instr.fieldAt t (a.eval y) f) (by simp [execOp, ho]) rfl (afieldAddr_sound (opd_sound he hu) hr w)
   ·cases h
  ·cases h
 ·-- field
  rename_i t y f ho
  split at h
  ·rename_i u hu
   split at h
   ·rename_i r hr
    simp only [Option.some.injEq, Prod.mk.injEq] at h
    obtain ⟨rfl, rfl⟩ := h
    exact still (Instr.field t (a.eval y) f) (by simp [execOp, ho]) rfl (afield_sound (opd_sound he hu) hr w)
   ·cases h
  ·cases h
 ·-- indexAddr
  rename_i t y z ho
  split at h
  ·rename_i u v hu hv
   split at h
   ·rename_i r hr
    simp only [Option.some.injEq, Prod.mk.injEq] at h
    obtain ⟨rfl, rfl⟩ := h
    exact still (Instr.indexAt t (a.eval y) (a.eval z)) (by simp [execOp, ho]) rfl (aindexAddr_sound (opd_sound he hu) (opd_sound he hv) hr w)
   ·cases h
  ·cases h
 ·-- index
  rename_i t y z ho
  split at h
  ·rename_i u v hu hv
   split at h
   ·rename_i u' v' hu' hv'
    split at h
    ·rename_i r hr
     simp only [Option.some.injEq, Prod.mk.injEq] at h
     obtain ⟨rfl, rfl⟩ := h
     have e1 := VR_val (opd_sound he hu) hu'
     have e2 := VR_val (opd_sound he hv) hv'
     exact still (Instr.index t (a.eval y) (a.eval z)) (by simp [execOp, ho]) rfl (by rw [e1, e2]; exact byPr_sound hr ro μ w)
    ·cases h
   ·cases h
  ·cases h
 ·-- slice
  rename_i t y lo hi mx ho
  split at h
  ·rename_i u l hh m hu hl hhi hm
   split at h
   ·rename_i r hr
    simp only [Option.some.injEq, Prod.mk.injEq] at h
    obtain ⟨rfl, rfl⟩ := h
    have s1 := optOf_sound he hl
    have s2 := optOf_sound he hhi
    have s3 := optOf_sound he hm
    exact still (Instr.sliceAt t (a.eval y) (lo.map a.eval) (hi.map a.eval) (mx.map a.eval)) (by simp [execOp, ho]) rfl (aslice_sound (opd_sound he hu) s1.1 s1.2 s2.1 s2.2 s3.1 s3.2 hr w)
   ·cases h
  ·cases h
 ·-- makeSlice
  rename_i t l c ho
  split at h
  ·rename_i u v hu hv
   have hlen : σ.length < σ'.length := by
    have h' := h
    unfold amakeSlice at h'
    split at h'
    ·split at h'
     ·split at h'
      ·simp only [Option.some.injEq, Prod.mk.injEq] at h'
       rw [← h'.2]; simp
      ·cases h'
     ·cases h'
    ·cases h'
   exact wp_of_step (s := Instr.makeSlice t (a.eval l) (a.eval c)) (by simp [execOp, ho]) (amakeSlice_sound g (free_head hfree hlen) (opd_sound he hu) (opd_sound he hv) h) hK
  ·cases h
 ·-- makeMap
  rename_i t r ho
  split at h
  ·rename_i u hu
   have hlen : σ.length < σ'.length := by
    have h' := h
    unfold amakeMap at h'
    split at h'
    ·simp only [Option.some.injEq, Prod.mk.injEq] at h'
     rw [← h'.2]; simp
    ·simp only [Option.some.injEq, Prod.mk.injEq] at h'
     rw [← h'.2]; simp
    ·cases h'
   have s1 := optOf_sound he hu
   exact wp_of_step (s := Instr.makeMap t (r.map a.eval)) (by simp [execOp, ho]) (amakeMap_sound g (free_head hfree hlen) s1.2 s1.1 h) hK
  ·cases h
 ·-- lookup
  rename_i t y z ok ho
  split at h
  ·rename_i u v hu hv
   split at h
   ·rename_i r hr
    simp only [Option.some.injEq, Prod.mk.injEq] at h
    obtain ⟨rfl, rfl⟩ := h
    exact still (Instr.lookup t (a.eval y) (a.eval z) ok) (by simp [execOp, ho]) rfl (alookup_sound g (opd_sound he hu) (opd_sound he hv) hr)
   ·cases h
  ·cases h
 ·-- mapUpdate
  rename_i t y z q ho
  split at h
  ·rename_i u v r hu hv hr
   obtain ⟨w', ro', rfl, k1, k2, k3, k4⟩ := amapUpdate_sound g (opd_sound he hu) (opd_sound he hv) (opd_sound he hr) h
   unfold Oper.wp
   have : (execOp a.eval o).run P w = .ok .skip w' := by
    simp only [execOp, ho, Sem.run_bind, Sem.run_pure, Result.andThen_ok, k1]
   rw [this]
   exact hK undef ro' μ w' (.tuple [] #[] rfl (fun i x v hx => by simp at hx)) k2 k3 (fun id h => absurd rfl h) (by omega)
  ·cases h
 ·-- makeFunc
  rename_i fn first caps ho
  split at h
  ·rename_i xs ys hx hy
   simp only [Option.some.injEq, Prod.mk.injEq] at h
   obtain ⟨rfl, rfl⟩ := h
   have s1 := opds_sound he hx
   have s2 := opds_sound he hy
   refine still (Instr.makeFunc fn (first.map a.eval) (caps.map a.eval)) (by simp [execOp, ho]) rfl ⟨.func fn (first.map a.eval) (caps.map a.eval), rfl, ?_⟩
   have e1 : (first.toList.map a.eval).toArray = first.map a.eval := Array.ext' (by simp)
   have e2 : (caps.toList.map a.eval).toArray = caps.map a.eval := Array.ext' (by simp)
   rw [e1] at s1
   rw [e2] at s2
   exact .fn fn xs ys _ _ s1.size s2.size s1.get s2.get
  ·cases h
 ·-- extract
  rename_i y i ho
  split at h
  ·rename_i vs hv
   split at h
   ·rename_i v hvi
    simp only [Option.some.injEq, Prod.mk.injEq] at h
    obtain ⟨rfl, rfl⟩ := h
    obtain ⟨us, e, hus⟩ := VR_tuple (opd_sound he hv)
    have hlt : i < us.size := by rw [hus.size]; exact lt_of_get hvi
    refine still (Instr.extract (a.eval y) i) (by simp [execOp, ho]) rfl ⟨us[i], ?_, hus.get i v _ hvi (Array.getElem?_eq_getElem hlt)⟩
    rw [e]
    simp [Instr.extract, hlt]
   ·cases h
  ·cases h
 ·-- makeInterface
  rename_i t y ho
  split at h
  ·rename_i v hv
   split at h
   ·cases h
   ·rename_i d hu hni
    simp only [Option.some.injEq, Prod.mk.injEq] at h
    obtain ⟨rfl, rfl⟩ := h
    refine still (Instr.makeInterface t (a.eval y)) (by simp [execOp, ho]) rfl ⟨.iface t (a.eval y), ?_, .iface t v _ (opd_sound he hv)⟩
    simp only [Instr.makeInterface, Sem.run_bind, run_underlying hni, Result.andThen_ok]
    cases d <;> first | rfl | exact absurd rfl (hu _)
   ·cases h
  ·cases h
 ·-- typeAssert
  rename_i y xt t ok ho
  split at h
  ·rename_i t' v hv
   split at h
   ·cases h
   ·rename_i d hu hni
    split at h
    ·rename_i hq
     obtain ⟨rfl, rfl⟩ := hq
     simp only [Option.some.injEq, Prod.mk.injEq] at h
     obtain ⟨rfl, rfl⟩ := h
     have hi := opd_sound he hv
     generalize hy : a.eval y = u at hi
     cases hi with
     | iface _ _ u' hi' =>
      refine still (Instr.typeAssert (a.eval y) xt t' false) (by simp [execOp, ho]) rfl ⟨u', ?_, hi'⟩
      rw [hy]
      simp only [Instr.typeAssert, Sem.run_bind, run_underlying hni, Result.andThen_ok]
      cases d <;> first | (simp; done) | exact absurd rfl (hu _)
    ·cases h
   ·cases h
  ·cases h
 ·-- call
  rename_i c ho
  ·have builtinStep : ∀ (b : Builtin) (s : Sem Value), c.callee = .builtin b → (builtin b c.argTypes o.type (c.args.map fun | .const _ => true | _ => false) (c.args.map a.eval) = (do pure (.value (← s)))) → execOp a.eval o = (do pure (.value (← s))) := by
    intro b s hb hs
    simp only [execOp, ho, resolve, hb, pure_bind, invoke]
    exact hs
   have fin : ∀ args, opds env c.args.toList = some args → ∀ fv, (∀ f, c.callee = .value f → fv = opd env f) → acall P call σ c args fv = some (x, σ') → o.wp P a w K Q := by
    clear h
    intro args hargs fv hfv h
    unfold acall at h
    split at h
    ·-- len
     rename_i hb
     split at h
     ·rename_i t y ht
      split at h
      ·rename_i r hr
       simp only [Option.some.injEq, Prod.mk.injEq] at h
       obtain ⟨rfl, rfl⟩ := h
       obtain ⟨v, ev, hv⟩ := args_one he hargs
       refine still (Builtin.len_ c.argTypes o.type #[v]) (builtinStep .len _ hb ?_) rfl (alen_sound ht hv hr)
       rw [ev]; rfl
      ·cases h
     ·cases h
    ·-- append
     rename_i hb
     split at h
     ·rename_i t t2 y z ht ht2
      obtain ⟨v, u, ev, hv, hu⟩ := args_two he hargs
      have e : execOp a.eval o = (do pure (.value (← Builtin.append_ c.argTypes o.type #[v, u]))) := builtinStep .append _ hb (by rw [ev]; rfl)
      split at h
      ·cases h
      ·rename_i hq
       exact wp_of_step e (aappend_sound g (free_head hfree) ht ht2 (by simpa using hq) hv hu h) hK
     ·cases h
    ·-- copy
     rename_i hb
     split at h
     ·rename_i t y z ht
      obtain ⟨v, u, ev, hv, hu⟩ := args_two he hargs
      have e : execOp a.eval o = (do pure (.value (← Builtin.copy_ c.argTypes o.type #[v, u]))) := builtinStep .copy _ hb (by rw [ev]; rfl)
      exact wp_of_step e (acopy_sound g ht hv hu h) hK
     ·cases h
    ·-- a function
     rename_i fo hb
     split at h
     ·rename_i f first caps
      split at h
      ·rename_i hcl
       have hf := opd_sound he (hfv fo hb).symm
       obtain ⟨vs, us, ef, h1, h2⟩ := VR_fn hf
       have hs := opds_sound he hargs
       have e0 : (c.args.toList.map a.eval).toArray = c.args.map a.eval := Array.ext' (by simp)
       rw [e0] at hs
       have hall := VRs_append (VRs_append h1 hs) h2
       obtain ⟨hlen, hcalls⟩ := callIn_sound hc h g hfree hall
       have hrun : (execOp a.eval o).run P w = .ok (.enter f (vs ++ c.args.map a.eval ++ us)) w := by
        unfold callable at hcl
        split at hcl
        ·rename_i fn hfn
         simp only [Bool.and_eq_true, bne_iff_ne, ne_eq] at hcl
         have hbody : fn.body.isNone = false := by simpa using hcl.2
         simp only [execOp, ho, resolve, hb, ef, Deferred.ofValue, pure_bind, invoke, callFunc, Sem.run_bind, run_program, Result.andThen_ok, hfn, beq_iff_eq, hcl.1, if_false, hbody, Bool.false_eq_true, Sem.run_pure]
        ·cases hcl
       unfold Oper.wp
       rw [hrun]
       simp only [Oper.upon]
       refine hcalls.mono ?_
       rintro e w' ⟨v, ro', μ', rfl, k1, k2, k3, k4⟩
       exact hK v ro' μ' w' k1 k2 k3 k4 hlen
      ·have hf := opd_sound he (hfv fo hb).symm
       obtain ⟨vs, us, ef, h1, h2⟩ := VR_fn hf
       have hs := opds_sound he hargs
       have e0 : (c.args.toList.map a.eval).toArray = c.args.map a.eval := Array.ext' (by simp)
       rw [e0] at hs
       have hall := VRs_append (VRs_append h1 hs) h2
       unfold outside at h
       split at h
       ·rename_i ws hws
        have hw := valsOf_sound hws hall
        split at h
        ·rename_i v hpr
         split at h
         ·rename_i y hy
          simp only [Option.some.injEq, Prod.mk.injEq] at h
          obtain ⟨rfl, rfl⟩ := h
          have hrun : (execOp a.eval o).run P w = .ok (.value v) w := by
           simp only [execOp, ho, resolve, hb, ef, Deferred.ofValue, pure_bind, invoke]
           rw [hw]
           exact pr_sound hpr w
          unfold Oper.wp
          rw [hrun]
          simp only [Oper.upon]
          exact hK v ro μ w (VR_of hy) g (Ext.refl _ _ _ _) (fun id q => absurd rfl q) (Nat.le_refl _)
         ·cases h
        ·cases h
       ·cases h
     ·cases h
    ·-- max
     rename_i hb
     have hs := opds_sound he hargs
     have e0 : (c.args.toList.map a.eval).toArray = c.args.map a.eval := Array.ext' (by simp)
     rw [e0] at hs
     split at h
     ·rename_i ws hws
      have hw := valsOf_sound hws hs
      split at h
      ·rename_i y hy
       simp only [Option.some.injEq, Prod.mk.injEq] at h
       obtain ⟨rfl, rfl⟩ := h
       exact still (Builtin.max_ c.argTypes 0 ws.toArray) (builtinStep .max _ hb (by rw [hw]; rfl)) rfl (byPr_sound hy ro μ w)
      ·cases h
     ·cases h
    ·-- min
     rename_i hb
     have hs := opds_sound he hargs
     have e0 : (c.args.toList.map a.eval).toArray = c.args.map a.eval := Array.ext' (by simp)
     rw [e0] at hs
     split at h
     ·rename_i ws hws
      have hw := valsOf_sound hws hs
      split at h
      ·rename_i y hy
       simp only [Option.some.injEq, Prod.mk.injEq] at h
       obtain ⟨rfl, rfl⟩ := h
       exact still (Builtin.min_ c.argTypes 0 ws.toArray) (builtinStep .min _ hb (by rw [hw]; rfl)) rfl (byPr_sound hy ro μ w)
      ·cases h
     ·cases h
    ·cases h
   split at h
   ·rename_i args hargs
    split at h
    ·rename_i f hf
     exact fin args hargs (opd env f) (fun f' hf' => by rw [hf] at hf'; cases hf'; rfl) h
    ·rename_i hnf
     exact fin args hargs none (fun f hf => absurd hf (hnf f)) h
   ·cases h
 ·cases h
end Lv
