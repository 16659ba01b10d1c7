/- The functions once more, with loops of so many rounds: for reckoning the fixed examples. -/
import Derived.Test.YtjnpmmiacggffaaGreatDoorXAll
import Derived.KernelRfl
namespace Lv
open Go Go.Proofs
set_option linter.unusedVariables false
set_option linter.unusedSimpArgs false
set_option linter.unusedSectionVars false
set_option maxRecDepth 100000
set_option maxHeartbeats 4000000
variable [bJ]
def Le {α : Type} (a b : Option α) : Prop := ∀ r, a = some r → b = some r
theorem zr {α : Type} (a : Option α) : Le a a := fun _ h => h
theorem zb {α β : Type} {a a' : Option α} {f f' : α → Option β} (h : Le a a') (k : ∀ x, Le (f x) (f' x)) : Le (Option.bind a f) (Option.bind a' f') := by
 intro r hr
 cases ha : a with
 | none => rw [ha] at hr; cases hr
 | some x =>
  rw [ha] at hr
  rw [h x ha]
  exact k x r hr
theorem zc {α : Type} {c : Bool} {a a' b b' : Option α} (h : Le a a') (k : Le b b') : Le (bif c then a else b) (bif c then a' else b') := by
 cases c
 ·exact k
 ·exact h
theorem zm {α β γ : Type} {f f' : α → Option γ} {g g' : β → Option γ} {s : α ⊕ β} (h : ∀ x, Le (f x) (f' x)) (k : ∀ x, Le (g x) (g' x)) : Le (Sum.elim f g s) (Sum.elim f' g' s) := by
 cases s
 ·exact h _
 ·exact k _
theorem zE {Y E R : Type} {p p' : Option (Y ⊕ E)} {k k' : Y → Option R} {e e' : E → Option R} (h : Le p p') (hk : ∀ x, Le (k x) (k' x)) (he : ∀ x, Le (e x) (e' x)) : Le (eu p k e) (eu p' k' e') :=
 zb h fun x => zm hk he
def jV {Y W : Type} (B : Y → Option (Y ⊕ W)) (y : Y) : Option W := nR B 12 y
theorem zn {Y W : Type} {B B' : Y → Option (Y ⊕ W)} (h : ∀ y, Le (B y) (B' y)) : ∀ n y, Le (nR B n y) (nR B' n y)
 | 0, y => fun _ h => by cases h
 | n + 1, y => by
  intro r hr
  simp only [Lv.nR] at hr ⊢
  cases hb : B y with
  | none => rw [hb] at hr; cases hr
  | some s =>
   rw [hb] at hr
   rw [h y s hb]
   cases s with
   | inl y' => exact zn h n y' r hr
   | inr w => exact hr
theorem zl {Y W : Type} {B B' : Y → Option (Y ⊕ W)} {y : Y} (h : ∀ y, Le (B y) (B' y)) : Le (jV B y) (loop B' y) := fun r hr => H7 (zn h _ y r hr)
def JA (x : Int) : List Int → List Int
 | [] => [x]
 | y :: l => if x ≤ y then x :: y :: l else y :: JA x l
def OX : List Int → List Int
 | [] => []
 | x :: l => JA x (OX l)
theorem FN (x : Int) : ∀ l, (JA x l).Perm (x :: l)
 | [] => .refl _
 | y :: l => by
  unfold JA
  split
  ·exact .refl _
  ·exact ((FN x l).cons y).trans (.swap x y l)
theorem Lx : ∀ l, (OX l).Perm l
 | [] => .refl _
 | x :: l => (FN x _).trans ((Lx l).cons x)
theorem SX (x : Int) : ∀ {l}, l.Pairwise (fun a b : Int => a ≤ b) → (JA x l).Pairwise (fun a b : Int => a ≤ b)
 | [], _ => by simp [JA]
 | y :: l, h => by
  rw [List.pairwise_cons] at h
  unfold JA
  split
  ·rename_i q
   exact .cons (fun z hz => by rcases List.mem_cons.1 hz with rfl | hz; exact q; have := h.1 z hz; omega) (.cons h.1 h.2)
  ·rename_i q
   refine .cons (fun z hz => ?_) (SX x h.2)
   rcases List.mem_cons.1 ((FN x l).mem_iff.1 hz) with rfl | hz
   ·omega
   ·exact h.1 z hz
theorem SB : ∀ l, (OX l).Pairwise (fun a b : Int => a ≤ b)
 | [] => .nil
 | x :: l => SX x (SB l)
theorem SL : ∀ {a b : List Int}, a.Pairwise (fun x y : Int => x ≤ y) → b.Pairwise (fun x y : Int => x ≤ y) → a.Perm b → a = b
 | [], b, _, _, h => (List.Perm.nil_eq h)
 | x :: a, [], _, _, h => by have := h.length_eq; simp at this
 | x :: a, y :: b, ha, hb, h => by
  rw [List.pairwise_cons] at ha hb
  have h1 : x ≤ y := by
   rcases List.mem_cons.1 (h.mem_iff.2 (List.mem_cons_self ..)) with e | hy
   ·omega
   ·exact ha.1 y hy
  have h2 : y ≤ x := by
   rcases List.mem_cons.1 (h.mem_iff.1 (List.mem_cons_self ..)) with e | hx
   ·omega
   ·exact hb.1 x hx
  obtain rfl : x = y := by omega
  rw [SL ha.2 hb.2 (List.Perm.cons_inv h)]
theorem Zi (l : List Int) : l.mergeSort (fun x y => decide (x ≤ y)) = OX l := by
 refine SL ?_ (SB l) ((List.mergeSort_perm l _).trans (Lx l).symm)
 have := List.pairwise_mergeSort (le := fun x y : Int => decide (x ≤ y)) (fun a b c h1 h2 => by simp only [decide_eq_true_eq] at *; omega) (fun a b => by simp only [Bool.or_eq_true, decide_eq_true_eq]; omega) l
 exact this.imp fun h => by simpa using h
def AJ (l : List Int) : Option (List Int) := if l.length < 4611686018427387904 then some (OX l) else none
theorem Jz (l : List Int) : Le (AJ l) (wB l) := by
 intro r h
 unfold AJ at h
 split at h
 ·rename_i hs
  obtain rfl := Option.some.inj h
  unfold wB
  rw [if_pos hs, Zi]
 ·cases h
noncomputable def vJ (p0 : List UInt8) : Option ((List UInt8) × Bool) :=
 Option.bind (α := Nat)
 (Option.bind (α := Nat)
 (jV (Y := Nat) (W := Nat) (fun vP =>
 Option.bind (α := Bool)
 (bif (decide ((vP : Int) > (0 : Int))) then
 Option.bind (sD p0 0 vP (bF ((vP : Int) - (1 : Int)))) fun Y9 =>
 some (Y9 == (255 : UInt8))
 else
 some false)
 fun DL =>
 bif DL then
 bif decide (0 ≤ (bF ((vP : Int) - (1 : Int))) ∧ (bF ((vP : Int) - (1 : Int))) ≤ (vP : Int)) then
 some (Sum.inl ((bF ((vP : Int) - (1 : Int))).toNat))
 else none
 else
 some (Sum.inr vP)) p0.length)
 (fun e => some e))
 fun y113 =>
 bif ((y113 : Int) == (0 : Int)) then
 some (([] : List UInt8), false)
 else
 Option.bind (sD p0 0 y113 (bF ((y113 : Int) - (1 : Int)))) fun sN =>
 Option.bind (sD p0 0 y113 (bF ((y113 : Int) - (1 : Int)))) fun Ir =>
 bif decide (0 + y113 ≤ (List.set p0 ((bF ((y113 : Int) - (1 : Int))).toNat) (sN + (1 : UInt8))).length) then
 some ((List.take y113 (List.drop 0 (List.set p0 ((bF ((y113 : Int) - (1 : Int))).toNat) (sN + (1 : UInt8))))), true)
 else none
theorem GA (p0 : List UInt8) : Le (vJ p0) (oQ p0) := by
 unfold vJ oQ
 repeat (first|apply zb|apply zc|apply zl|apply zE|apply zm|exact zr _|intro _)
noncomputable def vI (p0 : List UInt8) : Option aW :=
 Option.bind (vJ p0) fun (r9, M0) =>
 some (aW.mk p0 r9 (!M0))
theorem Gz (p0 : List UInt8) : Le (vI p0) (oP p0) := by
 unfold vI oP
 repeat (first|exact GA _|apply zb|apply zc|apply zl|apply zE|apply zm|exact zr _|intro _)
noncomputable def jR : Nat → (List aA) → Int → Bool → Option ((List aA) × Int)
 | 0, _, _, _ => none
 | n + 1, p0, p1, p2 =>
  Option.bind (bG p0 p1) fun v229 =>
  Option.bind (α := Bool)
   (bif p2 then
    Option.bind (fT v229) fun Zw =>
    bif (Zw == (0 : Int)) then
     some true
    else
     bif p2 then
      some (v229.Kind == (4 : Int))
     else
      some false
   else
    bif p2 then
     some (v229.Kind == (4 : Int))
    else
     some false)
   fun wL =>
  Option.bind (α := (List aA) × Int)
   (Option.bind (fT v229) fun TY =>
   Option.bind (α := (List aA) × Int)
    (jV (Y := (List aA) × Int × Int) (W := (List aA) × Int) (fun (Mq, Qx, Tx) =>
     bif (decide (Tx < TY)) then
      Option.bind (jR n p0 Qx wL) fun (I6, Zu) =>
      bif decide ((I6.length + Mq.length) * 56 ≤ room) then
      some (Sum.inl ((I6 ++ Mq), Zu, (bF (Tx + (1 : Int)))))
      else none
     else
      some (Sum.inr (Mq, Qx))) (([] : List aA), (bF (p1 - (1 : Int))), (0 : Int)))
    (fun e => some e))
   fun (Ik, Tz) =>
  Option.bind (α := (List aA))
   (Option.bind (α := Bool)
    (bif wL then
     bif (v229.Kind == (2 : Int)) then
      some true
     else
      some (v229.Kind == (3 : Int))
    else
     some false)
    fun YX =>
   bif YX then
    bif decide ((Ik.length + [v229].length) * 56 ≤ room) then
    some (Ik ++ [v229])
    else none
   else
    some Ik)
   fun YZ =>
  some (YZ, Tz)
theorem xu : ∀ (n : Nat) p0 p1 p2, Le (jR n p0 p1 p2) (gB n p0 p1 p2)
 | 0, _, _, _ => by
  intro r h
  unfold jR at h
  cases h
 | n + 1, p0, p1, p2 => by
  unfold jR gB
  repeat (first|exact xu n _ _ _|apply zb|apply zc|apply zl|apply zE|apply zm|exact zr _|intro _)
noncomputable def fK (p0 : List aA) (p1 : aI) : Option Int :=
 eu (Y := Unit) (E := Int)
 (Option.bind (α := Unit ⊕ Int)
 (jV (Y := Int) (W := Unit ⊕ Int) (fun uY =>
 bif (decide (uY < (p0.length : Int))) then
 Option.bind (bG p0 uY) fun v85 =>
 Option.bind (qO v85 p1) fun Hf =>
 bif Hf then
 some (Sum.inr (Sum.inr uY))
 else
 some (Sum.inl (bF (uY + (1 : Int))))
 else
 some (Sum.inr (Sum.inl ()))) (0 : Int))
 (Sum.elim (fun e => some (Sum.inl e)) (fun e => some (Sum.inr e))))
 (fun _ =>
 some (-1 : Int))
 (fun e => some e)
theorem l6 (p0 : List aA) (p1 : aI) : Le (fK p0 p1) (dh p0 p1) := by
 unfold fK dh
 repeat (first|apply zb|apply zc|apply zl|apply zE|apply zm|exact zr _|intro _)
noncomputable def fM (p0 : List ak) : Option Int :=
 eu (Y := Unit) (E := Int)
 (Option.bind (α := Unit ⊕ Int)
 (jV (Y := Int) (W := Unit ⊕ Int) (fun uY =>
 bif (decide (uY < (p0.length : Int))) then
 Option.bind (bG p0 uY) fun v85 =>
 Option.bind (kK v85) fun Hf =>
 bif Hf then
 some (Sum.inr (Sum.inr uY))
 else
 some (Sum.inl (bF (uY + (1 : Int))))
 else
 some (Sum.inr (Sum.inl ()))) (0 : Int))
 (Sum.elim (fun e => some (Sum.inl e)) (fun e => some (Sum.inr e))))
 (fun _ =>
 some (-1 : Int))
 (fun e => some e)
theorem l7 (p0 : List ak) : Le (fM p0) (dI p0) := by
 unfold fM dI
 repeat (first|apply zb|apply zc|apply zl|apply zE|apply zm|exact zr _|intro _)
noncomputable def eZ (p0 : List ak) : Option Bool :=
 Option.bind (fM p0) fun r7 =>
 some (decide (r7 ≥ (0 : Int)))
theorem kV (p0 : List ak) : Le (eZ p0) (bX p0) := by
 unfold eZ bX
 repeat (first|exact l7 _|apply zb|apply zc|apply zl|apply zE|apply zm|exact zr _|intro _)
noncomputable def yF (p0 : List UInt8) : Option ((List UInt8)) :=
 Option.bind (α := (List UInt8))
 (Option.bind (α := (List UInt8))
 (jV (Y := (List UInt8) × Int) (W := (List UInt8)) (fun (xJ, BQ) =>
 bif (decide (BQ < (p0.length : Int))) then
 Option.bind (bG xJ BQ) fun v83 =>
 Option.bind (bG xJ BQ) fun v84 =>
 some (Sum.inl ((List.set xJ BQ.toNat (~~~ v83)), (bF (BQ + (1 : Int)))))
 else
 some (Sum.inr xJ)) (p0, (0 : Int)))
 (fun e => some e))
 fun HV =>
 some HV
theorem Nk (p0 : List UInt8) : Le (yF p0) (kJ p0) := by
 unfold yF kJ
 repeat (first|apply zb|apply zc|apply zl|apply zE|apply zm|exact zr _|intro _)
noncomputable def FM (p0 : ak) (p1 : Bool) : Option ((List UInt8)) :=
 Option.bind (lF (p0.Kind != (0 : Int))) fun HZ =>
 Option.bind (α := (List UInt8))
 (bif (p0.Kind == (1 : Int)) then
 Option.bind (jF (p0.N ^^^ (9223372036854775808 : UInt64)) HZ) fun _ =>
 some ((((HZ ++ [((eU ((fA ((dR (p0.N ^^^ (9223372036854775808 : UInt64)) 32).toUInt32) 16).toUInt16) 8).toUInt8), (((fA ((dR (p0.N ^^^ (9223372036854775808 : UInt64)) 32).toUInt32) 16).toUInt16).toUInt8)]) ++ [((eU (((dR (p0.N ^^^ (9223372036854775808 : UInt64)) 32).toUInt32).toUInt16) 8).toUInt8), ((((dR (p0.N ^^^ (9223372036854775808 : UInt64)) 32).toUInt32).toUInt16).toUInt8)]) ++ [((eU ((fA ((p0.N ^^^ (9223372036854775808 : UInt64)).toUInt32) 16).toUInt16) 8).toUInt8), (((fA ((p0.N ^^^ (9223372036854775808 : UInt64)).toUInt32) 16).toUInt16).toUInt8)]) ++ [((eU (((p0.N ^^^ (9223372036854775808 : UInt64)).toUInt32).toUInt16) 8).toUInt8), ((((p0.N ^^^ (9223372036854775808 : UInt64)).toUInt32).toUInt16).toUInt8)])
 else
 bif (p0.Kind == (2 : Int)) then
 Option.bind (jF p0.N HZ) fun _ =>
 some ((((HZ ++ [((eU ((fA ((dR p0.N 32).toUInt32) 16).toUInt16) 8).toUInt8), (((fA ((dR p0.N 32).toUInt32) 16).toUInt16).toUInt8)]) ++ [((eU (((dR p0.N 32).toUInt32).toUInt16) 8).toUInt8), ((((dR p0.N 32).toUInt32).toUInt16).toUInt8)]) ++ [((eU ((fA (p0.N.toUInt32) 16).toUInt16) 8).toUInt8), (((fA (p0.N.toUInt32) 16).toUInt16).toUInt8)]) ++ [((eU ((p0.N.toUInt32).toUInt16) 8).toUInt8), (((p0.N.toUInt32).toUInt16).toUInt8)])
 else
 bif (p0.Kind == (3 : Int)) then
 Option.bind (oM (p0.N.toUInt8) HZ) fun _ =>
 some (HZ ++ [(p0.N.toUInt8)])
 else
 some HZ)
 fun Oz =>
 Option.bind (jf Oz) fun _ =>
 Option.bind (α := (List UInt8))
 (Option.bind (α := Bool)
 (bif (p0.Kind == (4 : Int)) then
 some true
 else
 some (p0.Kind == (5 : Int)))
 fun xJ =>
 bif xJ then
 Option.bind (IJ p0.S ([0] : List UInt8) ([0, 255] : List UInt8)) fun Zp =>
 bif decide ((Oz.length + Zp.length) * 1 ≤ room) then
 bif decide (((Oz ++ Zp).length + [(0 : UInt8), (0 : UInt8)].length) * 1 ≤ room) then
 some ((Oz ++ Zp) ++ [(0 : UInt8), (0 : UInt8)])
 else none
 else none
 else
 some Oz)
 fun Kz =>
 bif p1 then
 Option.bind (yF Kz) fun r82 =>
 some r82
 else
 some Kz
theorem Uo (p0 : ak) (p1 : Bool) : Le (FM p0 p1) (vH p0 p1) := by
 unfold FM vH
 repeat (first|exact Nk _|apply zb|apply zc|apply zl|apply zE|apply zm|exact zr _|intro _)
noncomputable def yG (p0 : List ak) (p1 : List Bool) : Option ((List UInt8) × Int) :=
 bif ((p0.length : Int) != (p1.length : Int)) then
 some (([] : List UInt8), (1 : Int))
 else
 Option.bind (eZ p0) fun Zx =>
 bif Zx then
 some (([] : List UInt8), (8 : Int))
 else
 Option.bind (α := (List UInt8))
 (Option.bind (α := (List UInt8))
 (jV (Y := (List UInt8) × Int) (W := (List UInt8)) (fun (DL, KG) =>
 bif (decide (KG < (p0.length : Int))) then
 Option.bind (bG p0 KG) fun v141 =>
 Option.bind (bG p1 KG) fun VF =>
 Option.bind (FM v141 VF) fun Ub =>
 bif decide ((DL.length + Ub.length) * 1 ≤ room) then
 some (Sum.inl ((DL ++ Ub), (bF (KG + (1 : Int)))))
 else none
 else
 some (Sum.inr DL)) (([] : List UInt8), (0 : Int)))
 (fun e => some e))
 fun tK =>
 bif (decide ((tK.length : Int) > (256 : Int))) then
 some (([] : List UInt8), (7 : Int))
 else
 some (tK, (0 : Int))
theorem Nl (p0 : List ak) (p1 : List Bool) : Le (yG p0 p1) (oz p0 p1) := by
 unfold yG oz
 repeat (first|exact kV _|exact Uo _ _|apply zb|apply zc|apply zl|apply zE|apply zm|exact zr _|intro _)
noncomputable def xZ (p0 : ak) (p1 : Bool) : Option ((List UInt8)) :=
 Option.bind (yG [p0] [p1]) fun (r9, M0) =>
 some r9
theorem Jb (p0 : ak) (p1 : Bool) : Le (xZ p0 p1) (pred_one p0 p1) := by
 unfold xZ pred_one
 repeat (first|exact Nl _ _|apply zb|apply zc|apply zl|apply zE|apply zm|exact zr _|intro _)
noncomputable def qC (p0 : List UInt8) : Option ((List UInt8)) :=
 Option.bind (vJ p0) fun (r9, M0) =>
 some r9
theorem Q5 (p0 : List UInt8) : Le (qC p0) (nP p0) := by
 unfold qC nP
 repeat (first|exact GA _|apply zb|apply zc|apply zl|apply zE|apply zm|exact zr _|intro _)
noncomputable def uw (p0 : aI) (p1 : List aA) (p2 : List UInt8) : Option (Bool × aW) :=
 bif decide (p2.length + ([1] : List UInt8).length ≤ 9223372036854775807) then
 bif decide (p2.length + ([1] : List UInt8).length ≤ 9223372036854775807) then
 Option.bind (qC (p2 ++ ([1] : List UInt8))) fun TV =>
 Option.bind (α := aW)
 (bif p0.Down then
 bif decide (p2.length + ([254] : List UInt8).length ≤ 9223372036854775807) then
 Option.bind (qC (p2 ++ ([254] : List UInt8))) fun TU =>
 some (aW.mk p2 TU false)
 else none
 else
 some (aW.mk (p2 ++ ([1] : List UInt8)) TV false))
 fun YS =>
 Option.bind (α := Bool × aW)
 (Option.bind (α := Bool × aW)
 (jV (Y := Bool × Int × aW) (W := Bool × aW) (fun (zH, uP, iF) =>
 bif (decide (uP < (p1.length : Int))) then
 Option.bind (α := Bool × aW)
 (Option.bind (bG p1 uP) fun nW =>
 Option.bind (α := Bool)
 (bif (nW.Kind != (2 : Int)) then
 some true
 else
 bif (nW.Col != p0.Col) then
 some true
 else
 bif (nW.Op == (3 : Int)) then
 some true
 else
 some (nW.Op == (6 : Int)))
 fun YM =>
 bif YM then
 some (zH, iF)
 else
 Option.bind (xZ nW.Val p0.Down) fun sj =>
 bif decide (p2.length + sj.length ≤ 9223372036854775807) then
 Option.bind (α := Bool)
 (bif (nW.Op == (4 : Int)) then
 some true
 else
 some (nW.Op == (5 : Int)))
 fun Ig =>
 Option.bind (α := Bool)
 (bif (Ig == p0.Down) then
 bif (nW.Op == (4 : Int)) then
 some true
 else
 some (nW.Op == (2 : Int))
 else
 some false)
 fun YL =>
 bif YL then
 Option.bind (qC (p2 ++ sj)) fun QV =>
 some (true, (aW.mk iF.Lo (minS iF.Hi QV) iF.Open))
 else
 bif (Ig == p0.Down) then
 some (true, (aW.mk iF.Lo (minS iF.Hi (p2 ++ sj)) iF.Open))
 else
 Option.bind (α := Bool)
 (bif (nW.Op == (4 : Int)) then
 some true
 else
 some (nW.Op == (2 : Int)))
 fun YK =>
 bif YK then
 some (true, (aW.mk (maxS iF.Lo (p2 ++ sj)) iF.Hi iF.Open))
 else
 Option.bind (qC (p2 ++ sj)) fun QU =>
 some (true, (aW.mk (maxS iF.Lo QU) iF.Hi iF.Open))
 else none)
 fun (YO, YN) =>
 some (Sum.inl (YO, (bF (uP + (1 : Int))), YN))
 else
 some (Sum.inr (zH, iF))) (false, (0 : Int), YS))
 (fun e => some e))
 fun (Vg, Tt) =>
 some (Vg, Tt)
 else none
 else none
theorem Jc (p0 : aI) (p1 : List aA) (p2 : List UInt8) : Le (uw p0 p1 p2) (kF p0 p1 p2) := by
 unfold uw kF
 repeat (first|exact Jb _ _|exact Q5 _|apply zb|apply zc|apply zl|apply zE|apply zm|exact zr _|intro _)
noncomputable def qM (p0 : List aI) (p1 : List aA) : Option (Int × Bool × aW) :=
 Option.bind (jR 1000 p1 (bF ((p1.length : Int) - (1 : Int))) true) fun (xY, ahu) =>
 Option.bind (α := (List UInt8) × Int)
 (Option.bind (α := (List UInt8) × Int)
 (jV (Y := (List UInt8) × Int) (W := (List UInt8) × Int) (fun (GU, GR) =>
 bif (decide (GR < (p0.length : Int))) then
 Option.bind (bG p0 GR) fun Iq =>
 Option.bind (fK xY Iq) fun Ua =>
 bif (decide (Ua < (0 : Int))) then
 some (Sum.inr (GU, GR))
 else
 Option.bind (bG xY Ua) fun TD =>
 Option.bind (xZ TD.Val Iq.Down) fun I8 =>
 bif decide (GU.length + I8.length ≤ 9223372036854775807) then
 some (Sum.inl ((GU ++ I8), (bF (GR + (1 : Int)))))
 else none
 else
 some (Sum.inr (GU, GR))) (([] : List UInt8), (0 : Int)))
 (fun e => some e))
 fun (KF, Fj) =>
 eu (Y := Unit) (E := Int × Bool × aW)
 (bif (decide (Fj < (p0.length : Int))) then
 Option.bind (bG p0 Fj) fun QH =>
 Option.bind (uw QH xY KF) fun (QZ, QY) =>
 bif QZ then
 some (Sum.inr (Fj, true, QY))
 else
 some (Sum.inl ())
 else
 some (Sum.inl ()))
 (fun _ =>
 Option.bind (vI KF) fun Wj =>
 some (Fj, false, Wj))
 (fun e => some e)
theorem KZ (p0 : List aI) (p1 : List aA) : Le (qM p0 p1) (iX p0 p1) := by
 unfold qM iX
 repeat (first|exact Gz _|exact xu _ _ _ _|exact l6 _ _|exact Jb _ _|exact Jc _ _ _|apply zb|apply zc|apply zl|apply zE|apply zm|exact zr _|intro _)
noncomputable def rP (p0 : aG) (p1 : Bool) : Option Int :=
 Option.bind (α := Int)
 (Option.bind (α := Int)
 (jV (Y := Int × Int) (W := Int) (fun (RQ, Yy) =>
 bif (decide (Yy < p0.Fixed)) then
 some (Sum.inl ((bF (Int.tdiv RQ (10 : Int))), (bF (Yy + (1 : Int)))))
 else
 some (Sum.inr RQ)) ((1000 : Int), (0 : Int)))
 (fun e => some e))
 fun RS =>
 Option.bind (α := Int)
 (bif p0.Bounded then
 some (bF (Int.tdiv RS (3 : Int)))
 else
 some RS)
 fun Yx =>
 bif p1 then
 some (1 : Int)
 else
 some (max Yx (1 : Int))
theorem Pk (p0 : aG) (p1 : Bool) : Le (rP p0 p1) (ni p0 p1) := by
 unfold rP ni
 repeat (first|apply zb|apply zc|apply zl|apply zE|apply zm|exact zr _|intro _)
noncomputable def Ak (p0 : List aA) : Option ((List Int)) :=
 Option.bind (α := (List Int))
 (Option.bind (α := (List Int))
 (jV (Y := (List Int) × Int) (W := (List Int)) (fun (Fh, Fg) =>
 bif (decide (Fg < (p0.length : Int))) then
 Option.bind (α := (List Int))
 (Option.bind (bG p0 Fg) fun v233 =>
 Option.bind (α := Bool)
 (bif (v233.Kind == (2 : Int)) then
 some true
 else
 some (v233.Kind == (3 : Int)))
 fun zq =>
 bif zq then
 bif decide ((Fh.length + [v233.Col].length) * 8 ≤ room) then
 some (Fh ++ [v233.Col])
 else none
 else
 some Fh)
 fun Y0 =>
 some (Sum.inl (Y0, (bF (Fg + (1 : Int)))))
 else
 some (Sum.inr Fh)) (([] : List Int), (0 : Int)))
 (fun e => some e))
 fun zK =>
 Option.bind (AJ zK) fun Wi =>
 Option.bind (jW Wi 0 zK.length) fun Wh =>
 some Wh
theorem Ph (p0 : List aA) : Le (Ak p0) (qD p0) := by
 unfold Ak qD
 repeat (first|exact Jz _|apply zb|apply zc|apply zl|apply zE|apply zm|exact zr _|intro _)
noncomputable def kH (p0 : bP) : Option ((List Int)) :=
 Option.bind (α := (List Int))
 (Option.bind (α := (List Int))
 (jV (Y := (List Int) × Int) (W := (List Int)) (fun (xJ, BQ) =>
 bif (decide (BQ < (p0.Order.length : Int))) then
 Option.bind (bG p0.Order BQ) fun v83 =>
 bif decide ((xJ.length + [v83.Col].length) * 8 ≤ room) then
 some (Sum.inl ((xJ ++ [v83.Col]), (bF (BQ + (1 : Int)))))
 else none
 else
 some (Sum.inr xJ)) (([] : List Int), (0 : Int)))
 (fun e => some e))
 fun HV =>
 some HV
theorem uD (p0 : bP) : Le (kH p0) (fD p0) := by
 unfold kH fD
 repeat (first|apply zb|apply zc|apply zl|apply zE|apply zm|exact zr _|intro _)
noncomputable def jQ (p0 : List (List Int)) : Option ((List Int)) :=
 Option.bind (α := Int)
 (Option.bind (α := Int)
 (jV (Y := Int × Int) (W := Int) (fun (OC, Ms) =>
 bif (decide (Ms < (p0.length : Int))) then
 Option.bind (α := Int)
 (Option.bind (bG p0 Ms) fun TF =>
 bif (decide ((bF (OC + (TF.length : Int))) < (0 : Int))) then
 none
 else
 some (bF (OC + (TF.length : Int))))
 fun Y3 =>
 some (Sum.inl (Y3, (bF (Ms + (1 : Int)))))
 else
 some (Sum.inr OC)) ((0 : Int), (0 : Int)))
 (fun e => some e))
 fun y159 =>
 Option.bind (ig y159) fun _ =>
 Option.bind (α := (List Int))
 (Option.bind (α := (List Int))
 (jV (Y := (List Int) × Int) (W := (List Int)) (fun (Mr, zK) =>
 bif (decide (zK < (p0.length : Int))) then
 Option.bind (bG p0 zK) fun v206 =>
 bif decide ((Mr.length + v206.length) * 8 ≤ room) then
 some (Sum.inl ((Mr ++ v206), (bF (zK + (1 : Int)))))
 else none
 else
 some (Sum.inr Mr)) (([] : List Int), (0 : Int)))
 (fun e => some e))
 fun Y1 =>
 some Y1
theorem wV (p0 : List (List Int)) : Le (jQ p0) (fG p0) := by
 unfold jQ fG
 repeat (first|apply zb|apply zc|apply zl|apply zE|apply zm|exact zr _|intro _)
noncomputable def sP (p0 : bP) : Option ((List Int)) :=
 Option.bind (Ak p0.Pred) fun QX =>
 Option.bind (kH p0) fun T9 =>
 Option.bind (jQ [QX, p0.aV, T9]) fun TW =>
 Option.bind (AJ TW) fun r29 =>
 Option.bind (jW r29 0 TW.length) fun r31 =>
 some r31
theorem Eh (p0 : bP) : Le (sP p0) (kI p0) := by
 unfold sP kI
 repeat (first|exact Ph _|exact uD _|exact wV _|exact Jz _|apply zb|apply zc|apply zl|apply zE|apply zm|exact zr _|intro _)
noncomputable def fO (p0 : List aI) (p1 : Int) : Option Int :=
 eu (Y := Unit) (E := Int)
 (Option.bind (α := Unit ⊕ Int)
 (jV (Y := Int) (W := Unit ⊕ Int) (fun KA =>
 bif (decide (KA < (p0.length : Int))) then
 Option.bind (bG p0 KA) fun v68 =>
 Option.bind (pW v68 p1) fun _ =>
 bif (v68.Col == p1) then
 some (Sum.inr (Sum.inr KA))
 else
 some (Sum.inl (bF (KA + (1 : Int))))
 else
 some (Sum.inr (Sum.inl ()))) (0 : Int))
 (Sum.elim (fun e => some (Sum.inl e)) (fun e => some (Sum.inr e))))
 (fun _ =>
 some (-1 : Int))
 (fun e => some e)
theorem l8 (p0 : List aI) (p1 : Int) : Le (fO p0 p1) (dJ p0 p1) := by
 unfold fO dJ
 repeat (first|apply zb|apply zc|apply zl|apply zE|apply zm|exact zr _|intro _)
noncomputable def fu (p0 : List aI) (p1 : Int) : Option Bool :=
 Option.bind (fO p0 p1) fun r7 =>
 some (decide (r7 ≥ (0 : Int)))
theorem kW (p0 : List aI) (p1 : Int) : Le (fu p0 p1) (dA p0 p1) := by
 unfold fu dA
 repeat (first|exact l8 _ _|apply zb|apply zc|apply zl|apply zE|apply zm|exact zr _|intro _)
noncomputable def kr (p0 : List Int) (p1 : Int) : Option Int :=
 eu (Y := Unit) (E := Int)
 (Option.bind (α := Unit ⊕ Int)
 (jV (Y := Int) (W := Unit ⊕ Int) (fun KC =>
 bif (decide (KC < (p0.length : Int))) then
 Option.bind (bG p0 KC) fun v51 =>
 bif (p1 == v51) then
 some (Sum.inr (Sum.inr KC))
 else
 some (Sum.inl (bF (KC + (1 : Int))))
 else
 some (Sum.inr (Sum.inl ()))) (0 : Int))
 (Sum.elim (fun e => some (Sum.inl e)) (fun e => some (Sum.inr e))))
 (fun _ =>
 some (-1 : Int))
 (fun e => some e)
theorem xO (p0 : List Int) (p1 : Int) : Le (kr p0 p1) (gL p0 p1) := by
 unfold kr gL
 repeat (first|apply zb|apply zc|apply zl|apply zE|apply zm|exact zr _|intro _)
noncomputable def iB (p0 : List Int) (p1 : Int) : Option Bool :=
 Option.bind (kr p0 p1) fun r7 =>
 some (decide (r7 ≥ (0 : Int)))
theorem uU (p0 : List Int) (p1 : Int) : Le (iB p0 p1) (dS p0 p1) := by
 unfold iB dS
 repeat (first|exact xO _ _|apply zb|apply zc|apply zl|apply zE|apply zm|exact zr _|intro _)
noncomputable def uz (p0 : Int) (p1 : bE) (p2 : aP) : Option Bool :=
 Option.bind (fu p1.Parts p0) fun TW =>
 Option.bind (α := Bool)
 (bif (!TW) then
 Option.bind (iB p1.Extra p0) fun r35 =>
 bif (!r35) then
 Option.bind (iB p2.aH p0) fun r37 =>
 some (!r37)
 else
 some false
 else
 some false)
 fun y32 =>
 some y32
theorem Jf (p0 : Int) (p1 : bE) (p2 : aP) : Le (uz p0 p1 p2) (kG p0 p1 p2) := by
 unfold uz kG
 repeat (first|exact kW _ _|exact uU _ _|apply zb|apply zc|apply zl|apply zE|apply zm|exact zr _|intro _)
noncomputable def iO (p0 : List Int) (p1 : bE) (p2 : aP) : Option Int :=
 eu (Y := Unit) (E := Int)
 (Option.bind (α := Unit ⊕ Int)
 (jV (Y := Int) (W := Unit ⊕ Int) (fun uY =>
 bif (decide (uY < (p0.length : Int))) then
 Option.bind (bG p0 uY) fun v85 =>
 Option.bind (uz v85 p1 p2) fun Hf =>
 bif Hf then
 some (Sum.inr (Sum.inr uY))
 else
 some (Sum.inl (bF (uY + (1 : Int))))
 else
 some (Sum.inr (Sum.inl ()))) (0 : Int))
 (Sum.elim (fun e => some (Sum.inl e)) (fun e => some (Sum.inr e))))
 (fun _ =>
 some (-1 : Int))
 (fun e => some e)
theorem rW (p0 : List Int) (p1 : bE) (p2 : aP) : Le (iO p0 p1 p2) (eP p0 p1 p2) := by
 unfold iO eP
 repeat (first|exact Jf _ _ _|apply zb|apply zc|apply zl|apply zE|apply zm|exact zr _|intro _)
noncomputable def iA (p0 : List Int) (p1 : bE) (p2 : aP) : Option Bool :=
 Option.bind (iO p0 p1 p2) fun r7 =>
 some (decide (r7 ≥ (0 : Int)))
theorem qh (p0 : List Int) (p1 : bE) (p2 : aP) : Le (iA p0 p1 p2) (dU p0 p1 p2) := by
 unfold iA dU
 repeat (first|exact rW _ _ _|apply zb|apply zc|apply zl|apply zE|apply zm|exact zr _|intro _)
noncomputable def yc (p0 : aP) (p1 : bE) (p2 : List Int) : Option Bool :=
 Option.bind (iA p2 p1 p0) fun r7 =>
 some (!r7)
theorem M6 (p0 : aP) (p1 : bE) (p2 : List Int) : Le (yc p0 p1 p2) (ou p0 p1 p2) := by
 unfold yc ou
 repeat (first|exact qh _ _ _|apply zb|apply zc|apply zl|apply zE|apply zm|exact zr _|intro _)
noncomputable def yh (p0 : aP) (p1 : bP) : Option ((List aG)) :=
 Option.bind (vI ([] : List UInt8)) fun vZ =>
 Option.bind (α := (List aI))
 (Option.bind (α := (List aI))
 (jV (Y := (List aI) × Int) (W := (List aI)) (fun (zH, uP) =>
 bif (decide (uP < (p0.aH.length : Int))) then
 Option.bind (bG p0.aH uP) fun KI =>
 bif decide ((zH.length + [(aI.mk KI false)].length) * 16 ≤ room) then
 some (Sum.inl ((zH ++ [(aI.mk KI false)]), (bF (uP + (1 : Int)))))
 else none
 else
 some (Sum.inr zH)) (([] : List aI), (0 : Int)))
 (fun e => some e))
 fun GQ =>
 Option.bind (qM GQ p1.Pred) fun (uq, xX, xW) =>
 Option.bind (α := (List aG))
 (Option.bind (α := Bool)
 (bif (decide (uq > (0 : Int))) then
 some true
 else
 some xX)
 fun YP =>
 bif YP then
 Option.bind (rP (aG.mk (-2 : Int) xW uq xX false (0 : Int)) (uq == (GQ.length : Int))) fun I5 =>
 bif decide (([(aG.mk (-1 : Int) vZ (0 : Int) false false (2000 : Int))].length + [(aG.mk (-2 : Int) xW uq xX false (bF ((1 : Int) + (bF ((2 : Int) * I5)))))].length) * 72 ≤ room) then
 some ([(aG.mk (-1 : Int) vZ (0 : Int) false false (2000 : Int))] ++ [(aG.mk (-2 : Int) xW uq xX false (bF ((1 : Int) + (bF ((2 : Int) * I5)))))])
 else none
 else
 some [(aG.mk (-1 : Int) vZ (0 : Int) false false (2000 : Int))])
 fun YQ =>
 Option.bind (sP p1) fun MX =>
 Option.bind (α := (List aG))
 (Option.bind (α := (List aG))
 (jV (Y := (List aG) × Int) (W := (List aG)) (fun (Cy, o7) =>
 bif (decide (o7 < (p0.bn.length : Int))) then
 Option.bind (α := (List aG))
 (Option.bind (bG p0.bn o7) fun zu =>
 bif (!zu.Ready) then
 some Cy
 else
 Option.bind (yc p0 zu MX) fun um =>
 Option.bind (qM zu.Parts p1.Pred) fun (vY, Ad, xV) =>
 Option.bind (α := Int)
 (bif zu.Unique then
 Option.bind (rP (aG.mk o7 xV vY Ad um (0 : Int)) (vY == (zu.Parts.length : Int))) fun Zn =>
 some Zn
 else
 Option.bind (rP (aG.mk o7 xV vY Ad um (0 : Int)) false) fun Zm =>
 some Zm)
 fun Ow =>
 Option.bind (α := aG)
 (bif um then
 some (aG.mk o7 xV vY Ad um (bF ((1 : Int) + Ow)))
 else
 some (aG.mk o7 xV vY Ad um (bF ((2 : Int) + (bF ((4 : Int) * Ow))))))
 fun Fe =>
 bif decide ((Cy.length + [Fe].length) * 72 ≤ room) then
 some (Cy ++ [Fe])
 else none)
 fun YH =>
 some (Sum.inl (YH, (bF (o7 + (1 : Int)))))
 else
 some (Sum.inr Cy)) (YQ, (0 : Int)))
 (fun e => some e))
 fun Tq =>
 some Tq
theorem M7 (p0 : aP) (p1 : bP) : Le (yh p0 p1) (mF p0 p1) := by
 unfold yh mF
 repeat (first|exact Gz _|exact KZ _ _|exact Pk _ _|exact Eh _|exact M6 _ _ _|apply zb|apply zc|apply zl|apply zE|apply zm|exact zr _|intro _)
noncomputable def x9 (p0 : List aB) (p1 : List aA) : Option Int :=
 bif (decide ((p1.length : Int) > (200 : Int))) then
 some (7 : Int)
 else
 eu (Y := (List Int)) (E := Int)
 (Option.bind (α := ((List Int)) ⊕ Int)
 (jV (Y := (List Int) × Int) (W := ((List Int)) ⊕ Int) (fun (eD, wN) =>
 bif (decide (wN < (p1.length : Int))) then
 eu (Y := (List Int)) (E := Int)
 (Option.bind (bG p1 wN) fun kT =>
 Option.bind (fT kT) fun je =>
 Option.bind (α := Bool)
 (Option.bind (jS kT (p0.length : Int)) fun SG =>
 bif (!SG) then
 some true
 else
 some (decide ((bF ((eD.length : Int) - je)) < (0 : Int))))
 fun R7 =>
 bif R7 then
 some (Sum.inr (1 : Int))
 else
 Option.bind (α := Bool)
 (bif (kT.Kind == (2 : Int)) then
 Option.bind (j3 kT.Val) fun Ck =>
 bif (!Ck) then
 some true
 else
 bif (kT.Val.Kind == (0 : Int)) then
 some true
 else
 Option.bind (bG p0 kT.Col) fun Ca =>
 some (kT.Val.Kind != Ca.Kind)
 else
 some false)
 fun R6 =>
 bif R6 then
 some (Sum.inr (8 : Int))
 else
 Option.bind (α := Int)
 (bif decide (0 ≤ (bF ((eD.length : Int) - je)) ∧ (bF ((eD.length : Int) - je)) ≤ (eD.length : Int)) then
 Option.bind (α := Int)
 (jV (Y := Int × Int) (W := Int) (fun (Gj, Gi) =>
 bif (decide (Gi < ((eD.length - (bF ((eD.length : Int) - je)).toNat : Nat) : Int))) then
 Option.bind (sD eD (0 + (bF ((eD.length : Int) - je)).toNat) (eD.length - (bF ((eD.length : Int) - je)).toNat) Gi) fun Lu =>
 some (Sum.inl ((max Gj Lu), (bF (Gi + (1 : Int)))))
 else
 some (Sum.inr Gj)) ((0 : Int), (0 : Int)))
 (fun e => some e)
 else none)
 fun DK =>
 bif decide (0 ≤ (bF ((eD.length : Int) - je)) ∧ (bF ((eD.length : Int) - je)) ≤ (eD.length : Int)) then
 bif decide (0 + ((bF ((eD.length : Int) - je)).toNat) ≤ eD.length) then
 bif decide ((((bF ((eD.length : Int) - je)).toNat) + [(bF (DK + (1 : Int)))].length) * 8 ≤ room) then
 some (Sum.inl (List.take ((bF ((eD.length : Int) - je)).toNat) (List.drop 0 eD) ++ [(bF (DK + (1 : Int)))]))
 else none
 else none
 else none)
 (fun R8 =>
 some (Sum.inl (R8, (bF (wN + (1 : Int))))))
 (fun e => some (Sum.inr (Sum.inr e)))
 else
 some (Sum.inr (Sum.inl eD))) (([] : List Int), (0 : Int)))
 (Sum.elim (fun e => some (Sum.inl e)) (fun e => some (Sum.inr e))))
 (fun y1228 =>
 bif ((y1228.length : Int) != (1 : Int)) then
 some (1 : Int)
 else
 Option.bind (bG y1228 (0 : Int)) fun Sl =>
 bif (decide (Sl > (24 : Int))) then
 some (7 : Int)
 else
 some (0 : Int))
 (fun e => some e)
theorem M5 (p0 : List aB) (p1 : List aA) : Le (x9 p0 p1) (oq p0 p1) := by
 unfold x9 oq
 repeat (first|apply zb|apply zc|apply zl|apply zE|apply zm|exact zr _|intro _)
noncomputable def iN (p0 : List Int) (p1 : aP) : Option Int :=
 eu (Y := Unit) (E := Int)
 (Option.bind (α := Unit ⊕ Int)
 (jV (Y := Int) (W := Unit ⊕ Int) (fun uY =>
 bif (decide (uY < (p0.length : Int))) then
 Option.bind (bG p0 uY) fun v85 =>
 Option.bind (pY v85 p1) fun Hf =>
 bif Hf then
 some (Sum.inr (Sum.inr uY))
 else
 some (Sum.inl (bF (uY + (1 : Int))))
 else
 some (Sum.inr (Sum.inl ()))) (0 : Int))
 (Sum.elim (fun e => some (Sum.inl e)) (fun e => some (Sum.inr e))))
 (fun _ =>
 some (-1 : Int))
 (fun e => some e)
theorem rV (p0 : List Int) (p1 : aP) : Le (iN p0 p1) (dN p0 p1) := by
 unfold iN dN
 repeat (first|apply zb|apply zc|apply zl|apply zE|apply zm|exact zr _|intro _)
noncomputable def fJ (p0 : List Int) (p1 : aP) : Option Bool :=
 Option.bind (iN p0 p1) fun r7 =>
 some (decide (r7 ≥ (0 : Int)))
theorem qg (p0 : List Int) (p1 : aP) : Le (fJ p0 p1) (bW p0 p1) := by
 unfold fJ bW
 repeat (first|exact rV _ _|apply zb|apply zc|apply zl|apply zE|apply zm|exact zr _|intro _)
noncomputable def yj (p0 : aP) (p1 : bP) : Option Int :=
 Option.bind (x9 p0.aV p1.Pred) fun YB =>
 bif (YB != (0 : Int)) then
 some YB
 else
 Option.bind (kH p1) fun O8 =>
 Option.bind (α := Bool)
 (bif (decide ((p1.aV.length : Int) > (24 : Int))) then
 some true
 else
 bif (decide ((O8.length : Int) > (4 : Int))) then
 some true
 else
 some (decide (p1.Limit < (-1 : Int))))
 fun KC =>
 bif KC then
 some (1 : Int)
 else
 Option.bind (α := Bool)
 (Option.bind (fJ p1.aV p0) fun r55 =>
 bif r55 then
 some true
 else
 Option.bind (fJ O8 p0) fun HZ =>
 some HZ)
 fun y52 =>
 bif y52 then
 some (1 : Int)
 else
 Option.bind (AJ O8) fun r59 =>
 Option.bind (jW r59 0 O8.length) fun r61 =>
 bif (decide ((r61.length : Int) < (p1.Order.length : Int))) then
 some (1 : Int)
 else
 some (0 : Int)
theorem M8 (p0 : aP) (p1 : bP) : Le (yj p0 p1) (mG p0 p1) := by
 unfold yj mG
 repeat (first|exact uD _|exact M5 _ _|exact qg _ _|exact Jz _|apply zb|apply zc|apply zl|apply zE|apply zm|exact zr _|intro _)
noncomputable def nJ (p0 : Int) (p1 : List aG) (p2 : List Int) : Option ((List Int)) :=
 Option.bind (α := (List Int))
 (jV (Y := Int × (List Int)) (W := (List Int)) (fun (Hz, Kz) =>
 Option.bind (α := Bool)
 (bif ((bF (Int.tdiv (bF (Hz - (1 : Int))) (2 : Int))) == Hz) then
 some true
 else
 Option.bind (dX p1 Kz 0 p2.length Hz (bF (Int.tdiv (bF (Hz - (1 : Int))) (2 : Int)))) fun Zo =>
 some (!Zo))
 fun y88 =>
 bif y88 then
 some (Sum.inr Kz)
 else
 Option.bind (eT p1 Kz 0 p2.length (bF (Int.tdiv (bF (Hz - (1 : Int))) (2 : Int))) Hz) fun r93 =>
 some (Sum.inl ((bF (Int.tdiv (bF (Hz - (1 : Int))) (2 : Int))), r93))) (p0, p2))
 (fun e => some e)
theorem BO (p0 : Int) (p1 : List aG) (p2 : List Int) : Le (nJ p0 p1 p2) (gX p0 p1 p2) := by
 unfold nJ gX
 repeat (first|apply zb|apply zc|apply zl|apply zE|apply zm|exact zr _|intro _)
noncomputable def jX (p0 : Int) (p1 : List aG) (p2 : List Int) (p3 : Nat) (p4 : Nat) : Option ((List Int)) :=
 Option.bind (jE p0 p1 p2 p3 p4) fun _ =>
 Option.bind (pX p1 (List.take p4 (List.drop p3 p2) ++ [p0])) fun _ =>
 Option.bind (nJ (bF (((List.take p4 (List.drop p3 p2) ++ [p0]).length : Int) - (1 : Int))) p1 (List.take p4 (List.drop p3 p2) ++ [p0])) fun r13 =>
 some r13
theorem xD (p0 : Int) (p1 : List aG) (p2 : List Int) (p3 : Nat) (p4 : Nat) : Le (jX p0 p1 p2 p3 p4) (fH p0 p1 p2 p3 p4) := by
 unfold jX fH
 repeat (first|exact BO _ _ _|apply zb|apply zc|apply zl|apply zE|apply zm|exact zr _|intro _)
noncomputable def lJ (p0 : Int) (p1 : Int) (p2 : List aG) (p3 : List Int) (p4 : Nat) (p5 : Nat) : Option (Bool × (List Int)) :=
 Option.bind (α := Int × (List Int))
 (Option.bind (α := Int × (List Int))
 (jV (Y := Int × (List Int)) (W := Int × (List Int)) (fun (mY, zo) =>
 Option.bind (α := Bool)
 (bif (decide ((bF ((bF ((2 : Int) * mY)) + (1 : Int))) ≥ p1)) then
 some true
 else
 some (decide ((bF ((bF ((2 : Int) * mY)) + (1 : Int))) < (0 : Int))))
 fun YU =>
 bif YU then
 some (Sum.inr (mY, zo))
 else
 Option.bind (α := Int)
 (Option.bind (α := Bool)
 (bif (decide ((bF ((bF ((bF ((2 : Int) * mY)) + (1 : Int))) + (1 : Int))) < p1)) then
 Option.bind (dX p2 zo p4 p5 (bF ((bF ((bF ((2 : Int) * mY)) + (1 : Int))) + (1 : Int))) (bF ((bF ((2 : Int) * mY)) + (1 : Int)))) fun r408 =>
 some r408
 else
 some false)
 fun YT =>
 bif YT then
 some (bF ((bF ((bF ((2 : Int) * mY)) + (1 : Int))) + (1 : Int)))
 else
 some (bF ((bF ((2 : Int) * mY)) + (1 : Int))))
 fun KD =>
 Option.bind (dX p2 zo p4 p5 KD mY) fun Zt =>
 bif (!Zt) then
 some (Sum.inr (mY, zo))
 else
 Option.bind (eT p2 zo p4 p5 mY KD) fun Zr =>
 some (Sum.inl (KD, Zr))) (p0, p3))
 (fun e => some e))
 fun (YW, YV) =>
 some ((decide (YW > p0)), YV)
theorem zC (p0 : Int) (p1 : Int) (p2 : List aG) (p3 : List Int) (p4 : Nat) (p5 : Nat) : Le (lJ p0 p1 p2 p3 p4 p5) (fE p0 p1 p2 p3 p4 p5) := by
 unfold lJ fE
 repeat (first|apply zb|apply zc|apply zl|apply zE|apply zm|exact zr _|intro _)
noncomputable def mQ (p0 : List aG) (p1 : List Int) (p2 : Nat) (p3 : Nat) : Option (Int × (List Int)) :=
 Option.bind (jc p0 p1 p2 p3) fun _ =>
 Option.bind (eT p0 p1 p2 p3 (0 : Int) (bF ((p3 : Int) - (1 : Int)))) fun r21 =>
 Option.bind (lJ (0 : Int) (bF ((p3 : Int) - (1 : Int))) p0 r21 p2 p3) fun (QX, r24) =>
 Option.bind (mD p0 r24 p2 p3) fun r26 =>
 some (r26, r24)
theorem AZ (p0 : List aG) (p1 : List Int) (p2 : Nat) (p3 : Nat) : Le (mQ p0 p1 p2 p3) (gK p0 p1 p2 p3) := by
 unfold mQ gK
 repeat (first|exact zC _ _ _ _ _ _|apply zb|apply zc|apply zl|apply zE|apply zm|exact zr _|intro _)
noncomputable def Ap (p0 : List aG) : Option ((List Int)) :=
 Option.bind (α := (List Int) × Nat)
 (Option.bind (α := (List Int) × Nat)
 (jV (Y := Int × (List Int) × Nat) (W := (List Int) × Nat) (fun (Im, BH, uQ) =>
 bif (decide (Im < (p0.length : Int))) then
 Option.bind (jX Im p0 BH 0 uQ) fun Q0 =>
 some (Sum.inl ((bF (Im + (1 : Int))), Q0, (List.take uQ (List.drop 0 BH) ++ [Im]).length))
 else
 some (Sum.inr (BH, uQ))) ((0 : Int), ([] : List Int), ([] : List Int).length))
 (fun e => some e))
 fun (Vp, Vo) =>
 Option.bind (α := (List Int))
 (Option.bind (α := (List Int))
 (jV (Y := (List Int) × (List Int) × Nat) (W := (List Int)) (fun (wL, OB, zq) =>
 Option.bind (jc p0 OB 0 zq) fun _ =>
 bif (decide ((zq : Int) > (0 : Int))) then
 Option.bind (mQ p0 OB 0 zq) fun (MZ, Zv) =>
 bif decide ((wL.length + [MZ].length) * 8 ≤ room) then
 some (Sum.inl ((wL ++ [MZ]), Zv, (bF ((zq : Int) - (1 : Int))).toNat))
 else none
 else
 some (Sum.inr wL)) (([] : List Int), Vp, Vo))
 (fun e => some e))
 fun TA =>
 some TA
theorem Pm (p0 : List aG) : Le (Ap p0) (oL p0) := by
 unfold Ap oL
 repeat (first|exact xD _ _ _ _ _|exact AZ _ _ _ _|apply zb|apply zc|apply zl|apply zE|apply zm|exact zr _|intro _)
noncomputable def xU (p0 : List Int) (p1 : List Int) : Option Bool :=
 bif ((p0.length : Int) != (p1.length : Int)) then
 some false
 else
 eu (Y := Unit) (E := Bool)
 (Option.bind (α := Unit ⊕ Bool)
 (jV (Y := Int) (W := Unit ⊕ Bool) (fun KA =>
 bif (decide (KA < (p0.length : Int))) then
 Option.bind (bG p0 KA) fun v68 =>
 Option.bind (bG p1 KA) fun v69 =>
 bif (v68 != v69) then
 some (Sum.inr (Sum.inr false))
 else
 some (Sum.inl (bF (KA + (1 : Int))))
 else
 some (Sum.inr (Sum.inl ()))) (0 : Int))
 (Sum.elim (fun e => some (Sum.inl e)) (fun e => some (Sum.inr e))))
 (fun _ =>
 some true)
 (fun e => some e)
theorem QT (p0 : List Int) (p1 : List Int) : Le (xU p0 p1) (kZ p0 p1) := by
 unfold xU kZ
 repeat (first|apply zb|apply zc|apply zl|apply zE|apply zm|exact zr _|intro _)
noncomputable def Ct : Option Bool :=
 Option.bind (yh (aP.mk ([97] : List UInt8) [(aB.mk ([105, 100] : List UInt8) (1 : Int) (0 : Int) false (ak.mk (1 : Int) (0 : UInt64) ([] : List UInt8))), (aB.mk ([110] : List UInt8) (1 : Int) (0 : Int) false (ak.mk (1 : Int) (0 : UInt64) ([] : List UInt8)))] [(0 : Int)] [(bE.mk ([120] : List UInt8) [(aI.mk (1 : Int) false)] ([] : List Int) false true (3 : Int))] (2 : Int)) (bP.mk [(aA.mk (2 : Int) (1 : Int) (3 : Int) (ak.mk (1 : Int) (5 : UInt64) ([] : List UInt8)))] [(0 : Int)] ([] : List aI) (-1 : Int))) fun TT =>
 Option.bind (α := Bool)
 (Option.bind (yj (aP.mk ([97] : List UInt8) [(aB.mk ([105, 100] : List UInt8) (1 : Int) (0 : Int) false (ak.mk (1 : Int) (0 : UInt64) ([] : List UInt8))), (aB.mk ([110] : List UInt8) (1 : Int) (0 : Int) false (ak.mk (1 : Int) (0 : UInt64) ([] : List UInt8)))] [(0 : Int)] [(bE.mk ([120] : List UInt8) [(aI.mk (1 : Int) false)] ([] : List Int) false true (3 : Int))] (2 : Int)) (bP.mk [(aA.mk (2 : Int) (1 : Int) (3 : Int) (ak.mk (1 : Int) (5 : UInt64) ([] : List UInt8)))] [(0 : Int)] ([] : List aI) (-1 : Int))) fun YA =>
 bif (YA == (0 : Int)) then
 bif ((TT.length : Int) == (2 : Int)) then
 Option.bind (bG TT (0 : Int)) fun v81 =>
 bif (v81.Index == (-1 : Int)) then
 Option.bind (bG TT (1 : Int)) fun v82 =>
 bif v82.Covers then
 Option.bind (bG TT (1 : Int)) fun v83 =>
 bif (v83.jL == (101 : Int)) then
 Option.bind (Ap TT) fun r85 =>
 Option.bind (xU r85 [(1 : Int), (0 : Int)]) fun Hf =>
 bif Hf then
 Option.bind (sP (bP.mk [(aA.mk (2 : Int) (1 : Int) (3 : Int) (ak.mk (1 : Int) (5 : UInt64) ([] : List UInt8)))] [(0 : Int)] ([] : List aI) (-1 : Int))) fun r89 =>
 Option.bind (xU r89 [(0 : Int), (1 : Int)]) fun Zo =>
 some Zo
 else
 some false
 else
 some false
 else
 some false
 else
 some false
 else
 some false
 else
 some false)
 fun y77 =>
 some y77
theorem La : Le (Ct) (mJ) := by
 unfold Ct mJ
 repeat (first|exact Eh _|exact M7 _ _|exact M8 _ _|exact Pm _|exact QT _ _|apply zb|apply zc|apply zl|apply zE|apply zm|exact zr _|intro _)
theorem FK : mJ = some true := La _ (by kernel_rfl)
end Lv
