/- The functions once more, with loops of so many rounds: for reckoning the fixed examples. -/
import Derived.Test.YtjnpmmiacggffaaGreatDoorXAll
import Derived.KernelRfl
namespace Lv
open Go Go.Proofs
set_option linter.unusedVariables false
set_option linter.unusedSimpArgs false
set_option linter.unusedSectionVars false
set_option maxRecDepth 100000
set_option maxHeartbeats 4000000
variable [BaseTab]
def Le {α : Type} (a b : Option α) : Prop := ∀ r, a = some r → b = some r
theorem zr {α : Type} (a : Option α) : Le a a := fun _ h => h
theorem zb {α β : Type} {a a' : Option α} {f f' : α → Option β} (h : Le a a') (k : ∀ x, Le (f x) (f' x)) : Le (Option.bind a f) (Option.bind a' f') := by
 intro r hr
 cases ha : a with
 | none => rw [ha] at hr; cases hr
 | some x =>
  rw [ha] at hr
  rw [h x ha]
  exact k x r hr
theorem zc {α : Type} {c : Bool} {a a' b b' : Option α} (h : Le a a') (k : Le b b') : Le (bif c then a else b) (bif c then a' else b') := by
 cases c
 ·exact k
 ·exact h
theorem zm {α β γ : Type} {f f' : α → Option γ} {g g' : β → Option γ} {s : α ⊕ β} (h : ∀ x, Le (f x) (f' x)) (k : ∀ x, Le (g x) (g' x)) : Le (Sum.elim f g s) (Sum.elim f' g' s) := by
 cases s
 ·exact h _
 ·exact k _
theorem zE {Y E R : Type} {p p' : Option (Y ⊕ E)} {k k' : Y → Option R} {e e' : E → Option R} (h : Le p p') (hk : ∀ x, Le (k x) (k' x)) (he : ∀ x, Le (e x) (e' x)) : Le (bindE p k e) (bindE p' k' e') :=
 zb h fun x => zm hk he
def loopF {Y W : Type} (B : Y → Option (Y ⊕ W)) (y : Y) : Option W := loopN B 12 y
theorem zn {Y W : Type} {B B' : Y → Option (Y ⊕ W)} (h : ∀ y, Le (B y) (B' y)) : ∀ n y, Le (loopN B n y) (loopN B' n y)
 | 0, y => fun _ h => by cases h
 | n + 1, y => by
  intro r hr
  simp only [Lv.loopN] at hr ⊢
  cases hb : B y with
  | none => rw [hb] at hr; cases hr
  | some s =>
   rw [hb] at hr
   rw [h y s hb]
   cases s with
   | inl y' => exact zn h n y' r hr
   | inr w => exact hr
theorem zl {Y W : Type} {B B' : Y → Option (Y ⊕ W)} {y : Y} (h : ∀ y, Le (B y) (B' y)) : Le (loopF B y) (loop B' y) := fun r hr => loop_of (zn h _ y r hr)
def insI_ (x : Int) : List Int → List Int
 | [] => [x]
 | y :: l => if x ≤ y then x :: y :: l else y :: insI_ x l
def srtI_ : List Int → List Int
 | [] => []
 | x :: l => insI_ x (srtI_ l)
theorem insI_perm (x : Int) : ∀ l, (insI_ x l).Perm (x :: l)
 | [] => .refl _
 | y :: l => by
  unfold insI_
  split
  ·exact .refl _
  ·exact ((insI_perm x l).cons y).trans (.swap x y l)
theorem srtI_perm : ∀ l, (srtI_ l).Perm l
 | [] => .refl _
 | x :: l => (insI_perm x _).trans ((srtI_perm l).cons x)
theorem insI_pw (x : Int) : ∀ {l}, l.Pairwise (fun a b : Int => a ≤ b) → (insI_ x l).Pairwise (fun a b : Int => a ≤ b)
 | [], _ => by simp [insI_]
 | y :: l, h => by
  rw [List.pairwise_cons] at h
  unfold insI_
  split
  ·rename_i q
   exact .cons (fun z hz => by rcases List.mem_cons.1 hz with rfl | hz; exact q; have := h.1 z hz; omega) (.cons h.1 h.2)
  ·rename_i q
   refine .cons (fun z hz => ?_) (insI_pw x h.2)
   rcases List.mem_cons.1 ((insI_perm x l).mem_iff.1 hz) with rfl | hz
   ·omega
   ·exact h.1 z hz
theorem srtI_pw : ∀ l, (srtI_ l).Pairwise (fun a b : Int => a ≤ b)
 | [] => .nil
 | x :: l => insI_pw x (srtI_pw l)
theorem pw_perm : ∀ {a b : List Int}, a.Pairwise (fun x y : Int => x ≤ y) → b.Pairwise (fun x y : Int => x ≤ y) → a.Perm b → a = b
 | [], b, _, _, h => (List.Perm.nil_eq h)
 | x :: a, [], _, _, h => by have := h.length_eq; simp at this
 | x :: a, y :: b, ha, hb, h => by
  rw [List.pairwise_cons] at ha hb
  have h1 : x ≤ y := by
   rcases List.mem_cons.1 (h.mem_iff.2 (List.mem_cons_self ..)) with e | hy
   ·omega
   ·exact ha.1 y hy
  have h2 : y ≤ x := by
   rcases List.mem_cons.1 (h.mem_iff.1 (List.mem_cons_self ..)) with e | hx
   ·omega
   ·exact hb.1 x hx
  obtain rfl : x = y := by omega
  rw [pw_perm ha.2 hb.2 (List.Perm.cons_inv h)]
theorem srtI_eq (l : List Int) : l.mergeSort (fun x y => decide (x ≤ y)) = srtI_ l := by
 refine pw_perm ?_ (srtI_pw l) ((List.mergeSort_perm l _).trans (srtI_perm l).symm)
 have := List.pairwise_mergeSort (le := fun x y : Int => decide (x ≤ y)) (fun a b c h1 h2 => by simp only [decide_eq_true_eq] at *; omega) (fun a b => by simp only [Bool.or_eq_true, decide_eq_true_eq]; omega) l
 exact this.imp fun h => by simpa using h
def isortF_K (l : List Int) : Option (List Int) := if l.length < 4611686018427387904 then some (srtI_ l) else none
theorem isortF_L (l : List Int) : Le (isortF_K l) (isortF l) := by
 intro r h
 unfold isortF_K at h
 split at h
 ·rename_i hs
  obtain rfl := Option.some.inj h
  unfold isortF
  rw [if_pos hs, srtI_eq]
 ·cases h
noncomputable def key_After_K (p0 : List UInt8) : Option ((List UInt8) × Bool) :=
 Option.bind (α := Nat)
 (Option.bind (α := Nat)
 (loopF (Y := Nat) (W := Nat) (fun y120 =>
 Option.bind (α := Bool)
 (bif (decide ((y120 : Int) > (0 : Int))) then
 Option.bind (getS p0 0 y120 (w64 ((y120 : Int) - (1 : Int)))) fun v132 =>
 some (v132 == (255 : UInt8))
 else
 some false)
 fun y130 =>
 bif y130 then
 bif decide (0 ≤ (w64 ((y120 : Int) - (1 : Int))) ∧ (w64 ((y120 : Int) - (1 : Int))) ≤ (y120 : Int)) then
 some (Sum.inl ((w64 ((y120 : Int) - (1 : Int))).toNat))
 else none
 else
 some (Sum.inr y120)) p0.length)
 (fun e => some e))
 fun y113 =>
 bif ((y113 : Int) == (0 : Int)) then
 some (([] : List UInt8), false)
 else
 Option.bind (getS p0 0 y113 (w64 ((y113 : Int) - (1 : Int)))) fun v135 =>
 Option.bind (getS p0 0 y113 (w64 ((y113 : Int) - (1 : Int)))) fun v136 =>
 bif decide (0 + y113 ≤ (List.set p0 ((w64 ((y113 : Int) - (1 : Int))).toNat) (v135 + (1 : UInt8))).length) then
 some ((List.take y113 (List.drop 0 (List.set p0 ((w64 ((y113 : Int) - (1 : Int))).toNat) (v135 + (1 : UInt8))))), true)
 else none
theorem key_After_L (p0 : List UInt8) : Le (key_After_K p0) (key_After p0) := by
 unfold key_After_K key_After
 repeat (first|apply zb|apply zc|apply zl|apply zE|apply zm|exact zr _|intro _)
noncomputable def key_Under_K (p0 : List UInt8) : Option ApiSpan :=
 Option.bind (key_After_K p0) fun (r9, r10) =>
 some (ApiSpan.mk p0 r9 (!r10))
theorem key_Under_L (p0 : List UInt8) : Le (key_Under_K p0) (key_Under p0) := by
 unfold key_Under_K key_Under
 repeat (first|exact key_After_L _|apply zb|apply zc|apply zl|apply zE|apply zm|exact zr _|intro _)
noncomputable def pred_conjuncts_K : Nat → (List PredNode) → Int → Bool → Option ((List PredNode) × Int)
 | 0, _, _, _ => none
 | n + 1, p0, p1, p2 =>
  Option.bind (getI p0 p1) fun v229 =>
  Option.bind (α := Bool)
   (bif p2 then
    Option.bind (pred_Node_takes v229) fun r235 =>
    bif (r235 == (0 : Int)) then
     some true
    else
     bif p2 then
      some (v229.Kind == (4 : Int))
     else
      some false
   else
    bif p2 then
     some (v229.Kind == (4 : Int))
    else
     some false)
   fun y232 =>
  Option.bind (α := (List PredNode) × Int)
   (Option.bind (pred_Node_takes v229) fun r263 =>
   Option.bind (α := (List PredNode) × Int)
    (loopF (Y := (List PredNode) × Int × Int) (W := (List PredNode) × Int) (fun (y268, y269, y270) =>
     bif (decide (y270 < r263)) then
      Option.bind (pred_conjuncts_K n p0 y269 y232) fun (r281, r282) =>
      bif decide ((r281.length + y268.length) * 56 ≤ room) then
      some (Sum.inl ((r281 ++ y268), r282, (w64 (y270 + (1 : Int)))))
      else none
     else
      some (Sum.inr (y268, y269))) (([] : List PredNode), (w64 (p1 - (1 : Int))), (0 : Int)))
    (fun e => some e))
   fun (y259, y260) =>
  Option.bind (α := (List PredNode))
   (Option.bind (α := Bool)
    (bif y232 then
     bif (v229.Kind == (2 : Int)) then
      some true
     else
      some (v229.Kind == (3 : Int))
    else
     some false)
    fun y290 =>
   bif y290 then
    bif decide ((y259.length + [v229].length) * 56 ≤ room) then
    some (y259 ++ [v229])
    else none
   else
    some y259)
   fun y288 =>
  some (y288, y260)
theorem pred_conjuncts_L : ∀ (n : Nat) p0 p1 p2, Le (pred_conjuncts_K n p0 p1 p2) (pred_conjuncts n p0 p1 p2)
 | 0, _, _, _ => by
  intro r h
  unfold pred_conjuncts_K at h
  cases h
 | n + 1, p0, p1, p2 => by
  unfold pred_conjuncts_K pred_conjuncts
  repeat (first|exact pred_conjuncts_L n _ _ _|apply zb|apply zc|apply zl|apply zE|apply zm|exact zr _|intro _)
noncomputable def slices_IndexFunc_pred_Node_pred_Node_K (p0 : List PredNode) (p1 : ApiPart) : Option Int :=
 bindE (Y := Unit) (E := Int)
 (Option.bind (α := Unit ⊕ Int)
 (loopF (Y := Int) (W := Unit ⊕ Int) (fun y78 =>
 bif (decide (y78 < (p0.length : Int))) then
 Option.bind (getI p0 y78) fun v85 =>
 Option.bind (pred_Bounds_1 v85 p1) fun r87 =>
 bif r87 then
 some (Sum.inr (Sum.inr y78))
 else
 some (Sum.inl (w64 (y78 + (1 : Int))))
 else
 some (Sum.inr (Sum.inl ()))) (0 : Int))
 (Sum.elim (fun e => some (Sum.inl e)) (fun e => some (Sum.inr e))))
 (fun _ =>
 some (-1 : Int))
 (fun e => some e)
theorem slices_IndexFunc_pred_Node_pred_Node_L (p0 : List PredNode) (p1 : ApiPart) : Le (slices_IndexFunc_pred_Node_pred_Node_K p0 p1) (slices_IndexFunc_pred_Node_pred_Node p0 p1) := by
 unfold slices_IndexFunc_pred_Node_pred_Node_K slices_IndexFunc_pred_Node_pred_Node
 repeat (first|apply zb|apply zc|apply zl|apply zE|apply zm|exact zr _|intro _)
noncomputable def slices_IndexFunc_api_Value_api_Value_K (p0 : List ApiValue) : Option Int :=
 bindE (Y := Unit) (E := Int)
 (Option.bind (α := Unit ⊕ Int)
 (loopF (Y := Int) (W := Unit ⊕ Int) (fun y78 =>
 bif (decide (y78 < (p0.length : Int))) then
 Option.bind (getI p0 y78) fun v85 =>
 Option.bind (key_Encode_1 v85) fun r87 =>
 bif r87 then
 some (Sum.inr (Sum.inr y78))
 else
 some (Sum.inl (w64 (y78 + (1 : Int))))
 else
 some (Sum.inr (Sum.inl ()))) (0 : Int))
 (Sum.elim (fun e => some (Sum.inl e)) (fun e => some (Sum.inr e))))
 (fun _ =>
 some (-1 : Int))
 (fun e => some e)
theorem slices_IndexFunc_api_Value_api_Value_L (p0 : List ApiValue) : Le (slices_IndexFunc_api_Value_api_Value_K p0) (slices_IndexFunc_api_Value_api_Value p0) := by
 unfold slices_IndexFunc_api_Value_api_Value_K slices_IndexFunc_api_Value_api_Value
 repeat (first|apply zb|apply zc|apply zl|apply zE|apply zm|exact zr _|intro _)
noncomputable def slices_ContainsFunc_api_Value_api_Value_K (p0 : List ApiValue) : Option Bool :=
 Option.bind (slices_IndexFunc_api_Value_api_Value_K p0) fun r7 =>
 some (decide (r7 ≥ (0 : Int)))
theorem slices_ContainsFunc_api_Value_api_Value_L (p0 : List ApiValue) : Le (slices_ContainsFunc_api_Value_api_Value_K p0) (slices_ContainsFunc_api_Value_api_Value p0) := by
 unfold slices_ContainsFunc_api_Value_api_Value_K slices_ContainsFunc_api_Value_api_Value
 repeat (first|exact slices_IndexFunc_api_Value_api_Value_L _|apply zb|apply zc|apply zl|apply zE|apply zm|exact zr _|intro _)
noncomputable def key_turned_K (p0 : List UInt8) : Option ((List UInt8)) :=
 Option.bind (α := (List UInt8))
 (Option.bind (α := (List UInt8))
 (loopF (Y := (List UInt8) × Int) (W := (List UInt8)) (fun (y75, y76) =>
 bif (decide (y76 < (p0.length : Int))) then
 Option.bind (getI y75 y76) fun v83 =>
 Option.bind (getI y75 y76) fun v84 =>
 some (Sum.inl ((List.set y75 y76.toNat (~~~ v83)), (w64 (y76 + (1 : Int)))))
 else
 some (Sum.inr y75)) (p0, (0 : Int)))
 (fun e => some e))
 fun y71 =>
 some y71
theorem key_turned_L (p0 : List UInt8) : Le (key_turned_K p0) (key_turned p0) := by
 unfold key_turned_K key_turned
 repeat (first|apply zb|apply zc|apply zl|apply zE|apply zm|exact zr _|intro _)
noncomputable def key_one_K (p0 : ApiValue) (p1 : Bool) : Option ((List UInt8)) :=
 Option.bind (pack_Out_Flag (p0.Kind != (0 : Int))) fun r57 =>
 Option.bind (α := (List UInt8))
 (bif (p0.Kind == (1 : Int)) then
 Option.bind (pack_Out_U64 (p0.N ^^^ (9223372036854775808 : UInt64)) r57) fun _ =>
 some ((((r57 ++ [((shr16 ((shr32 ((shr64 (p0.N ^^^ (9223372036854775808 : UInt64)) 32).toUInt32) 16).toUInt16) 8).toUInt8), (((shr32 ((shr64 (p0.N ^^^ (9223372036854775808 : UInt64)) 32).toUInt32) 16).toUInt16).toUInt8)]) ++ [((shr16 (((shr64 (p0.N ^^^ (9223372036854775808 : UInt64)) 32).toUInt32).toUInt16) 8).toUInt8), ((((shr64 (p0.N ^^^ (9223372036854775808 : UInt64)) 32).toUInt32).toUInt16).toUInt8)]) ++ [((shr16 ((shr32 ((p0.N ^^^ (9223372036854775808 : UInt64)).toUInt32) 16).toUInt16) 8).toUInt8), (((shr32 ((p0.N ^^^ (9223372036854775808 : UInt64)).toUInt32) 16).toUInt16).toUInt8)]) ++ [((shr16 (((p0.N ^^^ (9223372036854775808 : UInt64)).toUInt32).toUInt16) 8).toUInt8), ((((p0.N ^^^ (9223372036854775808 : UInt64)).toUInt32).toUInt16).toUInt8)])
 else
 bif (p0.Kind == (2 : Int)) then
 Option.bind (pack_Out_U64 p0.N r57) fun _ =>
 some ((((r57 ++ [((shr16 ((shr32 ((shr64 p0.N 32).toUInt32) 16).toUInt16) 8).toUInt8), (((shr32 ((shr64 p0.N 32).toUInt32) 16).toUInt16).toUInt8)]) ++ [((shr16 (((shr64 p0.N 32).toUInt32).toUInt16) 8).toUInt8), ((((shr64 p0.N 32).toUInt32).toUInt16).toUInt8)]) ++ [((shr16 ((shr32 (p0.N.toUInt32) 16).toUInt16) 8).toUInt8), (((shr32 (p0.N.toUInt32) 16).toUInt16).toUInt8)]) ++ [((shr16 ((p0.N.toUInt32).toUInt16) 8).toUInt8), (((p0.N.toUInt32).toUInt16).toUInt8)])
 else
 bif (p0.Kind == (3 : Int)) then
 Option.bind (pack_Out_U8 (p0.N.toUInt8) r57) fun _ =>
 some (r57 ++ [(p0.N.toUInt8)])
 else
 some r57)
 fun y61 =>
 Option.bind (pack_Out_Bytes y61) fun _ =>
 Option.bind (α := (List UInt8))
 (Option.bind (α := Bool)
 (bif (p0.Kind == (4 : Int)) then
 some true
 else
 some (p0.Kind == (5 : Int)))
 fun y75 =>
 bif y75 then
 Option.bind (replF p0.S ([0] : List UInt8) ([0, 255] : List UInt8)) fun r78 =>
 bif decide ((y61.length + r78.length) * 1 ≤ room) then
 bif decide (((y61 ++ r78).length + [(0 : UInt8), (0 : UInt8)].length) * 1 ≤ room) then
 some ((y61 ++ r78) ++ [(0 : UInt8), (0 : UInt8)])
 else none
 else none
 else
 some y61)
 fun y73 =>
 bif p1 then
 Option.bind (key_turned_K y73) fun r82 =>
 some r82
 else
 some y73
theorem key_one_L (p0 : ApiValue) (p1 : Bool) : Le (key_one_K p0 p1) (key_one p0 p1) := by
 unfold key_one_K key_one
 repeat (first|exact key_turned_L _|apply zb|apply zc|apply zl|apply zE|apply zm|exact zr _|intro _)
noncomputable def key_Encode_K (p0 : List ApiValue) (p1 : List Bool) : Option ((List UInt8) × Int) :=
 bif ((p0.length : Int) != (p1.length : Int)) then
 some (([] : List UInt8), (1 : Int))
 else
 Option.bind (slices_ContainsFunc_api_Value_api_Value_K p0) fun r100 =>
 bif r100 then
 some (([] : List UInt8), (8 : Int))
 else
 Option.bind (α := (List UInt8))
 (Option.bind (α := (List UInt8))
 (loopF (Y := (List UInt8) × Int) (W := (List UInt8)) (fun (y130, y131) =>
 bif (decide (y131 < (p0.length : Int))) then
 Option.bind (getI p0 y131) fun v141 =>
 Option.bind (getI p1 y131) fun v142 =>
 Option.bind (key_one_K v141 v142) fun r144 =>
 bif decide ((y130.length + r144.length) * 1 ≤ room) then
 some (Sum.inl ((y130 ++ r144), (w64 (y131 + (1 : Int)))))
 else none
 else
 some (Sum.inr y130)) (([] : List UInt8), (0 : Int)))
 (fun e => some e))
 fun y123 =>
 bif (decide ((y123.length : Int) > (256 : Int))) then
 some (([] : List UInt8), (7 : Int))
 else
 some (y123, (0 : Int))
theorem key_Encode_L (p0 : List ApiValue) (p1 : List Bool) : Le (key_Encode_K p0 p1) (key_Encode p0 p1) := by
 unfold key_Encode_K key_Encode
 repeat (first|exact slices_ContainsFunc_api_Value_api_Value_L _|exact key_one_L _ _|apply zb|apply zc|apply zl|apply zE|apply zm|exact zr _|intro _)
noncomputable def pred_one_K (p0 : ApiValue) (p1 : Bool) : Option ((List UInt8)) :=
 Option.bind (key_Encode_K [p0] [p1]) fun (r9, r10) =>
 some r9
theorem pred_one_L (p0 : ApiValue) (p1 : Bool) : Le (pred_one_K p0 p1) (pred_one p0 p1) := by
 unfold pred_one_K pred_one
 repeat (first|exact key_Encode_L _ _|apply zb|apply zc|apply zl|apply zE|apply zm|exact zr _|intro _)
noncomputable def pred_end_K (p0 : List UInt8) : Option ((List UInt8)) :=
 Option.bind (key_After_K p0) fun (r9, r10) =>
 some r9
theorem pred_end_L (p0 : List UInt8) : Le (pred_end_K p0) (pred_end p0) := by
 unfold pred_end_K pred_end
 repeat (first|exact key_After_L _|apply zb|apply zc|apply zl|apply zE|apply zm|exact zr _|intro _)
noncomputable def pred_bounded_K (p0 : ApiPart) (p1 : List PredNode) (p2 : List UInt8) : Option (Bool × ApiSpan) :=
 bif decide (p2.length + ([1] : List UInt8).length ≤ 9223372036854775807) then
 bif decide (p2.length + ([1] : List UInt8).length ≤ 9223372036854775807) then
 Option.bind (pred_end_K (p2 ++ ([1] : List UInt8))) fun r492 =>
 Option.bind (α := ApiSpan)
 (bif p0.Down then
 bif decide (p2.length + ([254] : List UInt8).length ≤ 9223372036854775807) then
 Option.bind (pred_end_K (p2 ++ ([254] : List UInt8))) fun r500 =>
 some (ApiSpan.mk p2 r500 false)
 else none
 else
 some (ApiSpan.mk (p2 ++ ([1] : List UInt8)) r492 false))
 fun y496 =>
 Option.bind (α := Bool × ApiSpan)
 (Option.bind (α := Bool × ApiSpan)
 (loopF (Y := Bool × Int × ApiSpan) (W := Bool × ApiSpan) (fun (y653, y654, y655) =>
 bif (decide (y654 < (p1.length : Int))) then
 Option.bind (α := Bool × ApiSpan)
 (Option.bind (getI p1 y654) fun v715 =>
 Option.bind (α := Bool)
 (bif (v715.Kind != (2 : Int)) then
 some true
 else
 bif (v715.Col != p0.Col) then
 some true
 else
 bif (v715.Op == (3 : Int)) then
 some true
 else
 some (v715.Op == (6 : Int)))
 fun y716 =>
 bif y716 then
 some (y653, y655)
 else
 Option.bind (pred_one_K v715.Val p0.Down) fun r719 =>
 bif decide (p2.length + r719.length ≤ 9223372036854775807) then
 Option.bind (α := Bool)
 (bif (v715.Op == (4 : Int)) then
 some true
 else
 some (v715.Op == (5 : Int)))
 fun y721 =>
 Option.bind (α := Bool)
 (bif (y721 == p0.Down) then
 bif (v715.Op == (4 : Int)) then
 some true
 else
 some (v715.Op == (2 : Int))
 else
 some false)
 fun y723 =>
 bif y723 then
 Option.bind (pred_end_K (p2 ++ r719)) fun r726 =>
 some (true, (ApiSpan.mk y655.Lo (minS y655.Hi r726) y655.Open))
 else
 bif (y721 == p0.Down) then
 some (true, (ApiSpan.mk y655.Lo (minS y655.Hi (p2 ++ r719)) y655.Open))
 else
 Option.bind (α := Bool)
 (bif (v715.Op == (4 : Int)) then
 some true
 else
 some (v715.Op == (2 : Int)))
 fun y727 =>
 bif y727 then
 some (true, (ApiSpan.mk (maxS y655.Lo (p2 ++ r719)) y655.Hi y655.Open))
 else
 Option.bind (pred_end_K (p2 ++ r719)) fun r730 =>
 some (true, (ApiSpan.mk (maxS y655.Lo r730) y655.Hi y655.Open))
 else none)
 fun (y712, y713) =>
 some (Sum.inl (y712, (w64 (y654 + (1 : Int))), y713))
 else
 some (Sum.inr (y653, y655))) (false, (0 : Int), y496))
 (fun e => some e))
 fun (y615, y616) =>
 some (y615, y616)
 else none
 else none
theorem pred_bounded_L (p0 : ApiPart) (p1 : List PredNode) (p2 : List UInt8) : Le (pred_bounded_K p0 p1 p2) (pred_bounded p0 p1 p2) := by
 unfold pred_bounded_K pred_bounded
 repeat (first|exact pred_one_L _ _|exact pred_end_L _|apply zb|apply zc|apply zl|apply zE|apply zm|exact zr _|intro _)
noncomputable def pred_Bounds_K (p0 : List ApiPart) (p1 : List PredNode) : Option (Int × Bool × ApiSpan) :=
 Option.bind (pred_conjuncts_K 1000 p1 (w64 ((p1.length : Int) - (1 : Int))) true) fun (r151, r152) =>
 Option.bind (α := (List UInt8) × Int)
 (Option.bind (α := (List UInt8) × Int)
 (loopF (Y := (List UInt8) × Int) (W := (List UInt8) × Int) (fun (y191, y192) =>
 bif (decide (y192 < (p0.length : Int))) then
 Option.bind (getI p0 y192) fun v204 =>
 Option.bind (slices_IndexFunc_pred_Node_pred_Node_K r151 v204) fun r206 =>
 bif (decide (r206 < (0 : Int))) then
 some (Sum.inr (y191, y192))
 else
 Option.bind (getI r151 r206) fun v207 =>
 Option.bind (pred_one_K v207.Val v204.Down) fun r209 =>
 bif decide (y191.length + r209.length ≤ 9223372036854775807) then
 some (Sum.inl ((y191 ++ r209), (w64 (y192 + (1 : Int)))))
 else none
 else
 some (Sum.inr (y191, y192))) (([] : List UInt8), (0 : Int)))
 (fun e => some e))
 fun (y181, y182) =>
 bindE (Y := Unit) (E := Int × Bool × ApiSpan)
 (bif (decide (y182 < (p0.length : Int))) then
 Option.bind (getI p0 y182) fun v217 =>
 Option.bind (pred_bounded_K v217 r151 y181) fun (r219, r220) =>
 bif r219 then
 some (Sum.inr (y182, true, r220))
 else
 some (Sum.inl ())
 else
 some (Sum.inl ()))
 (fun _ =>
 Option.bind (key_Under_K y181) fun r222 =>
 some (y182, false, r222))
 (fun e => some e)
theorem pred_Bounds_L (p0 : List ApiPart) (p1 : List PredNode) : Le (pred_Bounds_K p0 p1) (pred_Bounds p0 p1) := by
 unfold pred_Bounds_K pred_Bounds
 repeat (first|exact key_Under_L _|exact pred_conjuncts_L _ _ _ _|exact slices_IndexFunc_pred_Node_pred_Node_L _ _|exact pred_one_L _ _|exact pred_bounded_L _ _ _|apply zb|apply zc|apply zl|apply zE|apply zm|exact zr _|intro _)
noncomputable def plan_rows_K (p0 : PlanPlan) (p1 : Bool) : Option Int :=
 Option.bind (α := Int)
 (Option.bind (α := Int)
 (loopF (Y := Int × Int) (W := Int) (fun (y47, y48) =>
 bif (decide (y48 < p0.Fixed)) then
 some (Sum.inl ((w64 (Int.tdiv y47 (10 : Int))), (w64 (y48 + (1 : Int)))))
 else
 some (Sum.inr y47)) ((1000 : Int), (0 : Int)))
 (fun e => some e))
 fun y45 =>
 Option.bind (α := Int)
 (bif p0.Bounded then
 some (w64 (Int.tdiv y45 (3 : Int)))
 else
 some y45)
 fun y54 =>
 bif p1 then
 some (1 : Int)
 else
 some (max y54 (1 : Int))
theorem plan_rows_L (p0 : PlanPlan) (p1 : Bool) : Le (plan_rows_K p0 p1) (plan_rows p0 p1) := by
 unfold plan_rows_K plan_rows
 repeat (first|apply zb|apply zc|apply zl|apply zE|apply zm|exact zr _|intro _)
noncomputable def pred_Cols_K (p0 : List PredNode) : Option ((List Int)) :=
 Option.bind (α := (List Int))
 (Option.bind (α := (List Int))
 (loopF (Y := (List Int) × Int) (W := (List Int)) (fun (y211, y212) =>
 bif (decide (y212 < (p0.length : Int))) then
 Option.bind (α := (List Int))
 (Option.bind (getI p0 y212) fun v233 =>
 Option.bind (α := Bool)
 (bif (v233.Kind == (2 : Int)) then
 some true
 else
 some (v233.Kind == (3 : Int)))
 fun y234 =>
 bif y234 then
 bif decide ((y211.length + [v233.Col].length) * 8 ≤ room) then
 some (y211 ++ [v233.Col])
 else none
 else
 some y211)
 fun y231 =>
 some (Sum.inl (y231, (w64 (y212 + (1 : Int)))))
 else
 some (Sum.inr y211)) (([] : List Int), (0 : Int)))
 (fun e => some e))
 fun y199 =>
 Option.bind (isortF_K y199) fun r239 =>
 Option.bind (icompactF r239 0 y199.length) fun r241 =>
 some r241
theorem pred_Cols_L (p0 : List PredNode) : Le (pred_Cols_K p0) (pred_Cols p0) := by
 unfold pred_Cols_K pred_Cols
 repeat (first|exact isortF_L _|apply zb|apply zc|apply zl|apply zE|apply zm|exact zr _|intro _)
noncomputable def plan_Query_order_K (p0 : PlanQuery) : Option ((List Int)) :=
 Option.bind (α := (List Int))
 (Option.bind (α := (List Int))
 (loopF (Y := (List Int) × Int) (W := (List Int)) (fun (y75, y76) =>
 bif (decide (y76 < (p0.Order.length : Int))) then
 Option.bind (getI p0.Order y76) fun v83 =>
 bif decide ((y75.length + [v83.Col].length) * 8 ≤ room) then
 some (Sum.inl ((y75 ++ [v83.Col]), (w64 (y76 + (1 : Int)))))
 else none
 else
 some (Sum.inr y75)) (([] : List Int), (0 : Int)))
 (fun e => some e))
 fun y71 =>
 some y71
theorem plan_Query_order_L (p0 : PlanQuery) : Le (plan_Query_order_K p0) (plan_Query_order p0) := by
 unfold plan_Query_order_K plan_Query_order
 repeat (first|apply zb|apply zc|apply zl|apply zE|apply zm|exact zr _|intro _)
noncomputable def slices_Concat_int_int_K (p0 : List (List Int)) : Option ((List Int)) :=
 Option.bind (α := Int)
 (Option.bind (α := Int)
 (loopF (Y := Int × Int) (W := Int) (fun (y165, y166) =>
 bif (decide (y166 < (p0.length : Int))) then
 Option.bind (α := Int)
 (Option.bind (getI p0 y166) fun v178 =>
 bif (decide ((w64 (y165 + (v178.length : Int))) < (0 : Int))) then
 none
 else
 some (w64 (y165 + (v178.length : Int))))
 fun y176 =>
 some (Sum.inl (y176, (w64 (y166 + (1 : Int)))))
 else
 some (Sum.inr y165)) ((0 : Int), (0 : Int)))
 (fun e => some e))
 fun y159 =>
 Option.bind (slices_Grow_int_int y159) fun _ =>
 Option.bind (α := (List Int))
 (Option.bind (α := (List Int))
 (loopF (Y := (List Int) × Int) (W := (List Int)) (fun (y198, y199) =>
 bif (decide (y199 < (p0.length : Int))) then
 Option.bind (getI p0 y199) fun v206 =>
 bif decide ((y198.length + v206.length) * 8 ≤ room) then
 some (Sum.inl ((y198 ++ v206), (w64 (y199 + (1 : Int)))))
 else none
 else
 some (Sum.inr y198)) (([] : List Int), (0 : Int)))
 (fun e => some e))
 fun y194 =>
 some y194
theorem slices_Concat_int_int_L (p0 : List (List Int)) : Le (slices_Concat_int_int_K p0) (slices_Concat_int_int p0) := by
 unfold slices_Concat_int_int_K slices_Concat_int_int
 repeat (first|apply zb|apply zc|apply zl|apply zE|apply zm|exact zr _|intro _)
noncomputable def plan_Needs_K (p0 : PlanQuery) : Option ((List Int)) :=
 Option.bind (pred_Cols_K p0.Pred) fun r23 =>
 Option.bind (plan_Query_order_K p0) fun r25 =>
 Option.bind (slices_Concat_int_int_K [r23, p0.Cols, r25]) fun r27 =>
 Option.bind (isortF_K r27) fun r29 =>
 Option.bind (icompactF r29 0 r27.length) fun r31 =>
 some r31
theorem plan_Needs_L (p0 : PlanQuery) : Le (plan_Needs_K p0) (plan_Needs p0) := by
 unfold plan_Needs_K plan_Needs
 repeat (first|exact pred_Cols_L _|exact plan_Query_order_L _|exact slices_Concat_int_int_L _|exact isortF_L _|apply zb|apply zc|apply zl|apply zE|apply zm|exact zr _|intro _)
noncomputable def slices_IndexFunc_api_Part_api_Part_1_K (p0 : List ApiPart) (p1 : Int) : Option Int :=
 bindE (Y := Unit) (E := Int)
 (Option.bind (α := Unit ⊕ Int)
 (loopF (Y := Int) (W := Unit ⊕ Int) (fun y62 =>
 bif (decide (y62 < (p0.length : Int))) then
 Option.bind (getI p0 y62) fun v68 =>
 Option.bind (plan_tells_1_1 v68 p1) fun _ =>
 bif (v68.Col == p1) then
 some (Sum.inr (Sum.inr y62))
 else
 some (Sum.inl (w64 (y62 + (1 : Int))))
 else
 some (Sum.inr (Sum.inl ()))) (0 : Int))
 (Sum.elim (fun e => some (Sum.inl e)) (fun e => some (Sum.inr e))))
 (fun _ =>
 some (-1 : Int))
 (fun e => some e)
theorem slices_IndexFunc_api_Part_api_Part_1_L (p0 : List ApiPart) (p1 : Int) : Le (slices_IndexFunc_api_Part_api_Part_1_K p0 p1) (slices_IndexFunc_api_Part_api_Part_1 p0 p1) := by
 unfold slices_IndexFunc_api_Part_api_Part_1_K slices_IndexFunc_api_Part_api_Part_1
 repeat (first|apply zb|apply zc|apply zl|apply zE|apply zm|exact zr _|intro _)
noncomputable def slices_ContainsFunc_api_Part_api_Part_1_K (p0 : List ApiPart) (p1 : Int) : Option Bool :=
 Option.bind (slices_IndexFunc_api_Part_api_Part_1_K p0 p1) fun r7 =>
 some (decide (r7 ≥ (0 : Int)))
theorem slices_ContainsFunc_api_Part_api_Part_1_L (p0 : List ApiPart) (p1 : Int) : Le (slices_ContainsFunc_api_Part_api_Part_1_K p0 p1) (slices_ContainsFunc_api_Part_api_Part_1 p0 p1) := by
 unfold slices_ContainsFunc_api_Part_api_Part_1_K slices_ContainsFunc_api_Part_api_Part_1
 repeat (first|exact slices_IndexFunc_api_Part_api_Part_1_L _ _|apply zb|apply zc|apply zl|apply zE|apply zm|exact zr _|intro _)
noncomputable def slices_Index_int_int_K (p0 : List Int) (p1 : Int) : Option Int :=
 bindE (Y := Unit) (E := Int)
 (Option.bind (α := Unit ⊕ Int)
 (loopF (Y := Int) (W := Unit ⊕ Int) (fun y46 =>
 bif (decide (y46 < (p0.length : Int))) then
 Option.bind (getI p0 y46) fun v51 =>
 bif (p1 == v51) then
 some (Sum.inr (Sum.inr y46))
 else
 some (Sum.inl (w64 (y46 + (1 : Int))))
 else
 some (Sum.inr (Sum.inl ()))) (0 : Int))
 (Sum.elim (fun e => some (Sum.inl e)) (fun e => some (Sum.inr e))))
 (fun _ =>
 some (-1 : Int))
 (fun e => some e)
theorem slices_Index_int_int_L (p0 : List Int) (p1 : Int) : Le (slices_Index_int_int_K p0 p1) (slices_Index_int_int p0 p1) := by
 unfold slices_Index_int_int_K slices_Index_int_int
 repeat (first|apply zb|apply zc|apply zl|apply zE|apply zm|exact zr _|intro _)
noncomputable def slices_Contains_int_int_K (p0 : List Int) (p1 : Int) : Option Bool :=
 Option.bind (slices_Index_int_int_K p0 p1) fun r7 =>
 some (decide (r7 ≥ (0 : Int)))
theorem slices_Contains_int_int_L (p0 : List Int) (p1 : Int) : Le (slices_Contains_int_int_K p0 p1) (slices_Contains_int_int p0 p1) := by
 unfold slices_Contains_int_int_K slices_Contains_int_int
 repeat (first|exact slices_Index_int_int_L _ _|apply zb|apply zc|apply zl|apply zE|apply zm|exact zr _|intro _)
noncomputable def plan_tells_1_K (p0 : Int) (p1 : ApiIndex) (p2 : ApiTable) : Option Bool :=
 Option.bind (slices_ContainsFunc_api_Part_api_Part_1_K p1.Parts p0) fun r27 =>
 Option.bind (α := Bool)
 (bif (!r27) then
 Option.bind (slices_Contains_int_int_K p1.Extra p0) fun r35 =>
 bif (!r35) then
 Option.bind (slices_Contains_int_int_K p2.Primary p0) fun r37 =>
 some (!r37)
 else
 some false
 else
 some false)
 fun y32 =>
 some y32
theorem plan_tells_1_L (p0 : Int) (p1 : ApiIndex) (p2 : ApiTable) : Le (plan_tells_1_K p0 p1 p2) (plan_tells_1 p0 p1 p2) := by
 unfold plan_tells_1_K plan_tells_1
 repeat (first|exact slices_ContainsFunc_api_Part_api_Part_1_L _ _|exact slices_Contains_int_int_L _ _|apply zb|apply zc|apply zl|apply zE|apply zm|exact zr _|intro _)
noncomputable def slices_IndexFunc_int_int_3_K (p0 : List Int) (p1 : ApiIndex) (p2 : ApiTable) : Option Int :=
 bindE (Y := Unit) (E := Int)
 (Option.bind (α := Unit ⊕ Int)
 (loopF (Y := Int) (W := Unit ⊕ Int) (fun y78 =>
 bif (decide (y78 < (p0.length : Int))) then
 Option.bind (getI p0 y78) fun v85 =>
 Option.bind (plan_tells_1_K v85 p1 p2) fun r87 =>
 bif r87 then
 some (Sum.inr (Sum.inr y78))
 else
 some (Sum.inl (w64 (y78 + (1 : Int))))
 else
 some (Sum.inr (Sum.inl ()))) (0 : Int))
 (Sum.elim (fun e => some (Sum.inl e)) (fun e => some (Sum.inr e))))
 (fun _ =>
 some (-1 : Int))
 (fun e => some e)
theorem slices_IndexFunc_int_int_3_L (p0 : List Int) (p1 : ApiIndex) (p2 : ApiTable) : Le (slices_IndexFunc_int_int_3_K p0 p1 p2) (slices_IndexFunc_int_int_3 p0 p1 p2) := by
 unfold slices_IndexFunc_int_int_3_K slices_IndexFunc_int_int_3
 repeat (first|exact plan_tells_1_L _ _ _|apply zb|apply zc|apply zl|apply zE|apply zm|exact zr _|intro _)
noncomputable def slices_ContainsFunc_int_int_3_K (p0 : List Int) (p1 : ApiIndex) (p2 : ApiTable) : Option Bool :=
 Option.bind (slices_IndexFunc_int_int_3_K p0 p1 p2) fun r7 =>
 some (decide (r7 ≥ (0 : Int)))
theorem slices_ContainsFunc_int_int_3_L (p0 : List Int) (p1 : ApiIndex) (p2 : ApiTable) : Le (slices_ContainsFunc_int_int_3_K p0 p1 p2) (slices_ContainsFunc_int_int_3 p0 p1 p2) := by
 unfold slices_ContainsFunc_int_int_3_K slices_ContainsFunc_int_int_3
 repeat (first|exact slices_IndexFunc_int_int_3_L _ _ _|apply zb|apply zc|apply zl|apply zE|apply zm|exact zr _|intro _)
noncomputable def plan_tells_K (p0 : ApiTable) (p1 : ApiIndex) (p2 : List Int) : Option Bool :=
 Option.bind (slices_ContainsFunc_int_int_3_K p2 p1 p0) fun r7 =>
 some (!r7)
theorem plan_tells_L (p0 : ApiTable) (p1 : ApiIndex) (p2 : List Int) : Le (plan_tells_K p0 p1 p2) (plan_tells p0 p1 p2) := by
 unfold plan_tells_K plan_tells
 repeat (first|exact slices_ContainsFunc_int_int_3_L _ _ _|apply zb|apply zc|apply zl|apply zE|apply zm|exact zr _|intro _)
noncomputable def plan_Plans_K (p0 : ApiTable) (p1 : PlanQuery) : Option ((List PlanPlan)) :=
 Option.bind (key_Under_K ([] : List UInt8)) fun r635 =>
 Option.bind (α := (List ApiPart))
 (Option.bind (α := (List ApiPart))
 (loopF (Y := (List ApiPart) × Int) (W := (List ApiPart)) (fun (y653, y654) =>
 bif (decide (y654 < (p0.Primary.length : Int))) then
 Option.bind (getI p0.Primary y654) fun v661 =>
 bif decide ((y653.length + [(ApiPart.mk v661 false)].length) * 16 ≤ room) then
 some (Sum.inl ((y653 ++ [(ApiPart.mk v661 false)]), (w64 (y654 + (1 : Int)))))
 else none
 else
 some (Sum.inr y653)) (([] : List ApiPart), (0 : Int)))
 (fun e => some e))
 fun y649 =>
 Option.bind (pred_Bounds_K y649 p1.Pred) fun (r665, r666, r667) =>
 Option.bind (α := (List PlanPlan))
 (Option.bind (α := Bool)
 (bif (decide (r665 > (0 : Int))) then
 some true
 else
 some r666)
 fun y675 =>
 bif y675 then
 Option.bind (plan_rows_K (PlanPlan.mk (-2 : Int) r667 r665 r666 false (0 : Int)) (r665 == (y649.length : Int))) fun r678 =>
 bif decide (([(PlanPlan.mk (-1 : Int) r635 (0 : Int) false false (2000 : Int))].length + [(PlanPlan.mk (-2 : Int) r667 r665 r666 false (w64 ((1 : Int) + (w64 ((2 : Int) * r678)))))].length) * 72 ≤ room) then
 some ([(PlanPlan.mk (-1 : Int) r635 (0 : Int) false false (2000 : Int))] ++ [(PlanPlan.mk (-2 : Int) r667 r665 r666 false (w64 ((1 : Int) + (w64 ((2 : Int) * r678)))))])
 else none
 else
 some [(PlanPlan.mk (-1 : Int) r635 (0 : Int) false false (2000 : Int))])
 fun y673 =>
 Option.bind (plan_Needs_K p1) fun r681 =>
 Option.bind (α := (List PlanPlan))
 (Option.bind (α := (List PlanPlan))
 (loopF (Y := (List PlanPlan) × Int) (W := (List PlanPlan)) (fun (y859, y860) =>
 bif (decide (y860 < (p0.Indexes.length : Int))) then
 Option.bind (α := (List PlanPlan))
 (Option.bind (getI p0.Indexes y860) fun v929 =>
 bif (!v929.Ready) then
 some y859
 else
 Option.bind (plan_tells_K p0 v929 r681) fun r931 =>
 Option.bind (pred_Bounds_K v929.Parts p1.Pred) fun (r933, r934, r935) =>
 Option.bind (α := Int)
 (bif v929.Unique then
 Option.bind (plan_rows_K (PlanPlan.mk y860 r935 r933 r934 r931 (0 : Int)) (r933 == (v929.Parts.length : Int))) fun r943 =>
 some r943
 else
 Option.bind (plan_rows_K (PlanPlan.mk y860 r935 r933 r934 r931 (0 : Int)) false) fun r945 =>
 some r945)
 fun y940 =>
 Option.bind (α := PlanPlan)
 (bif r931 then
 some (PlanPlan.mk y860 r935 r933 r934 r931 (w64 ((1 : Int) + y940)))
 else
 some (PlanPlan.mk y860 r935 r933 r934 r931 (w64 ((2 : Int) + (w64 ((4 : Int) * y940))))))
 fun y946 =>
 bif decide ((y859.length + [y946].length) * 72 ≤ room) then
 some (y859 ++ [y946])
 else none)
 fun y927 =>
 some (Sum.inl (y927, (w64 (y860 + (1 : Int)))))
 else
 some (Sum.inr y859)) (y673, (0 : Int)))
 (fun e => some e))
 fun y815 =>
 some y815
theorem plan_Plans_L (p0 : ApiTable) (p1 : PlanQuery) : Le (plan_Plans_K p0 p1) (plan_Plans p0 p1) := by
 unfold plan_Plans_K plan_Plans
 repeat (first|exact key_Under_L _|exact pred_Bounds_L _ _|exact plan_rows_L _ _|exact plan_Needs_L _|exact plan_tells_L _ _ _|apply zb|apply zc|apply zl|apply zE|apply zm|exact zr _|intro _)
noncomputable def pred_Check_K (p0 : List ApiColumn) (p1 : List PredNode) : Option Int :=
 bif (decide ((p1.length : Int) > (200 : Int))) then
 some (7 : Int)
 else
 bindE (Y := (List Int)) (E := Int)
 (Option.bind (α := ((List Int)) ⊕ Int)
 (loopF (Y := (List Int) × Int) (W := ((List Int)) ⊕ Int) (fun (y1287, y1288) =>
 bif (decide (y1288 < (p1.length : Int))) then
 bindE (Y := (List Int)) (E := Int)
 (Option.bind (getI p1 y1288) fun v1429 =>
 Option.bind (pred_Node_takes v1429) fun r1431 =>
 Option.bind (α := Bool)
 (Option.bind (pred_Node_form v1429 (p0.length : Int)) fun r1437 =>
 bif (!r1437) then
 some true
 else
 some (decide ((w64 ((y1287.length : Int) - r1431)) < (0 : Int))))
 fun y1434 =>
 bif y1434 then
 some (Sum.inr (1 : Int))
 else
 Option.bind (α := Bool)
 (bif (v1429.Kind == (2 : Int)) then
 Option.bind (value_Valid v1429.Val) fun r1444 =>
 bif (!r1444) then
 some true
 else
 bif (v1429.Val.Kind == (0 : Int)) then
 some true
 else
 Option.bind (getI p0 v1429.Col) fun v1445 =>
 some (v1429.Val.Kind != v1445.Kind)
 else
 some false)
 fun y1441 =>
 bif y1441 then
 some (Sum.inr (8 : Int))
 else
 Option.bind (α := Int)
 (bif decide (0 ≤ (w64 ((y1287.length : Int) - r1431)) ∧ (w64 ((y1287.length : Int) - r1431)) ≤ (y1287.length : Int)) then
 Option.bind (α := Int)
 (loopF (Y := Int × Int) (W := Int) (fun (y1461, y1462) =>
 bif (decide (y1462 < ((y1287.length - (w64 ((y1287.length : Int) - r1431)).toNat : Nat) : Int))) then
 Option.bind (getS y1287 (0 + (w64 ((y1287.length : Int) - r1431)).toNat) (y1287.length - (w64 ((y1287.length : Int) - r1431)).toNat) y1462) fun v1468 =>
 some (Sum.inl ((max y1461 v1468), (w64 (y1462 + (1 : Int)))))
 else
 some (Sum.inr y1461)) ((0 : Int), (0 : Int)))
 (fun e => some e)
 else none)
 fun y1457 =>
 bif decide (0 ≤ (w64 ((y1287.length : Int) - r1431)) ∧ (w64 ((y1287.length : Int) - r1431)) ≤ (y1287.length : Int)) then
 bif decide (0 + ((w64 ((y1287.length : Int) - r1431)).toNat) ≤ y1287.length) then
 bif decide ((((w64 ((y1287.length : Int) - r1431)).toNat) + [(w64 (y1457 + (1 : Int)))].length) * 8 ≤ room) then
 some (Sum.inl (List.take ((w64 ((y1287.length : Int) - r1431)).toNat) (List.drop 0 y1287) ++ [(w64 (y1457 + (1 : Int)))]))
 else none
 else none
 else none)
 (fun y1427 =>
 some (Sum.inl (y1427, (w64 (y1288 + (1 : Int))))))
 (fun e => some (Sum.inr (Sum.inr e)))
 else
 some (Sum.inr (Sum.inl y1287))) (([] : List Int), (0 : Int)))
 (Sum.elim (fun e => some (Sum.inl e)) (fun e => some (Sum.inr e))))
 (fun y1228 =>
 bif ((y1228.length : Int) != (1 : Int)) then
 some (1 : Int)
 else
 Option.bind (getI y1228 (0 : Int)) fun v1474 =>
 bif (decide (v1474 > (24 : Int))) then
 some (7 : Int)
 else
 some (0 : Int))
 (fun e => some e)
theorem pred_Check_L (p0 : List ApiColumn) (p1 : List PredNode) : Le (pred_Check_K p0 p1) (pred_Check p0 p1) := by
 unfold pred_Check_K pred_Check
 repeat (first|apply zb|apply zc|apply zl|apply zE|apply zm|exact zr _|intro _)
noncomputable def slices_IndexFunc_int_int_4_K (p0 : List Int) (p1 : ApiTable) : Option Int :=
 bindE (Y := Unit) (E := Int)
 (Option.bind (α := Unit ⊕ Int)
 (loopF (Y := Int) (W := Unit ⊕ Int) (fun y78 =>
 bif (decide (y78 < (p0.length : Int))) then
 Option.bind (getI p0 y78) fun v85 =>
 Option.bind (plan_Check_1 v85 p1) fun r87 =>
 bif r87 then
 some (Sum.inr (Sum.inr y78))
 else
 some (Sum.inl (w64 (y78 + (1 : Int))))
 else
 some (Sum.inr (Sum.inl ()))) (0 : Int))
 (Sum.elim (fun e => some (Sum.inl e)) (fun e => some (Sum.inr e))))
 (fun _ =>
 some (-1 : Int))
 (fun e => some e)
theorem slices_IndexFunc_int_int_4_L (p0 : List Int) (p1 : ApiTable) : Le (slices_IndexFunc_int_int_4_K p0 p1) (slices_IndexFunc_int_int_4 p0 p1) := by
 unfold slices_IndexFunc_int_int_4_K slices_IndexFunc_int_int_4
 repeat (first|apply zb|apply zc|apply zl|apply zE|apply zm|exact zr _|intro _)
noncomputable def slices_ContainsFunc_int_int_4_K (p0 : List Int) (p1 : ApiTable) : Option Bool :=
 Option.bind (slices_IndexFunc_int_int_4_K p0 p1) fun r7 =>
 some (decide (r7 ≥ (0 : Int)))
theorem slices_ContainsFunc_int_int_4_L (p0 : List Int) (p1 : ApiTable) : Le (slices_ContainsFunc_int_int_4_K p0 p1) (slices_ContainsFunc_int_int_4 p0 p1) := by
 unfold slices_ContainsFunc_int_int_4_K slices_ContainsFunc_int_int_4
 repeat (first|exact slices_IndexFunc_int_int_4_L _ _|apply zb|apply zc|apply zl|apply zE|apply zm|exact zr _|intro _)
noncomputable def plan_Check_K (p0 : ApiTable) (p1 : PlanQuery) : Option Int :=
 Option.bind (pred_Check_K p0.Cols p1.Pred) fun r43 =>
 bif (r43 != (0 : Int)) then
 some r43
 else
 Option.bind (plan_Query_order_K p1) fun r45 =>
 Option.bind (α := Bool)
 (bif (decide ((p1.Cols.length : Int) > (24 : Int))) then
 some true
 else
 bif (decide ((r45.length : Int) > (4 : Int))) then
 some true
 else
 some (decide (p1.Limit < (-1 : Int))))
 fun y46 =>
 bif y46 then
 some (1 : Int)
 else
 Option.bind (α := Bool)
 (Option.bind (slices_ContainsFunc_int_int_4_K p1.Cols p0) fun r55 =>
 bif r55 then
 some true
 else
 Option.bind (slices_ContainsFunc_int_int_4_K r45 p0) fun r57 =>
 some r57)
 fun y52 =>
 bif y52 then
 some (1 : Int)
 else
 Option.bind (isortF_K r45) fun r59 =>
 Option.bind (icompactF r59 0 r45.length) fun r61 =>
 bif (decide ((r61.length : Int) < (p1.Order.length : Int))) then
 some (1 : Int)
 else
 some (0 : Int)
theorem plan_Check_L (p0 : ApiTable) (p1 : PlanQuery) : Le (plan_Check_K p0 p1) (plan_Check p0 p1) := by
 unfold plan_Check_K plan_Check
 repeat (first|exact plan_Query_order_L _|exact pred_Check_L _ _|exact slices_ContainsFunc_int_int_4_L _ _|exact isortF_L _|apply zb|apply zc|apply zl|apply zE|apply zm|exact zr _|intro _)
noncomputable def container_heap_up_K (p0 : Int) (p1 : List PlanPlan) (p2 : List Int) : Option ((List Int)) :=
 Option.bind (α := (List Int))
 (loopF (Y := Int × (List Int)) (W := (List Int)) (fun (y72, y73) =>
 Option.bind (α := Bool)
 (bif ((w64 (Int.tdiv (w64 (y72 - (1 : Int))) (2 : Int))) == y72) then
 some true
 else
 Option.bind (plan_queue_Less_1 p1 y73 0 p2.length y72 (w64 (Int.tdiv (w64 (y72 - (1 : Int))) (2 : Int)))) fun r91 =>
 some (!r91))
 fun y88 =>
 bif y88 then
 some (Sum.inr y73)
 else
 Option.bind (plan_queue_Swap_1 p1 y73 0 p2.length (w64 (Int.tdiv (w64 (y72 - (1 : Int))) (2 : Int))) y72) fun r93 =>
 some (Sum.inl ((w64 (Int.tdiv (w64 (y72 - (1 : Int))) (2 : Int))), r93))) (p0, p2))
 (fun e => some e)
theorem container_heap_up_L (p0 : Int) (p1 : List PlanPlan) (p2 : List Int) : Le (container_heap_up_K p0 p1 p2) (container_heap_up p0 p1 p2) := by
 unfold container_heap_up_K container_heap_up
 repeat (first|apply zb|apply zc|apply zl|apply zE|apply zm|exact zr _|intro _)
noncomputable def container_heap_Push_1_K (p0 : Int) (p1 : List PlanPlan) (p2 : List Int) (p3 : Nat) (p4 : Nat) : Option ((List Int)) :=
 Option.bind (plan_queue_Push_1 p0 p1 p2 p3 p4) fun _ =>
 Option.bind (plan_queue_Len p1 (List.take p4 (List.drop p3 p2) ++ [p0])) fun _ =>
 Option.bind (container_heap_up_K (w64 (((List.take p4 (List.drop p3 p2) ++ [p0]).length : Int) - (1 : Int))) p1 (List.take p4 (List.drop p3 p2) ++ [p0])) fun r13 =>
 some r13
theorem container_heap_Push_1_L (p0 : Int) (p1 : List PlanPlan) (p2 : List Int) (p3 : Nat) (p4 : Nat) : Le (container_heap_Push_1_K p0 p1 p2 p3 p4) (container_heap_Push_1 p0 p1 p2 p3 p4) := by
 unfold container_heap_Push_1_K container_heap_Push_1
 repeat (first|exact container_heap_up_L _ _ _|apply zb|apply zc|apply zl|apply zE|apply zm|exact zr _|intro _)
noncomputable def container_heap_down_K (p0 : Int) (p1 : Int) (p2 : List PlanPlan) (p3 : List Int) (p4 : Nat) (p5 : Nat) : Option (Bool × (List Int)) :=
 Option.bind (α := Int × (List Int))
 (Option.bind (α := Int × (List Int))
 (loopF (Y := Int × (List Int)) (W := Int × (List Int)) (fun (y367, y368) =>
 Option.bind (α := Bool)
 (bif (decide ((w64 ((w64 ((2 : Int) * y367)) + (1 : Int))) ≥ p1)) then
 some true
 else
 some (decide ((w64 ((w64 ((2 : Int) * y367)) + (1 : Int))) < (0 : Int))))
 fun y393 =>
 bif y393 then
 some (Sum.inr (y367, y368))
 else
 Option.bind (α := Int)
 (Option.bind (α := Bool)
 (bif (decide ((w64 ((w64 ((w64 ((2 : Int) * y367)) + (1 : Int))) + (1 : Int))) < p1)) then
 Option.bind (plan_queue_Less_1 p2 y368 p4 p5 (w64 ((w64 ((w64 ((2 : Int) * y367)) + (1 : Int))) + (1 : Int))) (w64 ((w64 ((2 : Int) * y367)) + (1 : Int)))) fun r408 =>
 some r408
 else
 some false)
 fun y405 =>
 bif y405 then
 some (w64 ((w64 ((w64 ((2 : Int) * y367)) + (1 : Int))) + (1 : Int)))
 else
 some (w64 ((w64 ((2 : Int) * y367)) + (1 : Int))))
 fun y401 =>
 Option.bind (plan_queue_Less_1 p2 y368 p4 p5 y401 y367) fun r410 =>
 bif (!r410) then
 some (Sum.inr (y367, y368))
 else
 Option.bind (plan_queue_Swap_1 p2 y368 p4 p5 y367 y401) fun r412 =>
 some (Sum.inl (y401, r412))) (p0, p3))
 (fun e => some e))
 fun (y344, y345) =>
 some ((decide (y344 > p0)), y345)
theorem container_heap_down_L (p0 : Int) (p1 : Int) (p2 : List PlanPlan) (p3 : List Int) (p4 : Nat) (p5 : Nat) : Le (container_heap_down_K p0 p1 p2 p3 p4 p5) (container_heap_down p0 p1 p2 p3 p4 p5) := by
 unfold container_heap_down_K container_heap_down
 repeat (first|apply zb|apply zc|apply zl|apply zE|apply zm|exact zr _|intro _)
noncomputable def container_heap_Pop_K (p0 : List PlanPlan) (p1 : List Int) (p2 : Nat) (p3 : Nat) : Option (Int × (List Int)) :=
 Option.bind (plan_queue_Len_1 p0 p1 p2 p3) fun _ =>
 Option.bind (plan_queue_Swap_1 p0 p1 p2 p3 (0 : Int) (w64 ((p3 : Int) - (1 : Int)))) fun r21 =>
 Option.bind (container_heap_down_K (0 : Int) (w64 ((p3 : Int) - (1 : Int))) p0 r21 p2 p3) fun (r23, r24) =>
 Option.bind (plan_queue_Pop p0 r24 p2 p3) fun r26 =>
 some (r26, r24)
theorem container_heap_Pop_L (p0 : List PlanPlan) (p1 : List Int) (p2 : Nat) (p3 : Nat) : Le (container_heap_Pop_K p0 p1 p2 p3) (container_heap_Pop p0 p1 p2 p3) := by
 unfold container_heap_Pop_K container_heap_Pop
 repeat (first|exact container_heap_down_L _ _ _ _ _ _|apply zb|apply zc|apply zl|apply zE|apply zm|exact zr _|intro _)
noncomputable def plan_Best_K (p0 : List PlanPlan) : Option ((List Int)) :=
 Option.bind (α := (List Int) × Nat)
 (Option.bind (α := (List Int) × Nat)
 (loopF (Y := Int × (List Int) × Nat) (W := (List Int) × Nat) (fun (y188, y189, y190) =>
 bif (decide (y188 < (p0.length : Int))) then
 Option.bind (container_heap_Push_1_K y188 p0 y189 0 y190) fun r199 =>
 some (Sum.inl ((w64 (y188 + (1 : Int))), r199, (List.take y190 (List.drop 0 y189) ++ [y188]).length))
 else
 some (Sum.inr (y189, y190))) ((0 : Int), ([] : List Int), ([] : List Int).length))
 (fun e => some e))
 fun (y183, y184) =>
 Option.bind (α := (List Int))
 (Option.bind (α := (List Int))
 (loopF (Y := (List Int) × (List Int) × Nat) (W := (List Int)) (fun (y232, y233, y234) =>
 Option.bind (plan_queue_Len_1 p0 y233 0 y234) fun _ =>
 bif (decide ((y234 : Int) > (0 : Int))) then
 Option.bind (container_heap_Pop_K p0 y233 0 y234) fun (r247, r248) =>
 bif decide ((y232.length + [r247].length) * 8 ≤ room) then
 some (Sum.inl ((y232 ++ [r247]), r248, (w64 ((y234 : Int) - (1 : Int))).toNat))
 else none
 else
 some (Sum.inr y232)) (([] : List Int), y183, y184))
 (fun e => some e))
 fun y225 =>
 some y225
theorem plan_Best_L (p0 : List PlanPlan) : Le (plan_Best_K p0) (plan_Best p0) := by
 unfold plan_Best_K plan_Best
 repeat (first|exact container_heap_Push_1_L _ _ _ _ _|exact container_heap_Pop_L _ _ _ _|apply zb|apply zc|apply zl|apply zE|apply zm|exact zr _|intro _)
noncomputable def raw_Ints_K (p0 : List Int) (p1 : List Int) : Option Bool :=
 bif ((p0.length : Int) != (p1.length : Int)) then
 some false
 else
 bindE (Y := Unit) (E := Bool)
 (Option.bind (α := Unit ⊕ Bool)
 (loopF (Y := Int) (W := Unit ⊕ Bool) (fun y62 =>
 bif (decide (y62 < (p0.length : Int))) then
 Option.bind (getI p0 y62) fun v68 =>
 Option.bind (getI p1 y62) fun v69 =>
 bif (v68 != v69) then
 some (Sum.inr (Sum.inr false))
 else
 some (Sum.inl (w64 (y62 + (1 : Int))))
 else
 some (Sum.inr (Sum.inl ()))) (0 : Int))
 (Sum.elim (fun e => some (Sum.inl e)) (fun e => some (Sum.inr e))))
 (fun _ =>
 some true)
 (fun e => some e)
theorem raw_Ints_L (p0 : List Int) (p1 : List Int) : Le (raw_Ints_K p0 p1) (raw_Ints p0 p1) := by
 unfold raw_Ints_K raw_Ints
 repeat (first|apply zb|apply zc|apply zl|apply zE|apply zm|exact zr _|intro _)
noncomputable def law21_awake_K : Option Bool :=
 Option.bind (plan_Plans_K (ApiTable.mk ([97] : List UInt8) [(ApiColumn.mk ([105, 100] : List UInt8) (1 : Int) (0 : Int) false (ApiValue.mk (1 : Int) (0 : UInt64) ([] : List UInt8))), (ApiColumn.mk ([110] : List UInt8) (1 : Int) (0 : Int) false (ApiValue.mk (1 : Int) (0 : UInt64) ([] : List UInt8)))] [(0 : Int)] [(ApiIndex.mk ([120] : List UInt8) [(ApiPart.mk (1 : Int) false)] ([] : List Int) false true (3 : Int))] (2 : Int)) (PlanQuery.mk [(PredNode.mk (2 : Int) (1 : Int) (3 : Int) (ApiValue.mk (1 : Int) (5 : UInt64) ([] : List UInt8)))] [(0 : Int)] ([] : List ApiPart) (-1 : Int))) fun r63 =>
 Option.bind (α := Bool)
 (Option.bind (plan_Check_K (ApiTable.mk ([97] : List UInt8) [(ApiColumn.mk ([105, 100] : List UInt8) (1 : Int) (0 : Int) false (ApiValue.mk (1 : Int) (0 : UInt64) ([] : List UInt8))), (ApiColumn.mk ([110] : List UInt8) (1 : Int) (0 : Int) false (ApiValue.mk (1 : Int) (0 : UInt64) ([] : List UInt8)))] [(0 : Int)] [(ApiIndex.mk ([120] : List UInt8) [(ApiPart.mk (1 : Int) false)] ([] : List Int) false true (3 : Int))] (2 : Int)) (PlanQuery.mk [(PredNode.mk (2 : Int) (1 : Int) (3 : Int) (ApiValue.mk (1 : Int) (5 : UInt64) ([] : List UInt8)))] [(0 : Int)] ([] : List ApiPart) (-1 : Int))) fun r80 =>
 bif (r80 == (0 : Int)) then
 bif ((r63.length : Int) == (2 : Int)) then
 Option.bind (getI r63 (0 : Int)) fun v81 =>
 bif (v81.Index == (-1 : Int)) then
 Option.bind (getI r63 (1 : Int)) fun v82 =>
 bif v82.Covers then
 Option.bind (getI r63 (1 : Int)) fun v83 =>
 bif (v83.Cost == (101 : Int)) then
 Option.bind (plan_Best_K r63) fun r85 =>
 Option.bind (raw_Ints_K r85 [(1 : Int), (0 : Int)]) fun r87 =>
 bif r87 then
 Option.bind (plan_Needs_K (PlanQuery.mk [(PredNode.mk (2 : Int) (1 : Int) (3 : Int) (ApiValue.mk (1 : Int) (5 : UInt64) ([] : List UInt8)))] [(0 : Int)] ([] : List ApiPart) (-1 : Int))) fun r89 =>
 Option.bind (raw_Ints_K r89 [(0 : Int), (1 : Int)]) fun r91 =>
 some r91
 else
 some false
 else
 some false
 else
 some false
 else
 some false
 else
 some false
 else
 some false)
 fun y77 =>
 some y77
theorem law21_awake_L : Le (law21_awake_K) (law21_awake) := by
 unfold law21_awake_K law21_awake
 repeat (first|exact plan_Needs_L _|exact plan_Plans_L _ _|exact plan_Check_L _ _|exact plan_Best_L _|exact raw_Ints_L _ _|apply zb|apply zc|apply zl|apply zE|apply zm|exact zr _|intro _)
theorem law21_awake_some : law21_awake = some true := law21_awake_L _ (by kernel_rfl)
end Lv
