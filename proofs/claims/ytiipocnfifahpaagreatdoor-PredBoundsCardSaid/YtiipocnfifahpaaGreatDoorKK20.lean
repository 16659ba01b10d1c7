/- The functions once more, with loops of so many rounds: for reckoning the fixed examples. -/
import Derived.Test.YtiipocnfifahpaaGreatDoorXAll
import Derived.KernelRfl
namespace Lv
open Go Go.Proofs
set_option linter.unusedVariables false
set_option linter.unusedSimpArgs false
set_option linter.unusedSectionVars false
set_option maxRecDepth 100000
set_option maxHeartbeats 4000000
variable [BaseTab]
def Le {α : Type} (a b : Option α) : Prop := ∀ r, a = some r → b = some r
theorem zr {α : Type} (a : Option α) : Le a a := fun _ h => h
theorem zb {α β : Type} {a a' : Option α} {f f' : α → Option β} (h : Le a a') (k : ∀ x, Le (f x) (f' x)) : Le (Option.bind a f) (Option.bind a' f') := by
 intro r hr
 cases ha : a with
 | none => rw [ha] at hr; cases hr
 | some x =>
  rw [ha] at hr
  rw [h x ha]
  exact k x r hr
theorem zc {α : Type} {c : Bool} {a a' b b' : Option α} (h : Le a a') (k : Le b b') : Le (bif c then a else b) (bif c then a' else b') := by
 cases c
 ·exact k
 ·exact h
theorem zm {α β γ : Type} {f f' : α → Option γ} {g g' : β → Option γ} {s : α ⊕ β} (h : ∀ x, Le (f x) (f' x)) (k : ∀ x, Le (g x) (g' x)) : Le (Sum.elim f g s) (Sum.elim f' g' s) := by
 cases s
 ·exact h _
 ·exact k _
theorem zE {Y E R : Type} {p p' : Option (Y ⊕ E)} {k k' : Y → Option R} {e e' : E → Option R} (h : Le p p') (hk : ∀ x, Le (k x) (k' x)) (he : ∀ x, Le (e x) (e' x)) : Le (bindE p k e) (bindE p' k' e') :=
 zb h fun x => zm hk he
def loopF {Y W : Type} (B : Y → Option (Y ⊕ W)) (y : Y) : Option W := loopN B 12 y
theorem zn {Y W : Type} {B B' : Y → Option (Y ⊕ W)} (h : ∀ y, Le (B y) (B' y)) : ∀ n y, Le (loopN B n y) (loopN B' n y)
 | 0, y => fun _ h => by cases h
 | n + 1, y => by
  intro r hr
  simp only [Lv.loopN] at hr ⊢
  cases hb : B y with
  | none => rw [hb] at hr; cases hr
  | some s =>
   rw [hb] at hr
   rw [h y s hb]
   cases s with
   | inl y' => exact zn h n y' r hr
   | inr w => exact hr
theorem zl {Y W : Type} {B B' : Y → Option (Y ⊕ W)} {y : Y} (h : ∀ y, Le (B y) (B' y)) : Le (loopF B y) (loop B' y) := fun r hr => loop_of (zn h _ y r hr)
def upI_ : List Int → Bool
 | [] => true
 | a :: l => l.all (fun b => decide (a ≤ b)) && upI_ l
theorem upI_pw : ∀ {l : List Int}, upI_ l = true → l.Pairwise (fun x y => decide (x ≤ y) = true)
 | [], _ => .nil
 | a :: l, h => by
  simp only [upI_, Bool.and_eq_true, List.all_eq_true] at h
  exact .cons h.1 (upI_pw h.2)
def isortF_K (l : List Int) : Option (List Int) := if l.length < 4611686018427387904 ∧ upI_ l = true then some l else none
theorem isortF_L (l : List Int) : Le (isortF_K l) (isortF l) := by
 intro r h
 unfold isortF_K at h
 split at h
 ·rename_i hs
  obtain rfl := Option.some.inj h
  unfold isortF
  rw [if_pos hs.1, List.mergeSort_of_pairwise (upI_pw hs.2)]
 ·cases h
noncomputable def pred_conjuncts_K : Nat → (List PredNode) → Int → Bool → Option ((List PredNode) × Int)
 | 0, _, _, _ => none
 | n + 1, p0, p1, p2 =>
  Option.bind (getI p0 p1) fun v229 =>
  Option.bind (α := Bool)
   (bif p2 then
    Option.bind (pred_Node_takes v229) fun r235 =>
    bif (r235 == (0 : Int)) then
     some true
    else
     bif p2 then
      some (v229.Kind == (4 : Int))
     else
      some false
   else
    bif p2 then
     some (v229.Kind == (4 : Int))
    else
     some false)
   fun y232 =>
  Option.bind (α := (List PredNode) × Int)
   (Option.bind (pred_Node_takes v229) fun r263 =>
   Option.bind (α := (List PredNode) × Int)
    (loopF (Y := (List PredNode) × Int × Int) (W := (List PredNode) × Int) (fun (y268, y269, y270) =>
     bif (decide (y270 < r263)) then
      Option.bind (pred_conjuncts_K n p0 y269 y232) fun (r281, r282) =>
      bif decide ((r281.length + y268.length) * 56 ≤ room) then
      some (Sum.inl ((r281 ++ y268), r282, (w64 (y270 + (1 : Int)))))
      else none
     else
      some (Sum.inr (y268, y269))) (([] : List PredNode), (w64 (p1 - (1 : Int))), (0 : Int)))
    (fun e => some e))
   fun (y259, y260) =>
  Option.bind (α := (List PredNode))
   (Option.bind (α := Bool)
    (bif y232 then
     bif (v229.Kind == (2 : Int)) then
      some true
     else
      some (v229.Kind == (3 : Int))
    else
     some false)
    fun y290 =>
   bif y290 then
    bif decide ((y259.length + [v229].length) * 56 ≤ room) then
    some (y259 ++ [v229])
    else none
   else
    some y259)
   fun y288 =>
  some (y288, y260)
theorem pred_conjuncts_L : ∀ (n : Nat) p0 p1 p2, Le (pred_conjuncts_K n p0 p1 p2) (pred_conjuncts n p0 p1 p2)
 | 0, _, _, _ => by
  intro r h
  unfold pred_conjuncts_K at h
  cases h
 | n + 1, p0, p1, p2 => by
  unfold pred_conjuncts_K pred_conjuncts
  repeat (first|exact pred_conjuncts_L n _ _ _|apply zb|apply zc|apply zl|apply zE|apply zm|exact zr _|intro _)
noncomputable def slices_IndexFunc_pred_Node_pred_Node_K (p0 : List PredNode) (p1 : ApiPart) : Option Int :=
 bindE (Y := Unit) (E := Int)
 (Option.bind (α := Unit ⊕ Int)
 (loopF (Y := Int) (W := Unit ⊕ Int) (fun y78 =>
 bif (decide (y78 < (p0.length : Int))) then
 Option.bind (getI p0 y78) fun v85 =>
 Option.bind (pred_Bounds_1 v85 p1) fun r87 =>
 bif r87 then
 some (Sum.inr (Sum.inr y78))
 else
 some (Sum.inl (w64 (y78 + (1 : Int))))
 else
 some (Sum.inr (Sum.inl ()))) (0 : Int))
 (Sum.elim (fun e => some (Sum.inl e)) (fun e => some (Sum.inr e))))
 (fun _ =>
 some (-1 : Int))
 (fun e => some e)
theorem slices_IndexFunc_pred_Node_pred_Node_L (p0 : List PredNode) (p1 : ApiPart) : Le (slices_IndexFunc_pred_Node_pred_Node_K p0 p1) (slices_IndexFunc_pred_Node_pred_Node p0 p1) := by
 unfold slices_IndexFunc_pred_Node_pred_Node_K slices_IndexFunc_pred_Node_pred_Node
 repeat (first|apply zb|apply zc|apply zl|apply zE|apply zm|exact zr _|intro _)
noncomputable def slices_IndexFunc_api_Value_api_Value_K (p0 : List ApiValue) : Option Int :=
 bindE (Y := Unit) (E := Int)
 (Option.bind (α := Unit ⊕ Int)
 (loopF (Y := Int) (W := Unit ⊕ Int) (fun y78 =>
 bif (decide (y78 < (p0.length : Int))) then
 Option.bind (getI p0 y78) fun v85 =>
 Option.bind (key_Encode_1 v85) fun r87 =>
 bif r87 then
 some (Sum.inr (Sum.inr y78))
 else
 some (Sum.inl (w64 (y78 + (1 : Int))))
 else
 some (Sum.inr (Sum.inl ()))) (0 : Int))
 (Sum.elim (fun e => some (Sum.inl e)) (fun e => some (Sum.inr e))))
 (fun _ =>
 some (-1 : Int))
 (fun e => some e)
theorem slices_IndexFunc_api_Value_api_Value_L (p0 : List ApiValue) : Le (slices_IndexFunc_api_Value_api_Value_K p0) (slices_IndexFunc_api_Value_api_Value p0) := by
 unfold slices_IndexFunc_api_Value_api_Value_K slices_IndexFunc_api_Value_api_Value
 repeat (first|apply zb|apply zc|apply zl|apply zE|apply zm|exact zr _|intro _)
noncomputable def slices_ContainsFunc_api_Value_api_Value_K (p0 : List ApiValue) : Option Bool :=
 Option.bind (slices_IndexFunc_api_Value_api_Value_K p0) fun r7 =>
 some (decide (r7 ≥ (0 : Int)))
theorem slices_ContainsFunc_api_Value_api_Value_L (p0 : List ApiValue) : Le (slices_ContainsFunc_api_Value_api_Value_K p0) (slices_ContainsFunc_api_Value_api_Value p0) := by
 unfold slices_ContainsFunc_api_Value_api_Value_K slices_ContainsFunc_api_Value_api_Value
 repeat (first|exact slices_IndexFunc_api_Value_api_Value_L _|apply zb|apply zc|apply zl|apply zE|apply zm|exact zr _|intro _)
noncomputable def key_turned_K (p0 : List UInt8) : Option ((List UInt8)) :=
 Option.bind (α := (List UInt8))
 (Option.bind (α := (List UInt8))
 (loopF (Y := (List UInt8) × Int) (W := (List UInt8)) (fun (y75, y76) =>
 bif (decide (y76 < (p0.length : Int))) then
 Option.bind (getI y75 y76) fun v83 =>
 Option.bind (getI y75 y76) fun v84 =>
 some (Sum.inl ((List.set y75 y76.toNat (~~~ v83)), (w64 (y76 + (1 : Int)))))
 else
 some (Sum.inr y75)) (p0, (0 : Int)))
 (fun e => some e))
 fun y71 =>
 some y71
theorem key_turned_L (p0 : List UInt8) : Le (key_turned_K p0) (key_turned p0) := by
 unfold key_turned_K key_turned
 repeat (first|apply zb|apply zc|apply zl|apply zE|apply zm|exact zr _|intro _)
noncomputable def key_one_K (p0 : ApiValue) (p1 : Bool) : Option ((List UInt8)) :=
 Option.bind (pack_Out_Flag (p0.Kind != (0 : Int))) fun r57 =>
 Option.bind (α := (List UInt8))
 (bif (p0.Kind == (1 : Int)) then
 Option.bind (pack_Out_U64 (p0.N ^^^ (9223372036854775808 : UInt64)) r57) fun _ =>
 some ((((r57 ++ [((shr16 ((shr32 ((shr64 (p0.N ^^^ (9223372036854775808 : UInt64)) 32).toUInt32) 16).toUInt16) 8).toUInt8), (((shr32 ((shr64 (p0.N ^^^ (9223372036854775808 : UInt64)) 32).toUInt32) 16).toUInt16).toUInt8)]) ++ [((shr16 (((shr64 (p0.N ^^^ (9223372036854775808 : UInt64)) 32).toUInt32).toUInt16) 8).toUInt8), ((((shr64 (p0.N ^^^ (9223372036854775808 : UInt64)) 32).toUInt32).toUInt16).toUInt8)]) ++ [((shr16 ((shr32 ((p0.N ^^^ (9223372036854775808 : UInt64)).toUInt32) 16).toUInt16) 8).toUInt8), (((shr32 ((p0.N ^^^ (9223372036854775808 : UInt64)).toUInt32) 16).toUInt16).toUInt8)]) ++ [((shr16 (((p0.N ^^^ (9223372036854775808 : UInt64)).toUInt32).toUInt16) 8).toUInt8), ((((p0.N ^^^ (9223372036854775808 : UInt64)).toUInt32).toUInt16).toUInt8)])
 else
 bif (p0.Kind == (2 : Int)) then
 Option.bind (pack_Out_U64 p0.N r57) fun _ =>
 some ((((r57 ++ [((shr16 ((shr32 ((shr64 p0.N 32).toUInt32) 16).toUInt16) 8).toUInt8), (((shr32 ((shr64 p0.N 32).toUInt32) 16).toUInt16).toUInt8)]) ++ [((shr16 (((shr64 p0.N 32).toUInt32).toUInt16) 8).toUInt8), ((((shr64 p0.N 32).toUInt32).toUInt16).toUInt8)]) ++ [((shr16 ((shr32 (p0.N.toUInt32) 16).toUInt16) 8).toUInt8), (((shr32 (p0.N.toUInt32) 16).toUInt16).toUInt8)]) ++ [((shr16 ((p0.N.toUInt32).toUInt16) 8).toUInt8), (((p0.N.toUInt32).toUInt16).toUInt8)])
 else
 bif (p0.Kind == (3 : Int)) then
 Option.bind (pack_Out_U8 (p0.N.toUInt8) r57) fun _ =>
 some (r57 ++ [(p0.N.toUInt8)])
 else
 some r57)
 fun y61 =>
 Option.bind (pack_Out_Bytes y61) fun _ =>
 Option.bind (α := (List UInt8))
 (Option.bind (α := Bool)
 (bif (p0.Kind == (4 : Int)) then
 some true
 else
 some (p0.Kind == (5 : Int)))
 fun y75 =>
 bif y75 then
 Option.bind (replF p0.S ([0] : List UInt8) ([0, 255] : List UInt8)) fun r78 =>
 bif decide ((y61.length + r78.length) * 1 ≤ room) then
 bif decide (((y61 ++ r78).length + [(0 : UInt8), (0 : UInt8)].length) * 1 ≤ room) then
 some ((y61 ++ r78) ++ [(0 : UInt8), (0 : UInt8)])
 else none
 else none
 else
 some y61)
 fun y73 =>
 bif p1 then
 Option.bind (key_turned_K y73) fun r82 =>
 some r82
 else
 some y73
theorem key_one_L (p0 : ApiValue) (p1 : Bool) : Le (key_one_K p0 p1) (key_one p0 p1) := by
 unfold key_one_K key_one
 repeat (first|exact key_turned_L _|apply zb|apply zc|apply zl|apply zE|apply zm|exact zr _|intro _)
noncomputable def key_Encode_K (p0 : List ApiValue) (p1 : List Bool) : Option ((List UInt8) × Int) :=
 bif ((p0.length : Int) != (p1.length : Int)) then
 some (([] : List UInt8), (1 : Int))
 else
 Option.bind (slices_ContainsFunc_api_Value_api_Value_K p0) fun r100 =>
 bif r100 then
 some (([] : List UInt8), (8 : Int))
 else
 Option.bind (α := (List UInt8))
 (Option.bind (α := (List UInt8))
 (loopF (Y := (List UInt8) × Int) (W := (List UInt8)) (fun (y130, y131) =>
 bif (decide (y131 < (p0.length : Int))) then
 Option.bind (getI p0 y131) fun v141 =>
 Option.bind (getI p1 y131) fun v142 =>
 Option.bind (key_one_K v141 v142) fun r144 =>
 bif decide ((y130.length + r144.length) * 1 ≤ room) then
 some (Sum.inl ((y130 ++ r144), (w64 (y131 + (1 : Int)))))
 else none
 else
 some (Sum.inr y130)) (([] : List UInt8), (0 : Int)))
 (fun e => some e))
 fun y123 =>
 bif (decide ((y123.length : Int) > (256 : Int))) then
 some (([] : List UInt8), (7 : Int))
 else
 some (y123, (0 : Int))
theorem key_Encode_L (p0 : List ApiValue) (p1 : List Bool) : Le (key_Encode_K p0 p1) (key_Encode p0 p1) := by
 unfold key_Encode_K key_Encode
 repeat (first|exact slices_ContainsFunc_api_Value_api_Value_L _|exact key_one_L _ _|apply zb|apply zc|apply zl|apply zE|apply zm|exact zr _|intro _)
noncomputable def pred_one_K (p0 : ApiValue) (p1 : Bool) : Option ((List UInt8)) :=
 Option.bind (key_Encode_K [p0] [p1]) fun (r9, r10) =>
 some r9
theorem pred_one_L (p0 : ApiValue) (p1 : Bool) : Le (pred_one_K p0 p1) (pred_one p0 p1) := by
 unfold pred_one_K pred_one
 repeat (first|exact key_Encode_L _ _|apply zb|apply zc|apply zl|apply zE|apply zm|exact zr _|intro _)
noncomputable def key_After_K (p0 : List UInt8) : Option ((List UInt8) × Bool) :=
 Option.bind (α := Nat)
 (Option.bind (α := Nat)
 (loopF (Y := Nat) (W := Nat) (fun y120 =>
 Option.bind (α := Bool)
 (bif (decide ((y120 : Int) > (0 : Int))) then
 Option.bind (getS p0 0 y120 (w64 ((y120 : Int) - (1 : Int)))) fun v132 =>
 some (v132 == (255 : UInt8))
 else
 some false)
 fun y130 =>
 bif y130 then
 bif decide (0 ≤ (w64 ((y120 : Int) - (1 : Int))) ∧ (w64 ((y120 : Int) - (1 : Int))) ≤ (y120 : Int)) then
 some (Sum.inl ((w64 ((y120 : Int) - (1 : Int))).toNat))
 else none
 else
 some (Sum.inr y120)) p0.length)
 (fun e => some e))
 fun y113 =>
 bif ((y113 : Int) == (0 : Int)) then
 some (([] : List UInt8), false)
 else
 Option.bind (getS p0 0 y113 (w64 ((y113 : Int) - (1 : Int)))) fun v135 =>
 Option.bind (getS p0 0 y113 (w64 ((y113 : Int) - (1 : Int)))) fun v136 =>
 bif decide (0 + y113 ≤ (List.set p0 ((w64 ((y113 : Int) - (1 : Int))).toNat) (v135 + (1 : UInt8))).length) then
 some ((List.take y113 (List.drop 0 (List.set p0 ((w64 ((y113 : Int) - (1 : Int))).toNat) (v135 + (1 : UInt8))))), true)
 else none
theorem key_After_L (p0 : List UInt8) : Le (key_After_K p0) (key_After p0) := by
 unfold key_After_K key_After
 repeat (first|apply zb|apply zc|apply zl|apply zE|apply zm|exact zr _|intro _)
noncomputable def pred_end_K (p0 : List UInt8) : Option ((List UInt8)) :=
 Option.bind (key_After_K p0) fun (r9, r10) =>
 some r9
theorem pred_end_L (p0 : List UInt8) : Le (pred_end_K p0) (pred_end p0) := by
 unfold pred_end_K pred_end
 repeat (first|exact key_After_L _|apply zb|apply zc|apply zl|apply zE|apply zm|exact zr _|intro _)
noncomputable def pred_bounded_K (p0 : ApiPart) (p1 : List PredNode) (p2 : List UInt8) : Option (Bool × ApiSpan) :=
 bif decide (p2.length + ([1] : List UInt8).length ≤ 9223372036854775807) then
 bif decide (p2.length + ([1] : List UInt8).length ≤ 9223372036854775807) then
 Option.bind (pred_end_K (p2 ++ ([1] : List UInt8))) fun r492 =>
 Option.bind (α := ApiSpan)
 (bif p0.Down then
 bif decide (p2.length + ([254] : List UInt8).length ≤ 9223372036854775807) then
 Option.bind (pred_end_K (p2 ++ ([254] : List UInt8))) fun r500 =>
 some (ApiSpan.mk p2 r500 false)
 else none
 else
 some (ApiSpan.mk (p2 ++ ([1] : List UInt8)) r492 false))
 fun y496 =>
 Option.bind (α := Bool × ApiSpan)
 (Option.bind (α := Bool × ApiSpan)
 (loopF (Y := Bool × Int × ApiSpan) (W := Bool × ApiSpan) (fun (y653, y654, y655) =>
 bif (decide (y654 < (p1.length : Int))) then
 Option.bind (α := Bool × ApiSpan)
 (Option.bind (getI p1 y654) fun v715 =>
 Option.bind (α := Bool)
 (bif (v715.Kind != (2 : Int)) then
 some true
 else
 bif (v715.Col != p0.Col) then
 some true
 else
 bif (v715.Op == (3 : Int)) then
 some true
 else
 some (v715.Op == (6 : Int)))
 fun y716 =>
 bif y716 then
 some (y653, y655)
 else
 Option.bind (pred_one_K v715.Val p0.Down) fun r719 =>
 bif decide (p2.length + r719.length ≤ 9223372036854775807) then
 Option.bind (α := Bool)
 (bif (v715.Op == (4 : Int)) then
 some true
 else
 some (v715.Op == (5 : Int)))
 fun y721 =>
 Option.bind (α := Bool)
 (bif (y721 == p0.Down) then
 bif (v715.Op == (4 : Int)) then
 some true
 else
 some (v715.Op == (2 : Int))
 else
 some false)
 fun y723 =>
 bif y723 then
 Option.bind (pred_end_K (p2 ++ r719)) fun r726 =>
 some (true, (ApiSpan.mk y655.Lo (minS y655.Hi r726) y655.Open))
 else
 bif (y721 == p0.Down) then
 some (true, (ApiSpan.mk y655.Lo (minS y655.Hi (p2 ++ r719)) y655.Open))
 else
 Option.bind (α := Bool)
 (bif (v715.Op == (4 : Int)) then
 some true
 else
 some (v715.Op == (2 : Int)))
 fun y727 =>
 bif y727 then
 some (true, (ApiSpan.mk (maxS y655.Lo (p2 ++ r719)) y655.Hi y655.Open))
 else
 Option.bind (pred_end_K (p2 ++ r719)) fun r730 =>
 some (true, (ApiSpan.mk (maxS y655.Lo r730) y655.Hi y655.Open))
 else none)
 fun (y712, y713) =>
 some (Sum.inl (y712, (w64 (y654 + (1 : Int))), y713))
 else
 some (Sum.inr (y653, y655))) (false, (0 : Int), y496))
 (fun e => some e))
 fun (y615, y616) =>
 some (y615, y616)
 else none
 else none
theorem pred_bounded_L (p0 : ApiPart) (p1 : List PredNode) (p2 : List UInt8) : Le (pred_bounded_K p0 p1 p2) (pred_bounded p0 p1 p2) := by
 unfold pred_bounded_K pred_bounded
 repeat (first|exact pred_one_L _ _|exact pred_end_L _|apply zb|apply zc|apply zl|apply zE|apply zm|exact zr _|intro _)
noncomputable def key_Under_K (p0 : List UInt8) : Option ApiSpan :=
 Option.bind (key_After_K p0) fun (r9, r10) =>
 some (ApiSpan.mk p0 r9 (!r10))
theorem key_Under_L (p0 : List UInt8) : Le (key_Under_K p0) (key_Under p0) := by
 unfold key_Under_K key_Under
 repeat (first|exact key_After_L _|apply zb|apply zc|apply zl|apply zE|apply zm|exact zr _|intro _)
noncomputable def pred_Bounds_K (p0 : List ApiPart) (p1 : List PredNode) : Option (Int × Bool × ApiSpan) :=
 Option.bind (pred_conjuncts_K 1000 p1 (w64 ((p1.length : Int) - (1 : Int))) true) fun (r151, r152) =>
 Option.bind (α := (List UInt8) × Int)
 (Option.bind (α := (List UInt8) × Int)
 (loopF (Y := (List UInt8) × Int) (W := (List UInt8) × Int) (fun (y191, y192) =>
 bif (decide (y192 < (p0.length : Int))) then
 Option.bind (getI p0 y192) fun v204 =>
 Option.bind (slices_IndexFunc_pred_Node_pred_Node_K r151 v204) fun r206 =>
 bif (decide (r206 < (0 : Int))) then
 some (Sum.inr (y191, y192))
 else
 Option.bind (getI r151 r206) fun v207 =>
 Option.bind (pred_one_K v207.Val v204.Down) fun r209 =>
 bif decide (y191.length + r209.length ≤ 9223372036854775807) then
 some (Sum.inl ((y191 ++ r209), (w64 (y192 + (1 : Int)))))
 else none
 else
 some (Sum.inr (y191, y192))) (([] : List UInt8), (0 : Int)))
 (fun e => some e))
 fun (y181, y182) =>
 bindE (Y := Unit) (E := Int × Bool × ApiSpan)
 (bif (decide (y182 < (p0.length : Int))) then
 Option.bind (getI p0 y182) fun v217 =>
 Option.bind (pred_bounded_K v217 r151 y181) fun (r219, r220) =>
 bif r219 then
 some (Sum.inr (y182, true, r220))
 else
 some (Sum.inl ())
 else
 some (Sum.inl ()))
 (fun _ =>
 Option.bind (key_Under_K y181) fun r222 =>
 some (y182, false, r222))
 (fun e => some e)
theorem pred_Bounds_L (p0 : List ApiPart) (p1 : List PredNode) : Le (pred_Bounds_K p0 p1) (pred_Bounds p0 p1) := by
 unfold pred_Bounds_K pred_Bounds
 repeat (first|exact pred_conjuncts_L _ _ _ _|exact slices_IndexFunc_pred_Node_pred_Node_L _ _|exact pred_one_L _ _|exact pred_bounded_L _ _ _|exact key_Under_L _|apply zb|apply zc|apply zl|apply zE|apply zm|exact zr _|intro _)
noncomputable def pred_Check_K (p0 : List ApiColumn) (p1 : List PredNode) : Option Int :=
 bif (decide ((p1.length : Int) > (200 : Int))) then
 some (7 : Int)
 else
 bindE (Y := (List Int)) (E := Int)
 (Option.bind (α := ((List Int)) ⊕ Int)
 (loopF (Y := (List Int) × Int) (W := ((List Int)) ⊕ Int) (fun (y1287, y1288) =>
 bif (decide (y1288 < (p1.length : Int))) then
 bindE (Y := (List Int)) (E := Int)
 (Option.bind (getI p1 y1288) fun v1429 =>
 Option.bind (pred_Node_takes v1429) fun r1431 =>
 Option.bind (α := Bool)
 (Option.bind (pred_Node_form v1429 (p0.length : Int)) fun r1437 =>
 bif (!r1437) then
 some true
 else
 some (decide ((w64 ((y1287.length : Int) - r1431)) < (0 : Int))))
 fun y1434 =>
 bif y1434 then
 some (Sum.inr (1 : Int))
 else
 Option.bind (α := Bool)
 (bif (v1429.Kind == (2 : Int)) then
 Option.bind (value_Valid v1429.Val) fun r1444 =>
 bif (!r1444) then
 some true
 else
 bif (v1429.Val.Kind == (0 : Int)) then
 some true
 else
 Option.bind (getI p0 v1429.Col) fun v1445 =>
 some (v1429.Val.Kind != v1445.Kind)
 else
 some false)
 fun y1441 =>
 bif y1441 then
 some (Sum.inr (8 : Int))
 else
 Option.bind (α := Int)
 (bif decide (0 ≤ (w64 ((y1287.length : Int) - r1431)) ∧ (w64 ((y1287.length : Int) - r1431)) ≤ (y1287.length : Int)) then
 Option.bind (α := Int)
 (loopF (Y := Int × Int) (W := Int) (fun (y1461, y1462) =>
 bif (decide (y1462 < ((y1287.length - (w64 ((y1287.length : Int) - r1431)).toNat : Nat) : Int))) then
 Option.bind (getS y1287 (0 + (w64 ((y1287.length : Int) - r1431)).toNat) (y1287.length - (w64 ((y1287.length : Int) - r1431)).toNat) y1462) fun v1468 =>
 some (Sum.inl ((max y1461 v1468), (w64 (y1462 + (1 : Int)))))
 else
 some (Sum.inr y1461)) ((0 : Int), (0 : Int)))
 (fun e => some e)
 else none)
 fun y1457 =>
 bif decide (0 ≤ (w64 ((y1287.length : Int) - r1431)) ∧ (w64 ((y1287.length : Int) - r1431)) ≤ (y1287.length : Int)) then
 bif decide (0 + ((w64 ((y1287.length : Int) - r1431)).toNat) ≤ y1287.length) then
 bif decide ((((w64 ((y1287.length : Int) - r1431)).toNat) + [(w64 (y1457 + (1 : Int)))].length) * 8 ≤ room) then
 some (Sum.inl (List.take ((w64 ((y1287.length : Int) - r1431)).toNat) (List.drop 0 y1287) ++ [(w64 (y1457 + (1 : Int)))]))
 else none
 else none
 else none)
 (fun y1427 =>
 some (Sum.inl (y1427, (w64 (y1288 + (1 : Int))))))
 (fun e => some (Sum.inr (Sum.inr e)))
 else
 some (Sum.inr (Sum.inl y1287))) (([] : List Int), (0 : Int)))
 (Sum.elim (fun e => some (Sum.inl e)) (fun e => some (Sum.inr e))))
 (fun y1228 =>
 bif ((y1228.length : Int) != (1 : Int)) then
 some (1 : Int)
 else
 Option.bind (getI y1228 (0 : Int)) fun v1474 =>
 bif (decide (v1474 > (24 : Int))) then
 some (7 : Int)
 else
 some (0 : Int))
 (fun e => some e)
theorem pred_Check_L (p0 : List ApiColumn) (p1 : List PredNode) : Le (pred_Check_K p0 p1) (pred_Check p0 p1) := by
 unfold pred_Check_K pred_Check
 repeat (first|apply zb|apply zc|apply zl|apply zE|apply zm|exact zr _|intro _)
noncomputable def pred_Check_1_K (p0 : List ApiColumn) (p1 : List PredNode) (p2 : Nat) (p3 : Nat) : Option Int :=
 bif (decide ((p3 : Int) > (200 : Int))) then
 some (7 : Int)
 else
 bindE (Y := (List Int)) (E := Int)
 (Option.bind (α := ((List Int)) ⊕ Int)
 (loopF (Y := (List Int) × Int) (W := ((List Int)) ⊕ Int) (fun (y1287, y1288) =>
 bif (decide (y1288 < (p3 : Int))) then
 bindE (Y := (List Int)) (E := Int)
 (Option.bind (getS p1 p2 p3 y1288) fun v1429 =>
 Option.bind (pred_Node_takes v1429) fun r1431 =>
 Option.bind (α := Bool)
 (Option.bind (pred_Node_form v1429 (p0.length : Int)) fun r1437 =>
 bif (!r1437) then
 some true
 else
 some (decide ((w64 ((y1287.length : Int) - r1431)) < (0 : Int))))
 fun y1434 =>
 bif y1434 then
 some (Sum.inr (1 : Int))
 else
 Option.bind (α := Bool)
 (bif (v1429.Kind == (2 : Int)) then
 Option.bind (value_Valid v1429.Val) fun r1444 =>
 bif (!r1444) then
 some true
 else
 bif (v1429.Val.Kind == (0 : Int)) then
 some true
 else
 Option.bind (getI p0 v1429.Col) fun v1445 =>
 some (v1429.Val.Kind != v1445.Kind)
 else
 some false)
 fun y1441 =>
 bif y1441 then
 some (Sum.inr (8 : Int))
 else
 Option.bind (α := Int)
 (bif decide (0 ≤ (w64 ((y1287.length : Int) - r1431)) ∧ (w64 ((y1287.length : Int) - r1431)) ≤ (y1287.length : Int)) then
 Option.bind (α := Int)
 (loopF (Y := Int × Int) (W := Int) (fun (y1461, y1462) =>
 bif (decide (y1462 < ((y1287.length - (w64 ((y1287.length : Int) - r1431)).toNat : Nat) : Int))) then
 Option.bind (getS y1287 (0 + (w64 ((y1287.length : Int) - r1431)).toNat) (y1287.length - (w64 ((y1287.length : Int) - r1431)).toNat) y1462) fun v1468 =>
 some (Sum.inl ((max y1461 v1468), (w64 (y1462 + (1 : Int)))))
 else
 some (Sum.inr y1461)) ((0 : Int), (0 : Int)))
 (fun e => some e)
 else none)
 fun y1457 =>
 bif decide (0 ≤ (w64 ((y1287.length : Int) - r1431)) ∧ (w64 ((y1287.length : Int) - r1431)) ≤ (y1287.length : Int)) then
 bif decide (0 + ((w64 ((y1287.length : Int) - r1431)).toNat) ≤ y1287.length) then
 bif decide ((((w64 ((y1287.length : Int) - r1431)).toNat) + [(w64 (y1457 + (1 : Int)))].length) * 8 ≤ room) then
 some (Sum.inl (List.take ((w64 ((y1287.length : Int) - r1431)).toNat) (List.drop 0 y1287) ++ [(w64 (y1457 + (1 : Int)))]))
 else none
 else none
 else none)
 (fun y1427 =>
 some (Sum.inl (y1427, (w64 (y1288 + (1 : Int))))))
 (fun e => some (Sum.inr (Sum.inr e)))
 else
 some (Sum.inr (Sum.inl y1287))) (([] : List Int), (0 : Int)))
 (Sum.elim (fun e => some (Sum.inl e)) (fun e => some (Sum.inr e))))
 (fun y1228 =>
 bif ((y1228.length : Int) != (1 : Int)) then
 some (1 : Int)
 else
 Option.bind (getI y1228 (0 : Int)) fun v1474 =>
 bif (decide (v1474 > (24 : Int))) then
 some (7 : Int)
 else
 some (0 : Int))
 (fun e => some e)
theorem pred_Check_1_L (p0 : List ApiColumn) (p1 : List PredNode) (p2 : Nat) (p3 : Nat) : Le (pred_Check_1_K p0 p1 p2 p3) (pred_Check_1 p0 p1 p2 p3) := by
 unfold pred_Check_1_K pred_Check_1
 repeat (first|apply zb|apply zc|apply zl|apply zE|apply zm|exact zr _|intro _)
noncomputable def cmp_Or_int_K (p0 : List Int) : Option Int :=
 bindE (Y := Unit) (E := Int)
 (Option.bind (α := Unit ⊕ Int)
 (loopF (Y := Int) (W := Unit ⊕ Int) (fun y46 =>
 bif (decide (y46 < (p0.length : Int))) then
 Option.bind (getI p0 y46) fun v51 =>
 bif (v51 != (0 : Int)) then
 some (Sum.inr (Sum.inr v51))
 else
 some (Sum.inl (w64 (y46 + (1 : Int))))
 else
 some (Sum.inr (Sum.inl ()))) (0 : Int))
 (Sum.elim (fun e => some (Sum.inl e)) (fun e => some (Sum.inr e))))
 (fun _ =>
 some (0 : Int))
 (fun e => some e)
theorem cmp_Or_int_L (p0 : List Int) : Le (cmp_Or_int_K p0) (cmp_Or_int p0) := by
 unfold cmp_Or_int_K cmp_Or_int
 repeat (first|apply zb|apply zc|apply zl|apply zE|apply zm|exact zr _|intro _)
noncomputable def value_Cmp_1_K (p0 : ApiValue) (p1 : ApiValue) : Option Int :=
 Option.bind (cmp_Compare_int p0.Kind p1.Kind) fun r39 =>
 Option.bind (α := Int)
 (Option.bind (α := Bool)
 (bif (r39 == (0 : Int)) then
 some (p0.Kind == (1 : Int))
 else
 some false)
 fun y46 =>
 bif y46 then
 Option.bind (cmp_Compare_int64 (i64u p0.N) (i64u p1.N)) fun r49 =>
 some r49
 else
 some r39)
 fun y44 =>
 Option.bind (cmp_Compare_uint64 p0.N p1.N) fun r51 =>
 Option.bind (cmpF p0.S p1.S) fun r53 =>
 Option.bind (cmp_Or_int_K [y44, r51, r53]) fun r55 =>
 some r55
theorem value_Cmp_1_L (p0 : ApiValue) (p1 : ApiValue) : Le (value_Cmp_1_K p0 p1) (value_Cmp_1 p0 p1) := by
 unfold value_Cmp_1_K value_Cmp_1
 repeat (first|exact cmp_Or_int_L _|apply zb|apply zc|apply zl|apply zE|apply zm|exact zr _|intro _)
noncomputable def pred_Node_compares_K (p0 : PredNode) (p1 : ApiValue) : Option Bool :=
 bif (p1.Kind == (0 : Int)) then
 some false
 else
 Option.bind (value_Cmp_1_K p1 p0.Val) fun r7 =>
 bif (p0.Op == (1 : Int)) then
 some (decide (r7 < (0 : Int)))
 else
 bif (p0.Op == (2 : Int)) then
 some (decide (r7 ≤ (0 : Int)))
 else
 bif (p0.Op == (3 : Int)) then
 some (r7 == (0 : Int))
 else
 bif (p0.Op == (4 : Int)) then
 some (decide (r7 ≥ (0 : Int)))
 else
 bif (p0.Op == (5 : Int)) then
 some (decide (r7 > (0 : Int)))
 else
 some (r7 != (0 : Int))
theorem pred_Node_compares_L (p0 : PredNode) (p1 : ApiValue) : Le (pred_Node_compares_K p0 p1) (pred_Node_compares p0 p1) := by
 unfold pred_Node_compares_K pred_Node_compares
 repeat (first|exact value_Cmp_1_L _ _|apply zb|apply zc|apply zl|apply zE|apply zm|exact zr _|intro _)
noncomputable def pred_Node_cmp_1_K (p0 : PredNode) (p1 : List Bool) (p2 : Nat) (p3 : Nat) (p4 : List ApiValue) : Option Bool :=
 Option.bind (getI p4 p0.Col) fun v8 =>
 Option.bind (pred_Node_compares_K p0 v8) fun r10 =>
 some r10
theorem pred_Node_cmp_1_L (p0 : PredNode) (p1 : List Bool) (p2 : Nat) (p3 : Nat) (p4 : List ApiValue) : Le (pred_Node_cmp_1_K p0 p1 p2 p3 p4) (pred_Node_cmp_1 p0 p1 p2 p3 p4) := by
 unfold pred_Node_cmp_1_K pred_Node_cmp_1
 repeat (first|exact pred_Node_compares_L _ _|apply zb|apply zc|apply zl|apply zE|apply zm|exact zr _|intro _)
noncomputable def pred_Eval_K (p0 : List PredNode) (p1 : List ApiValue) : Option Bool :=
 Option.bind pred_workers fun _ =>
 Option.bind (α := (List Bool))
 (Option.bind (α := (List Bool))
 (loopF (Y := (List Bool) × Int) (W := (List Bool)) (fun (y486, y487) =>
 bif (decide (y487 < (p0.length : Int))) then
 Option.bind (getI p0 y487) fun v525 =>
 Option.bind (pred_Node_takes v525) fun r527 =>
 bif decide (0 ≤ (w64 ((y486.length : Int) - r527)) ∧ (w64 ((y486.length : Int) - r527)) ≤ (y486.length : Int)) then
 bif (v525.Kind == (1 : Int)) then
 bif decide (0 ≤ (w64 ((y486.length : Int) - r527)) ∧ (w64 ((y486.length : Int) - r527)) ≤ (y486.length : Int)) then
 Option.bind (pred_Node_yes_1 v525 y486 (0 + (w64 ((y486.length : Int) - r527)).toNat) (y486.length - (w64 ((y486.length : Int) - r527)).toNat) p1) fun _ =>
 bif decide (0 + ((w64 ((y486.length : Int) - r527)).toNat) ≤ y486.length) then
 bif decide ((((w64 ((y486.length : Int) - r527)).toNat) + [true].length) * 1 ≤ room) then
 some (Sum.inl ((List.take ((w64 ((y486.length : Int) - r527)).toNat) (List.drop 0 y486) ++ [true]), (w64 (y487 + (1 : Int)))))
 else none
 else none
 else none
 else
 bif (v525.Kind == (2 : Int)) then
 bif decide (0 ≤ (w64 ((y486.length : Int) - r527)) ∧ (w64 ((y486.length : Int) - r527)) ≤ (y486.length : Int)) then
 Option.bind (pred_Node_cmp_1_K v525 y486 (0 + (w64 ((y486.length : Int) - r527)).toNat) (y486.length - (w64 ((y486.length : Int) - r527)).toNat) p1) fun r551 =>
 bif decide (0 + ((w64 ((y486.length : Int) - r527)).toNat) ≤ y486.length) then
 bif decide ((((w64 ((y486.length : Int) - r527)).toNat) + [r551].length) * 1 ≤ room) then
 some (Sum.inl ((List.take ((w64 ((y486.length : Int) - r527)).toNat) (List.drop 0 y486) ++ [r551]), (w64 (y487 + (1 : Int)))))
 else none
 else none
 else none
 else
 bif (v525.Kind == (3 : Int)) then
 bif decide (0 ≤ (w64 ((y486.length : Int) - r527)) ∧ (w64 ((y486.length : Int) - r527)) ≤ (y486.length : Int)) then
 Option.bind (pred_Node_null_1 v525 y486 (0 + (w64 ((y486.length : Int) - r527)).toNat) (y486.length - (w64 ((y486.length : Int) - r527)).toNat) p1) fun r546 =>
 bif decide (0 + ((w64 ((y486.length : Int) - r527)).toNat) ≤ y486.length) then
 bif decide ((((w64 ((y486.length : Int) - r527)).toNat) + [r546].length) * 1 ≤ room) then
 some (Sum.inl ((List.take ((w64 ((y486.length : Int) - r527)).toNat) (List.drop 0 y486) ++ [r546]), (w64 (y487 + (1 : Int)))))
 else none
 else none
 else none
 else
 bif (v525.Kind == (4 : Int)) then
 bif decide (0 ≤ (w64 ((y486.length : Int) - r527)) ∧ (w64 ((y486.length : Int) - r527)) ≤ (y486.length : Int)) then
 Option.bind (pred_Node_both v525 y486 (0 + (w64 ((y486.length : Int) - r527)).toNat) (y486.length - (w64 ((y486.length : Int) - r527)).toNat) p1) fun r541 =>
 bif decide (0 + ((w64 ((y486.length : Int) - r527)).toNat) ≤ y486.length) then
 bif decide ((((w64 ((y486.length : Int) - r527)).toNat) + [r541].length) * 1 ≤ room) then
 some (Sum.inl ((List.take ((w64 ((y486.length : Int) - r527)).toNat) (List.drop 0 y486) ++ [r541]), (w64 (y487 + (1 : Int)))))
 else none
 else none
 else none
 else
 bif (v525.Kind == (5 : Int)) then
 bif decide (0 ≤ (w64 ((y486.length : Int) - r527)) ∧ (w64 ((y486.length : Int) - r527)) ≤ (y486.length : Int)) then
 Option.bind (pred_Node_either v525 y486 (0 + (w64 ((y486.length : Int) - r527)).toNat) (y486.length - (w64 ((y486.length : Int) - r527)).toNat) p1) fun r536 =>
 bif decide (0 + ((w64 ((y486.length : Int) - r527)).toNat) ≤ y486.length) then
 bif decide ((((w64 ((y486.length : Int) - r527)).toNat) + [r536].length) * 1 ≤ room) then
 some (Sum.inl ((List.take ((w64 ((y486.length : Int) - r527)).toNat) (List.drop 0 y486) ++ [r536]), (w64 (y487 + (1 : Int)))))
 else none
 else none
 else none
 else
 bif (v525.Kind == (6 : Int)) then
 bif decide (0 ≤ (w64 ((y486.length : Int) - r527)) ∧ (w64 ((y486.length : Int) - r527)) ≤ (y486.length : Int)) then
 Option.bind (pred_Node_turn v525 y486 (0 + (w64 ((y486.length : Int) - r527)).toNat) (y486.length - (w64 ((y486.length : Int) - r527)).toNat) p1) fun r531 =>
 bif decide (0 + ((w64 ((y486.length : Int) - r527)).toNat) ≤ y486.length) then
 bif decide ((((w64 ((y486.length : Int) - r527)).toNat) + [r531].length) * 1 ≤ room) then
 some (Sum.inl ((List.take ((w64 ((y486.length : Int) - r527)).toNat) (List.drop 0 y486) ++ [r531]), (w64 (y487 + (1 : Int)))))
 else none
 else none
 else none
 else
 none
 else none
 else
 some (Sum.inr y486)) (([] : List Bool), (0 : Int)))
 (fun e => some e))
 fun y466 =>
 Option.bind (getI y466 (0 : Int)) fun v559 =>
 some v559
theorem pred_Eval_L (p0 : List PredNode) (p1 : List ApiValue) : Le (pred_Eval_K p0 p1) (pred_Eval p0 p1) := by
 unfold pred_Eval_K pred_Eval
 repeat (first|exact pred_Node_cmp_1_L _ _ _ _ _|apply zb|apply zc|apply zl|apply zE|apply zm|exact zr _|intro _)
noncomputable def pred_Cols_K (p0 : List PredNode) : Option ((List Int)) :=
 Option.bind (α := (List Int))
 (Option.bind (α := (List Int))
 (loopF (Y := (List Int) × Int) (W := (List Int)) (fun (y211, y212) =>
 bif (decide (y212 < (p0.length : Int))) then
 Option.bind (α := (List Int))
 (Option.bind (getI p0 y212) fun v233 =>
 Option.bind (α := Bool)
 (bif (v233.Kind == (2 : Int)) then
 some true
 else
 some (v233.Kind == (3 : Int)))
 fun y234 =>
 bif y234 then
 bif decide ((y211.length + [v233.Col].length) * 8 ≤ room) then
 some (y211 ++ [v233.Col])
 else none
 else
 some y211)
 fun y231 =>
 some (Sum.inl (y231, (w64 (y212 + (1 : Int)))))
 else
 some (Sum.inr y211)) (([] : List Int), (0 : Int)))
 (fun e => some e))
 fun y199 =>
 Option.bind (isortF_K y199) fun r239 =>
 Option.bind (icompactF r239 0 y199.length) fun r241 =>
 some r241
theorem pred_Cols_L (p0 : List PredNode) : Le (pred_Cols_K p0) (pred_Cols p0) := by
 unfold pred_Cols_K pred_Cols
 repeat (first|exact isortF_L _|apply zb|apply zc|apply zl|apply zE|apply zm|exact zr _|intro _)
noncomputable def law20_awake_K : Option Bool :=
 Option.bind (pred_Bounds_K [(ApiPart.mk (0 : Int) false), (ApiPart.mk (1 : Int) false)] [(PredNode.mk (2 : Int) (0 : Int) (3 : Int) (ApiValue.mk (1 : Int) (5 : UInt64) ([] : List UInt8))), (PredNode.mk (2 : Int) (1 : Int) (1 : Int) (ApiValue.mk (1 : Int) (7 : UInt64) ([] : List UInt8))), (PredNode.mk (4 : Int) (0 : Int) (0 : Int) (ApiValue.mk (0 : Int) (0 : UInt64) ([] : List UInt8)))]) fun (r51, r52, r53) =>
 Option.bind (α := Bool)
 (Option.bind (pred_Check_K [(ApiColumn.mk ([97] : List UInt8) (1 : Int) (0 : Int) false (ApiValue.mk (1 : Int) (0 : UInt64) ([] : List UInt8))), (ApiColumn.mk ([98] : List UInt8) (1 : Int) (0 : Int) false (ApiValue.mk (1 : Int) (0 : UInt64) ([] : List UInt8)))] [(PredNode.mk (2 : Int) (0 : Int) (3 : Int) (ApiValue.mk (1 : Int) (5 : UInt64) ([] : List UInt8))), (PredNode.mk (2 : Int) (1 : Int) (1 : Int) (ApiValue.mk (1 : Int) (7 : UInt64) ([] : List UInt8))), (PredNode.mk (4 : Int) (0 : Int) (0 : Int) (ApiValue.mk (0 : Int) (0 : UInt64) ([] : List UInt8)))]) fun r66 =>
 bif (r66 == (0 : Int)) then
 bif decide (0 ≤ (2 : Int) ∧ (2 : Int) ≤ ([(PredNode.mk (2 : Int) (0 : Int) (3 : Int) (ApiValue.mk (1 : Int) (5 : UInt64) ([] : List UInt8))), (PredNode.mk (2 : Int) (1 : Int) (1 : Int) (ApiValue.mk (1 : Int) (7 : UInt64) ([] : List UInt8))), (PredNode.mk (4 : Int) (0 : Int) (0 : Int) (ApiValue.mk (0 : Int) (0 : UInt64) ([] : List UInt8)))].length : Int)) then
 Option.bind (pred_Check_1_K [(ApiColumn.mk ([97] : List UInt8) (1 : Int) (0 : Int) false (ApiValue.mk (1 : Int) (0 : UInt64) ([] : List UInt8))), (ApiColumn.mk ([98] : List UInt8) (1 : Int) (0 : Int) false (ApiValue.mk (1 : Int) (0 : UInt64) ([] : List UInt8)))] [(PredNode.mk (2 : Int) (0 : Int) (3 : Int) (ApiValue.mk (1 : Int) (5 : UInt64) ([] : List UInt8))), (PredNode.mk (2 : Int) (1 : Int) (1 : Int) (ApiValue.mk (1 : Int) (7 : UInt64) ([] : List UInt8))), (PredNode.mk (4 : Int) (0 : Int) (0 : Int) (ApiValue.mk (0 : Int) (0 : UInt64) ([] : List UInt8)))] (0 + (2 : Int).toNat) (([(PredNode.mk (2 : Int) (0 : Int) (3 : Int) (ApiValue.mk (1 : Int) (5 : UInt64) ([] : List UInt8))), (PredNode.mk (2 : Int) (1 : Int) (1 : Int) (ApiValue.mk (1 : Int) (7 : UInt64) ([] : List UInt8))), (PredNode.mk (4 : Int) (0 : Int) (0 : Int) (ApiValue.mk (0 : Int) (0 : UInt64) ([] : List UInt8)))].length) - (2 : Int).toNat)) fun r69 =>
 bif (r69 == (1 : Int)) then
 Option.bind (pred_Eval_K [(PredNode.mk (2 : Int) (0 : Int) (3 : Int) (ApiValue.mk (1 : Int) (5 : UInt64) ([] : List UInt8))), (PredNode.mk (2 : Int) (1 : Int) (1 : Int) (ApiValue.mk (1 : Int) (7 : UInt64) ([] : List UInt8))), (PredNode.mk (4 : Int) (0 : Int) (0 : Int) (ApiValue.mk (0 : Int) (0 : UInt64) ([] : List UInt8)))] [(ApiValue.mk (1 : Int) (5 : UInt64) ([] : List UInt8)), (ApiValue.mk (1 : Int) (6 : UInt64) ([] : List UInt8))]) fun r71 =>
 bif r71 then
 Option.bind (pred_Cols_K [(PredNode.mk (2 : Int) (0 : Int) (3 : Int) (ApiValue.mk (1 : Int) (5 : UInt64) ([] : List UInt8))), (PredNode.mk (2 : Int) (1 : Int) (1 : Int) (ApiValue.mk (1 : Int) (7 : UInt64) ([] : List UInt8))), (PredNode.mk (4 : Int) (0 : Int) (0 : Int) (ApiValue.mk (0 : Int) (0 : UInt64) ([] : List UInt8)))]) fun r73 =>
 bif ((r73.length : Int) == (2 : Int)) then
 bif (r51 == (1 : Int)) then
 bif r52 then
 some (r53.Lo == ([1, 128, 0, 0, 0, 0, 0, 0, 5, 1] : List UInt8))
 else
 some false
 else
 some false
 else
 some false
 else
 some false
 else
 some false
 else none
 else
 some false)
 fun y63 =>
 some y63
theorem law20_awake_L : Le (law20_awake_K) (law20_awake) := by
 unfold law20_awake_K law20_awake
 repeat (first|exact pred_Bounds_L _ _|exact pred_Check_L _ _|exact pred_Check_1_L _ _ _ _|exact pred_Eval_L _ _|exact pred_Cols_L _|apply zb|apply zc|apply zl|apply zE|apply zm|exact zr _|intro _)
theorem law20_awake_some : law20_awake = some true := law20_awake_L _ (by kernel_rfl)
end Lv
