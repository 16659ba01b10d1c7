/- The functions once more, with loops of so many rounds: for reckoning the fixed examples. -/
import Derived.Test.YtmkgfooomdagmaaDoorXAll
import Derived.KernelRfl
namespace Lv
open Go Go.Proofs
set_option linter.unusedVariables false
set_option linter.unusedSimpArgs false
set_option linter.unusedSectionVars false
set_option maxRecDepth 100000
set_option maxHeartbeats 4000000
variable [BaseTab]
def Le {α : Type} (a b : Option α) : Prop := ∀ r, a = some r → b = some r
theorem zr {α : Type} (a : Option α) : Le a a := fun _ h => h
theorem zb {α β : Type} {a a' : Option α} {f f' : α → Option β} (h : Le a a') (k : ∀ x, Le (f x) (f' x)) : Le (Option.bind a f) (Option.bind a' f') := by
 intro r hr
 cases ha : a with
 | none => rw [ha] at hr; cases hr
 | some x =>
  rw [ha] at hr
  rw [h x ha]
  exact k x r hr
theorem zc {α : Type} {c : Bool} {a a' b b' : Option α} (h : Le a a') (k : Le b b') : Le (bif c then a else b) (bif c then a' else b') := by
 cases c
 ·exact k
 ·exact h
theorem zm {α β γ : Type} {f f' : α → Option γ} {g g' : β → Option γ} {s : α ⊕ β} (h : ∀ x, Le (f x) (f' x)) (k : ∀ x, Le (g x) (g' x)) : Le (Sum.elim f g s) (Sum.elim f' g' s) := by
 cases s
 ·exact h _
 ·exact k _
theorem zE {Y E R : Type} {p p' : Option (Y ⊕ E)} {k k' : Y → Option R} {e e' : E → Option R} (h : Le p p') (hk : ∀ x, Le (k x) (k' x)) (he : ∀ x, Le (e x) (e' x)) : Le (bindE p k e) (bindE p' k' e') :=
 zb h fun x => zm hk he
def loopF {Y W : Type} (B : Y → Option (Y ⊕ W)) (y : Y) : Option W := loopN B 400 y
theorem zn {Y W : Type} {B B' : Y → Option (Y ⊕ W)} (h : ∀ y, Le (B y) (B' y)) : ∀ n y, Le (loopN B n y) (loopN B' n y)
 | 0, y => fun _ h => by cases h
 | n + 1, y => by
  intro r hr
  simp only [Lv.loopN] at hr ⊢
  cases hb : B y with
  | none => rw [hb] at hr; cases hr
  | some s =>
   rw [hb] at hr
   rw [h y s hb]
   cases s with
   | inl y' => exact zn h n y' r hr
   | inr w => exact hr
theorem zl {Y W : Type} {B B' : Y → Option (Y ⊕ W)} {y : Y} (h : ∀ y, Le (B y) (B' y)) : Le (loopF B y) (loop B' y) := fun r hr => loop_of (zn h _ y r hr)
def upS_ : List (List UInt8) → Bool
 | [] => true
 | a :: l => l.all (fun b => decide (a ≤ b)) && upS_ l
theorem upS_pw : ∀ {l : List (List UInt8)}, upS_ l = true → l.Pairwise (fun x y => decide (x ≤ y) = true)
 | [], _ => .nil
 | a :: l, h => by
  simp only [upS_, Bool.and_eq_true, List.all_eq_true] at h
  exact .cons h.1 (upS_pw h.2)
def sortF_K (l : List (List UInt8)) : Option (List (List UInt8)) := if l.length < 4611686018427387904 ∧ upS_ l = true then some l else none
theorem sortF_L (l : List (List UInt8)) : Le (sortF_K l) (sortF l) := by
 intro r h
 unfold sortF_K at h
 split at h
 ·rename_i hs
  obtain rfl := Option.some.inj h
  unfold sortF
  rw [if_pos hs.1, List.mergeSort_of_pairwise (upS_pw hs.2)]
 ·cases h
noncomputable def value_Name_K (p0 : List UInt8) : Option Bool :=
 Option.bind (α := Bool)
 (bif (p0 == ([] : List UInt8)) then
 some true
 else
 some (decide ((p0.length : Int) > (16 : Int))))
 fun y88 =>
 bif y88 then
 some false
 else
 bindE (Y := Unit) (E := Bool)
 (Option.bind (α := Unit ⊕ Bool)
 (loopF (Y := Int) (W := Unit ⊕ Bool) (fun y116 =>
 bif (decide (y116 < (p0.length : Int))) then
 Option.bind (getI p0 y116) fun v125 =>
 Option.bind (α := Bool)
 (bif (decide ((97 : UInt8) ≤ v125)) then
 some (decide (v125 ≤ (122 : UInt8)))
 else
 some false)
 fun y126 =>
 Option.bind (α := Bool)
 (bif (!y126) then
 bif (y116 == (0 : Int)) then
 some true
 else
 bif (v125 != (95 : UInt8)) then
 bif (decide (v125 < (48 : UInt8))) then
 some true
 else
 some (decide ((57 : UInt8) < v125))
 else
 some false
 else
 some false)
 fun y128 =>
 bif y128 then
 some (Sum.inr (Sum.inr false))
 else
 some (Sum.inl (w64 (y116 + (1 : Int))))
 else
 some (Sum.inr (Sum.inl ()))) (0 : Int))
 (Sum.elim (fun e => some (Sum.inl e)) (fun e => some (Sum.inr e))))
 (fun _ =>
 some true)
 (fun e => some e)
theorem value_Name_L (p0 : List UInt8) : Le (value_Name_K p0) (value_Name p0) := by
 unfold value_Name_K value_Name
 repeat (first|apply zb|apply zc|apply zl|apply zE|apply zm|exact zr _|intro _)
noncomputable def value_Column_K (p0 : ApiColumn) : Option Int :=
 Option.bind (value_Name_K p0.Name) fun r43 =>
 bif (!r43) then
 some (1 : Int)
 else
 Option.bind (α := Bool)
 (bif (decide (p0.Kind < (1 : Int))) then
 some true
 else
 some (decide (p0.Kind > (5 : Int))))
 fun y44 =>
 bif y44 then
 some (8 : Int)
 else
 Option.bind (α := Bool)
 (Option.bind (value_long p0.Kind) fun r55 =>
 bif r55 then
 bif (decide (p0.Max < (1 : Int))) then
 some true
 else
 bif (decide (p0.Max > (64 : Int))) then
 some true
 else
 Option.bind (value_long p0.Kind) fun r57 =>
 bif (!r57) then
 some (p0.Max != (0 : Int))
 else
 some false
 else
 Option.bind (value_long p0.Kind) fun r59 =>
 bif (!r59) then
 some (p0.Max != (0 : Int))
 else
 some false)
 fun y52 =>
 bif y52 then
 some (7 : Int)
 else
 Option.bind (value_Fits p0 p0.Default) fun r61 =>
 some r61
theorem value_Column_L (p0 : ApiColumn) : Le (value_Column_K p0) (value_Column p0) := by
 unfold value_Column_K value_Column
 repeat (first|exact value_Name_L _|apply zb|apply zc|apply zl|apply zE|apply zm|exact zr _|intro _)
noncomputable def schema_columns_K (p0 : List ApiColumn) : Option Int :=
 Option.bind (α := Bool)
 (bif (decide ((p0.length : Int) < (1 : Int))) then
 some true
 else
 some (decide ((p0.length : Int) > (24 : Int))))
 fun y72 =>
 bif y72 then
 some (7 : Int)
 else
 bindE (Y := Unit) (E := Int)
 (Option.bind (α := Unit ⊕ Int)
 (loopF (Y := Int × (List ((List UInt8) × Bool))) (W := Unit ⊕ Int) (fun (y94, y95) =>
 bif (decide (y94 < (p0.length : Int))) then
 Option.bind (getI p0 y94) fun v103 =>
 Option.bind (value_Column_K v103) fun r105 =>
 bif (r105 != (0 : Int)) then
 some (Sum.inr (Sum.inr r105))
 else
 bif (Option.getD (mget y95 v103.Name) false) then
 some (Sum.inr (Sum.inr (6 : Int)))
 else
 some (Sum.inl ((w64 (y94 + (1 : Int))), (mset y95 v103.Name true)))
 else
 some (Sum.inr (Sum.inl ()))) ((0 : Int), ([] : List ((List UInt8) × Bool))))
 (Sum.elim (fun e => some (Sum.inl e)) (fun e => some (Sum.inr e))))
 (fun _ =>
 some (0 : Int))
 (fun e => some e)
theorem schema_columns_L (p0 : List ApiColumn) : Le (schema_columns_K p0) (schema_columns p0) := by
 unfold schema_columns_K schema_columns
 repeat (first|exact value_Column_L _|apply zb|apply zc|apply zl|apply zE|apply zm|exact zr _|intro _)
noncomputable def schema_places_K (p0 : Int) (p1 : List Int) : Option Bool :=
 bindE (Y := Unit) (E := Bool)
 (Option.bind (α := Unit ⊕ Bool)
 (loopF (Y := Int × (List (Int × Bool))) (W := Unit ⊕ Bool) (fun (y88, y89) =>
 bif (decide (y88 < (p1.length : Int))) then
 Option.bind (getI p1 y88) fun v97 =>
 Option.bind (α := Bool)
 (bif (decide (v97 < (0 : Int))) then
 some true
 else
 bif (decide (v97 ≥ p0)) then
 some true
 else
 some (Option.getD (mget y89 v97) false))
 fun y98 =>
 bif y98 then
 some (Sum.inr (Sum.inr false))
 else
 some (Sum.inl ((w64 (y88 + (1 : Int))), (mset y89 v97 true)))
 else
 some (Sum.inr (Sum.inl ()))) ((0 : Int), ([] : List (Int × Bool))))
 (Sum.elim (fun e => some (Sum.inl e)) (fun e => some (Sum.inr e))))
 (fun _ =>
 some true)
 (fun e => some e)
theorem schema_places_L (p0 : Int) (p1 : List Int) : Le (schema_places_K p0 p1) (schema_places p0 p1) := by
 unfold schema_places_K schema_places
 repeat (first|apply zb|apply zc|apply zl|apply zE|apply zm|exact zr _|intro _)
noncomputable def slices_IndexFunc_int_int_1_K (p0 : List Int) (p1 : ApiTable) : Option Int :=
 bindE (Y := Unit) (E := Int)
 (Option.bind (α := Unit ⊕ Int)
 (loopF (Y := Int) (W := Unit ⊕ Int) (fun y78 =>
 bif (decide (y78 < (p0.length : Int))) then
 Option.bind (getI p0 y78) fun v85 =>
 Option.bind (schema_Check_1 v85 p1) fun r87 =>
 bif r87 then
 some (Sum.inr (Sum.inr y78))
 else
 some (Sum.inl (w64 (y78 + (1 : Int))))
 else
 some (Sum.inr (Sum.inl ()))) (0 : Int))
 (Sum.elim (fun e => some (Sum.inl e)) (fun e => some (Sum.inr e))))
 (fun _ =>
 some (-1 : Int))
 (fun e => some e)
theorem slices_IndexFunc_int_int_1_L (p0 : List Int) (p1 : ApiTable) : Le (slices_IndexFunc_int_int_1_K p0 p1) (slices_IndexFunc_int_int_1 p0 p1) := by
 unfold slices_IndexFunc_int_int_1_K slices_IndexFunc_int_int_1
 repeat (first|apply zb|apply zc|apply zl|apply zE|apply zm|exact zr _|intro _)
noncomputable def slices_ContainsFunc_int_int_1_K (p0 : List Int) (p1 : ApiTable) : Option Bool :=
 Option.bind (slices_IndexFunc_int_int_1_K p0 p1) fun r7 =>
 some (decide (r7 ≥ (0 : Int)))
theorem slices_ContainsFunc_int_int_1_L (p0 : List Int) (p1 : ApiTable) : Le (slices_ContainsFunc_int_int_1_K p0 p1) (slices_ContainsFunc_int_int_1 p0 p1) := by
 unfold slices_ContainsFunc_int_int_1_K slices_ContainsFunc_int_int_1
 repeat (first|exact slices_IndexFunc_int_int_1_L _ _|apply zb|apply zc|apply zl|apply zE|apply zm|exact zr _|intro _)
noncomputable def schema_RowMax_K (p0 : List ApiColumn) : Option Int :=
 Option.bind (α := Int)
 (Option.bind (α := Int)
 (loopF (Y := Int × Int) (W := Int) (fun (y91, y92) =>
 bif (decide (y92 < (p0.length : Int))) then
 Option.bind (getI p0 y92) fun v100 =>
 Option.bind (schema_wide v100 (1 : Int)) fun r102 =>
 some (Sum.inl ((w64 (y91 + r102)), (w64 (y92 + (1 : Int)))))
 else
 some (Sum.inr y91)) ((1 : Int), (0 : Int)))
 (fun e => some e))
 fun y86 =>
 some y86
theorem schema_RowMax_L (p0 : List ApiColumn) : Le (schema_RowMax_K p0) (schema_RowMax p0) := by
 unfold schema_RowMax_K schema_RowMax
 repeat (first|apply zb|apply zc|apply zl|apply zE|apply zm|exact zr _|intro _)
noncomputable def schema_up_K (p0 : List Int) : Option ((List ApiPart)) :=
 Option.bind (α := (List ApiPart))
 (Option.bind (α := (List ApiPart))
 (loopF (Y := (List ApiPart) × Int) (W := (List ApiPart)) (fun (y75, y76) =>
 bif (decide (y76 < (p0.length : Int))) then
 Option.bind (getI p0 y76) fun v83 =>
 bif decide ((y75.length + [(ApiPart.mk v83 false)].length) * 16 ≤ room) then
 some (Sum.inl ((y75 ++ [(ApiPart.mk v83 false)]), (w64 (y76 + (1 : Int)))))
 else none
 else
 some (Sum.inr y75)) (([] : List ApiPart), (0 : Int)))
 (fun e => some e))
 fun y71 =>
 some y71
theorem schema_up_L (p0 : List Int) : Le (schema_up_K p0) (schema_up p0) := by
 unfold schema_up_K schema_up
 repeat (first|apply zb|apply zc|apply zl|apply zE|apply zm|exact zr _|intro _)
noncomputable def schema_KeyMax_K (p0 : List ApiColumn) (p1 : List ApiPart) : Option Int :=
 Option.bind (α := Int)
 (Option.bind (α := Int)
 (loopF (Y := Int × Int) (W := Int) (fun (y107, y108) =>
 bif (decide (y108 < (p1.length : Int))) then
 Option.bind (getI p1 y108) fun v117 =>
 Option.bind (getI p0 v117.Col) fun v118 =>
 Option.bind (schema_wide v118 (2 : Int)) fun r120 =>
 some (Sum.inl ((w64 (y107 + r120)), (w64 (y108 + (1 : Int)))))
 else
 some (Sum.inr y107)) ((0 : Int), (0 : Int)))
 (fun e => some e))
 fun y101 =>
 some y101
theorem schema_KeyMax_L (p0 : List ApiColumn) (p1 : List ApiPart) : Le (schema_KeyMax_K p0 p1) (schema_KeyMax p0 p1) := by
 unfold schema_KeyMax_K schema_KeyMax
 repeat (first|apply zb|apply zc|apply zl|apply zE|apply zm|exact zr _|intro _)
noncomputable def schema_cols_K (p0 : List ApiPart) : Option ((List Int)) :=
 Option.bind (α := (List Int))
 (Option.bind (α := (List Int))
 (loopF (Y := (List Int) × Int) (W := (List Int)) (fun (y75, y76) =>
 bif (decide (y76 < (p0.length : Int))) then
 Option.bind (getI p0 y76) fun v83 =>
 bif decide ((y75.length + [v83.Col].length) * 8 ≤ room) then
 some (Sum.inl ((y75 ++ [v83.Col]), (w64 (y76 + (1 : Int)))))
 else none
 else
 some (Sum.inr y75)) (([] : List Int), (0 : Int)))
 (fun e => some e))
 fun y71 =>
 some y71
theorem schema_cols_L (p0 : List ApiPart) : Le (schema_cols_K p0) (schema_cols p0) := by
 unfold schema_cols_K schema_cols
 repeat (first|apply zb|apply zc|apply zl|apply zE|apply zm|exact zr _|intro _)
noncomputable def slices_Index_int_int_K (p0 : List Int) (p1 : Int) : Option Int :=
 bindE (Y := Unit) (E := Int)
 (Option.bind (α := Unit ⊕ Int)
 (loopF (Y := Int) (W := Unit ⊕ Int) (fun y46 =>
 bif (decide (y46 < (p0.length : Int))) then
 Option.bind (getI p0 y46) fun v51 =>
 bif (p1 == v51) then
 some (Sum.inr (Sum.inr y46))
 else
 some (Sum.inl (w64 (y46 + (1 : Int))))
 else
 some (Sum.inr (Sum.inl ()))) (0 : Int))
 (Sum.elim (fun e => some (Sum.inl e)) (fun e => some (Sum.inr e))))
 (fun _ =>
 some (-1 : Int))
 (fun e => some e)
theorem slices_Index_int_int_L (p0 : List Int) (p1 : Int) : Le (slices_Index_int_int_K p0 p1) (slices_Index_int_int p0 p1) := by
 unfold slices_Index_int_int_K slices_Index_int_int
 repeat (first|apply zb|apply zc|apply zl|apply zE|apply zm|exact zr _|intro _)
noncomputable def slices_Contains_int_int_K (p0 : List Int) (p1 : Int) : Option Bool :=
 Option.bind (slices_Index_int_int_K p0 p1) fun r7 =>
 some (decide (r7 ≥ (0 : Int)))
theorem slices_Contains_int_int_L (p0 : List Int) (p1 : Int) : Le (slices_Contains_int_int_K p0 p1) (slices_Contains_int_int p0 p1) := by
 unfold slices_Contains_int_int_K slices_Contains_int_int
 repeat (first|exact slices_Index_int_int_L _ _|apply zb|apply zc|apply zl|apply zE|apply zm|exact zr _|intro _)
noncomputable def schema_index_1_K (p0 : Int) (p1 : List Int) (p2 : ApiTable) : Option Bool :=
 Option.bind (α := Bool)
 (Option.bind (slices_Contains_int_int_K p1 p0) fun r29 =>
 bif r29 then
 some true
 else
 Option.bind (slices_Contains_int_int_K p2.Primary p0) fun r31 =>
 some r31)
 fun y26 =>
 some y26
theorem schema_index_1_L (p0 : Int) (p1 : List Int) (p2 : ApiTable) : Le (schema_index_1_K p0 p1 p2) (schema_index_1 p0 p1 p2) := by
 unfold schema_index_1_K schema_index_1
 repeat (first|exact slices_Contains_int_int_L _ _|apply zb|apply zc|apply zl|apply zE|apply zm|exact zr _|intro _)
noncomputable def slices_IndexFunc_int_int_2_K (p0 : List Int) (p1 : List Int) (p2 : ApiTable) : Option Int :=
 bindE (Y := Unit) (E := Int)
 (Option.bind (α := Unit ⊕ Int)
 (loopF (Y := Int) (W := Unit ⊕ Int) (fun y78 =>
 bif (decide (y78 < (p0.length : Int))) then
 Option.bind (getI p0 y78) fun v85 =>
 Option.bind (schema_index_1_K v85 p1 p2) fun r87 =>
 bif r87 then
 some (Sum.inr (Sum.inr y78))
 else
 some (Sum.inl (w64 (y78 + (1 : Int))))
 else
 some (Sum.inr (Sum.inl ()))) (0 : Int))
 (Sum.elim (fun e => some (Sum.inl e)) (fun e => some (Sum.inr e))))
 (fun _ =>
 some (-1 : Int))
 (fun e => some e)
theorem slices_IndexFunc_int_int_2_L (p0 : List Int) (p1 : List Int) (p2 : ApiTable) : Le (slices_IndexFunc_int_int_2_K p0 p1 p2) (slices_IndexFunc_int_int_2 p0 p1 p2) := by
 unfold slices_IndexFunc_int_int_2_K slices_IndexFunc_int_int_2
 repeat (first|exact schema_index_1_L _ _ _|apply zb|apply zc|apply zl|apply zE|apply zm|exact zr _|intro _)
noncomputable def slices_ContainsFunc_int_int_2_K (p0 : List Int) (p1 : List Int) (p2 : ApiTable) : Option Bool :=
 Option.bind (slices_IndexFunc_int_int_2_K p0 p1 p2) fun r7 =>
 some (decide (r7 ≥ (0 : Int)))
theorem slices_ContainsFunc_int_int_2_L (p0 : List Int) (p1 : List Int) (p2 : ApiTable) : Le (slices_ContainsFunc_int_int_2_K p0 p1 p2) (slices_ContainsFunc_int_int_2 p0 p1 p2) := by
 unfold slices_ContainsFunc_int_int_2_K slices_ContainsFunc_int_int_2
 repeat (first|exact slices_IndexFunc_int_int_2_L _ _ _|apply zb|apply zc|apply zl|apply zE|apply zm|exact zr _|intro _)
noncomputable def schema_index_K (p0 : ApiTable) (p1 : ApiIndex) : Option Int :=
 Option.bind (schema_cols_K p1.Parts) fun r35 =>
 Option.bind (slices_ContainsFunc_int_int_2_K p1.Extra r35 p0) fun r37 =>
 Option.bind (α := Bool)
 (bif (decide ((r35.length : Int) < (1 : Int))) then
 some true
 else
 bif (decide ((r35.length : Int) > (4 : Int))) then
 some true
 else
 Option.bind (schema_places_K (p0.Cols.length : Int) r35) fun r45 =>
 bif (!r45) then
 some true
 else
 Option.bind (schema_places_K (p0.Cols.length : Int) p1.Extra) fun r47 =>
 bif (!r47) then
 some true
 else
 some r37)
 fun y42 =>
 bif y42 then
 some (1 : Int)
 else
 Option.bind (schema_KeyMax_K p0.Cols p1.Parts) fun r49 =>
 bif (decide (r49 > (128 : Int))) then
 some (7 : Int)
 else
 some (0 : Int)
theorem schema_index_L (p0 : ApiTable) (p1 : ApiIndex) : Le (schema_index_K p0 p1) (schema_index p0 p1) := by
 unfold schema_index_K schema_index
 repeat (first|exact schema_places_L _ _|exact schema_KeyMax_L _ _|exact schema_cols_L _|exact slices_ContainsFunc_int_int_2_L _ _ _|apply zb|apply zc|apply zl|apply zE|apply zm|exact zr _|intro _)
noncomputable def schema_Check_K (p0 : ApiTable) : Option Int :=
 Option.bind (value_Name_K p0.Name) fun r145 =>
 bif (!r145) then
 some (1 : Int)
 else
 Option.bind (schema_columns_K p0.Cols) fun r147 =>
 bif (r147 != (0 : Int)) then
 some r147
 else
 Option.bind (α := Bool)
 (bif (decide ((p0.Primary.length : Int) < (1 : Int))) then
 some true
 else
 bif (decide ((p0.Primary.length : Int) > (4 : Int))) then
 some true
 else
 Option.bind (schema_places_K (p0.Cols.length : Int) p0.Primary) fun r153 =>
 some (!r153))
 fun y150 =>
 bif y150 then
 some (1 : Int)
 else
 Option.bind (slices_ContainsFunc_int_int_1_K p0.Primary p0) fun r155 =>
 bif r155 then
 some (1 : Int)
 else
 Option.bind (α := Bool)
 (Option.bind (schema_RowMax_K p0.Cols) fun r165 =>
 bif (decide (r165 > (512 : Int))) then
 some true
 else
 Option.bind (schema_up_K p0.Primary) fun r167 =>
 Option.bind (schema_KeyMax_K p0.Cols r167) fun r169 =>
 bif (decide (r169 > (128 : Int))) then
 some true
 else
 some (decide ((p0.Indexes.length : Int) > (6 : Int))))
 fun y162 =>
 bif y162 then
 some (7 : Int)
 else
 bindE (Y := Unit) (E := Int)
 (Option.bind (α := Unit ⊕ Int)
 (loopF (Y := Int × (List ((List UInt8) × Bool))) (W := Unit ⊕ Int) (fun (y198, y199) =>
 bif (decide (y198 < (p0.Indexes.length : Int))) then
 Option.bind (getI p0.Indexes y198) fun v209 =>
 Option.bind (value_Name_K v209.Name) fun r211 =>
 bif (!r211) then
 some (Sum.inr (Sum.inr (1 : Int)))
 else
 bif (Option.getD (mget y199 v209.Name) false) then
 some (Sum.inr (Sum.inr (6 : Int)))
 else
 Option.bind (schema_index_K p0 v209) fun r213 =>
 bif (r213 != (0 : Int)) then
 some (Sum.inr (Sum.inr r213))
 else
 some (Sum.inl ((w64 (y198 + (1 : Int))), (mset y199 v209.Name true)))
 else
 some (Sum.inr (Sum.inl ()))) ((0 : Int), ([] : List ((List UInt8) × Bool))))
 (Sum.elim (fun e => some (Sum.inl e)) (fun e => some (Sum.inr e))))
 (fun _ =>
 some (0 : Int))
 (fun e => some e)
theorem schema_Check_L (p0 : ApiTable) : Le (schema_Check_K p0) (schema_Check p0) := by
 unfold schema_Check_K schema_Check
 repeat (first|exact value_Name_L _|exact schema_columns_L _|exact schema_places_L _ _|exact slices_ContainsFunc_int_int_1_L _ _|exact schema_RowMax_L _|exact schema_up_L _|exact schema_KeyMax_L _ _|exact schema_index_L _ _|apply zb|apply zc|apply zl|apply zE|apply zm|exact zr _|intro _)
noncomputable def slices_IndexFunc_api_Index_api_Index_2_K (p0 : List ApiIndex) : Option Int :=
 bindE (Y := Unit) (E := Int)
 (Option.bind (α := Unit ⊕ Int)
 (loopF (Y := Int) (W := Unit ⊕ Int) (fun y78 =>
 bif (decide (y78 < (p0.length : Int))) then
 Option.bind (getI p0 y78) fun v85 =>
 Option.bind (catalog_right_2 v85) fun r87 =>
 bif r87 then
 some (Sum.inr (Sum.inr y78))
 else
 some (Sum.inl (w64 (y78 + (1 : Int))))
 else
 some (Sum.inr (Sum.inl ()))) (0 : Int))
 (Sum.elim (fun e => some (Sum.inl e)) (fun e => some (Sum.inr e))))
 (fun _ =>
 some (-1 : Int))
 (fun e => some e)
theorem slices_IndexFunc_api_Index_api_Index_2_L (p0 : List ApiIndex) : Le (slices_IndexFunc_api_Index_api_Index_2_K p0) (slices_IndexFunc_api_Index_api_Index_2 p0) := by
 unfold slices_IndexFunc_api_Index_api_Index_2_K slices_IndexFunc_api_Index_api_Index_2
 repeat (first|apply zb|apply zc|apply zl|apply zE|apply zm|exact zr _|intro _)
noncomputable def slices_ContainsFunc_api_Index_api_Index_1_K (p0 : List ApiIndex) : Option Bool :=
 Option.bind (slices_IndexFunc_api_Index_api_Index_2_K p0) fun r7 =>
 some (decide (r7 ≥ (0 : Int)))
theorem slices_ContainsFunc_api_Index_api_Index_1_L (p0 : List ApiIndex) : Le (slices_ContainsFunc_api_Index_api_Index_1_K p0) (slices_ContainsFunc_api_Index_api_Index_1 p0) := by
 unfold slices_ContainsFunc_api_Index_api_Index_1_K slices_ContainsFunc_api_Index_api_Index_1
 repeat (first|exact slices_IndexFunc_api_Index_api_Index_2_L _|apply zb|apply zc|apply zl|apply zE|apply zm|exact zr _|intro _)
noncomputable def catalog_right_K (p0 : ApiTable) : Option Bool :=
 Option.bind (α := Bool)
 (Option.bind (schema_Check_K p0) fun r39 =>
 bif (r39 == (0 : Int)) then
 Option.bind (catalog_right_1 p0.Tree) fun r41 =>
 bif r41 then
 Option.bind (slices_ContainsFunc_api_Index_api_Index_1_K p0.Indexes) fun r43 =>
 some (!r43)
 else
 some false
 else
 some false)
 fun y36 =>
 some y36
theorem catalog_right_L (p0 : ApiTable) : Le (catalog_right_K p0) (catalog_right p0) := by
 unfold catalog_right_K catalog_right
 repeat (first|exact schema_Check_L _|exact slices_ContainsFunc_api_Index_api_Index_1_L _|apply zb|apply zc|apply zl|apply zE|apply zm|exact zr _|intro _)
noncomputable def catalog_places_K (p0 : List Int) (p1 : List UInt8) : Option ((List UInt8)) :=
 Option.bind (pack_Out_U8 (u8i (p0.length : Int)) p1) fun _ =>
 Option.bind (α := (List UInt8))
 (loopF (Y := Int × (List UInt8)) (W := (List UInt8)) (fun (y33, y34) =>
 bif (decide (y33 < (p0.length : Int))) then
 Option.bind (getI p0 y33) fun v41 =>
 Option.bind (pack_Out_U8 (u8i v41) y34) fun _ =>
 some (Sum.inl ((w64 (y33 + (1 : Int))), (y34 ++ [(u8i v41)])))
 else
 some (Sum.inr y34)) ((0 : Int), (p1 ++ [(u8i (p0.length : Int))])))
 (fun e => some e)
theorem catalog_places_L (p0 : List Int) (p1 : List UInt8) : Le (catalog_places_K p0 p1) (catalog_places p0 p1) := by
 unfold catalog_places_K catalog_places
 repeat (first|apply zb|apply zc|apply zl|apply zE|apply zm|exact zr _|intro _)
noncomputable def catalog_putIndex_K (p0 : ApiIndex) : Option ((List UInt8)) :=
 Option.bind (pack_Out_Text_1 p0.Name) fun (r107, r108) =>
 Option.bind (pack_Out_U8 (u8i (p0.Parts.length : Int)) r108) fun _ =>
 Option.bind (α := (List UInt8))
 (Option.bind (α := (List UInt8))
 (loopF (Y := Int × (List UInt8)) (W := (List UInt8)) (fun (y135, y136) =>
 bif (decide (y135 < (p0.Parts.length : Int))) then
 Option.bind (getI p0.Parts y135) fun v145 =>
 Option.bind (pack_Out_U8 (u8i v145.Col) y136) fun _ =>
 Option.bind (pack_Out_Flag_1 v145.Down (y136 ++ [(u8i v145.Col)])) fun r148 =>
 some (Sum.inl ((w64 (y135 + (1 : Int))), r148))
 else
 some (Sum.inr y136)) ((0 : Int), (r108 ++ [(u8i (p0.Parts.length : Int))])))
 (fun e => some e))
 fun y129 =>
 Option.bind (catalog_places_K p0.Extra y129) fun r151 =>
 Option.bind (pack_Out_Flag_1 p0.Unique r151) fun r153 =>
 Option.bind (pack_Out_Flag_1 p0.Ready r153) fun r155 =>
 Option.bind (pack_Out_U16 (u16i p0.Tree) r155) fun _ =>
 Option.bind (pack_Out_Bytes (r155 ++ [((shr16 (u16i p0.Tree) 8).toUInt8), ((u16i p0.Tree).toUInt8)])) fun _ =>
 some (r155 ++ [((shr16 (u16i p0.Tree) 8).toUInt8), ((u16i p0.Tree).toUInt8)])
theorem catalog_putIndex_L (p0 : ApiIndex) : Le (catalog_putIndex_K p0) (catalog_putIndex p0) := by
 unfold catalog_putIndex_K catalog_putIndex
 repeat (first|exact catalog_places_L _ _|apply zb|apply zc|apply zl|apply zE|apply zm|exact zr _|intro _)
noncomputable def catalog_Pairs_K (p0 : ApiTable) : Option ((List ApiPair) × Int) :=
 Option.bind (catalog_right_K p0) fun r206 =>
 bif (!r206) then
 some (([] : List ApiPair), (1 : Int))
 else
 Option.bind (pack_Out_U16_1 (u16i p0.Tree)) fun _ =>
 Option.bind (pack_Out_U8 (u8i (p0.Cols.length : Int)) [((shr16 (u16i p0.Tree) 8).toUInt8), ((u16i p0.Tree).toUInt8)]) fun _ =>
 Option.bind (catalog_places_K p0.Primary ([((shr16 (u16i p0.Tree) 8).toUInt8), ((u16i p0.Tree).toUInt8)] ++ [(u8i (p0.Cols.length : Int))])) fun r210 =>
 Option.bind (pack_Out_U8 (u8i (p0.Indexes.length : Int)) r210) fun _ =>
 bif decide (([116] : List UInt8).length + p0.Name.length ≤ 9223372036854775807) then
 Option.bind (pack_Out_Bytes (r210 ++ [(u8i (p0.Indexes.length : Int))])) fun _ =>
 Option.bind (α := (List ApiPair))
 (Option.bind (α := (List ApiPair))
 (loopF (Y := (List ApiPair) × Int) (W := (List ApiPair)) (fun (y243, y244) =>
 bif (decide (y244 < (p0.Cols.length : Int))) then
 Option.bind (getI p0.Cols y244) fun v254 =>
 Option.bind (catalog_sub p0.Name (99 : UInt8) y244) fun _ =>
 Option.bind (catalog_putColumn v254) fun r257 =>
 bif decide ((y243.length + [(ApiPair.mk ((([116] : List UInt8) ++ p0.Name) ++ [(0 : UInt8), (99 : UInt8), (u8i y244)]) r257)].length) * 32 ≤ room) then
 some (Sum.inl ((y243 ++ [(ApiPair.mk ((([116] : List UInt8) ++ p0.Name) ++ [(0 : UInt8), (99 : UInt8), (u8i y244)]) r257)]), (w64 (y244 + (1 : Int)))))
 else none
 else
 some (Sum.inr y243)) ([(ApiPair.mk (([116] : List UInt8) ++ p0.Name) (r210 ++ [(u8i (p0.Indexes.length : Int))]))], (0 : Int)))
 (fun e => some e))
 fun y236 =>
 Option.bind (α := (List ApiPair))
 (Option.bind (α := (List ApiPair))
 (loopF (Y := (List ApiPair) × Int) (W := (List ApiPair)) (fun (y289, y290) =>
 bif (decide (y290 < (p0.Indexes.length : Int))) then
 Option.bind (getI p0.Indexes y290) fun v300 =>
 Option.bind (catalog_sub p0.Name (105 : UInt8) y290) fun _ =>
 Option.bind (catalog_putIndex_K v300) fun r303 =>
 bif decide ((y289.length + [(ApiPair.mk ((([116] : List UInt8) ++ p0.Name) ++ [(0 : UInt8), (105 : UInt8), (u8i y290)]) r303)].length) * 32 ≤ room) then
 some (Sum.inl ((y289 ++ [(ApiPair.mk ((([116] : List UInt8) ++ p0.Name) ++ [(0 : UInt8), (105 : UInt8), (u8i y290)]) r303)]), (w64 (y290 + (1 : Int)))))
 else none
 else
 some (Sum.inr y289)) (y236, (0 : Int)))
 (fun e => some e))
 fun y282 =>
 some (y282, (0 : Int))
 else none
theorem catalog_Pairs_L (p0 : ApiTable) : Le (catalog_Pairs_K p0) (catalog_Pairs p0) := by
 unfold catalog_Pairs_K catalog_Pairs
 repeat (first|exact catalog_right_L _|exact catalog_places_L _ _|exact catalog_putIndex_L _|apply zb|apply zc|apply zl|apply zE|apply zm|exact zr _|intro _)
noncomputable def pack_In_number_2_K (p0 : Int) : Option Unit :=
 Option.bind (α := Unit)
 (Option.bind (pack_In_take_2 p0) fun _ =>
 Option.bind (α := Unit)
 (loopF (Y := Unit) (W := Unit) (fun _ =>
 some (Sum.inr ())) ())
 (fun e => some e))
 fun _ =>
 some ()
theorem pack_In_number_2_L (p0 : Int) : Le (pack_In_number_2_K p0) (pack_In_number_2 p0) := by
 unfold pack_In_number_2_K pack_In_number_2
 repeat (first|apply zb|apply zc|apply zl|apply zE|apply zm|exact zr _|intro _)
noncomputable def pack_In_U16_K : Option Unit :=
 Option.bind (pack_In_number_2_K (2 : Int)) fun _ =>
 some ()
theorem pack_In_U16_L : Le (pack_In_U16_K) (pack_In_U16) := by
 unfold pack_In_U16_K pack_In_U16
 repeat (first|exact pack_In_number_2_L _|apply zb|apply zc|apply zl|apply zE|apply zm|exact zr _|intro _)
noncomputable def pack_In_U8_2_K : Option Unit :=
 Option.bind (pack_In_number_2_K (1 : Int)) fun _ =>
 some ()
theorem pack_In_U8_2_L : Le (pack_In_U8_2_K) (pack_In_U8_2) := by
 unfold pack_In_U8_2_K pack_In_U8_2
 repeat (first|exact pack_In_number_2_L _|apply zb|apply zc|apply zl|apply zE|apply zm|exact zr _|intro _)
noncomputable def catalog_taker_place_K : Option Unit :=
 Option.bind pack_In_U8_2_K fun _ =>
 some ()
theorem catalog_taker_place_L : Le (catalog_taker_place_K) (catalog_taker_place) := by
 unfold catalog_taker_place_K catalog_taker_place
 repeat (first|exact pack_In_U8_2_L|apply zb|apply zc|apply zl|apply zE|apply zm|exact zr _|intro _)
noncomputable def catalog_list_int_K (p0 : Int) : Option Unit :=
 Option.bind (α := Unit)
 (Option.bind (α := Unit)
 (loopF (Y := Unit) (W := Unit) (fun _ =>
 Option.bind (α := Unit)
 (bif (decide ((0 : Int) < p0)) then
 Option.bind pack_In_Bad_1 fun _ =>
 some ()
 else
 some ())
 fun _ =>
 some (Sum.inr ())) ())
 (fun e => some e))
 fun _ =>
 some ()
theorem catalog_list_int_L (p0 : Int) : Le (catalog_list_int_K p0) (catalog_list_int p0) := by
 unfold catalog_list_int_K catalog_list_int
 repeat (first|apply zb|apply zc|apply zl|apply zE|apply zm|exact zr _|intro _)
noncomputable def catalog_taker_places_K : Option Unit :=
 Option.bind catalog_taker_place_K fun _ =>
 Option.bind (catalog_list_int_K (((0 : UInt64).toUInt8).toNat : Int)) fun _ =>
 some ()
theorem catalog_taker_places_L : Le (catalog_taker_places_K) (catalog_taker_places) := by
 unfold catalog_taker_places_K catalog_taker_places
 repeat (first|exact catalog_taker_place_L|exact catalog_list_int_L _|apply zb|apply zc|apply zl|apply zE|apply zm|exact zr _|intro _)
noncomputable def pack_In_number_K (p0 : Int) (p1 : List UInt8) (p2 : Bool) : Option (UInt64 × Nat × Nat × Bool) :=
 Option.bind (α := UInt64 × Nat × Nat × Bool)
 (Option.bind (pack_In_take p0 p1 p2) fun (r96, r97, r98, r99) =>
 Option.bind (α := UInt64 × Nat × Nat × Bool)
 (loopF (Y := UInt64 × Int) (W := UInt64 × Nat × Nat × Bool) (fun (y101, y102) =>
 bif (decide (y102 < (r96 : Int))) then
 Option.bind (getS p1 0 r96 y102) fun v108 =>
 some (Sum.inl (((shl64 y101 8) ||| (v108.toUInt64)), (w64 (y102 + (1 : Int)))))
 else
 some (Sum.inr (y101, r97, r98, r99))) ((0 : UInt64), (0 : Int)))
 (fun e => some e))
 fun (y90, y91, y92, y93) =>
 some (y90, y91, y92, y93)
theorem pack_In_number_L (p0 : Int) (p1 : List UInt8) (p2 : Bool) : Le (pack_In_number_K p0 p1 p2) (pack_In_number p0 p1 p2) := by
 unfold pack_In_number_K pack_In_number
 repeat (first|apply zb|apply zc|apply zl|apply zE|apply zm|exact zr _|intro _)
noncomputable def pack_In_U16_1_K (p0 : List UInt8) (p1 : Bool) : Option (UInt16 × Nat × Nat × Bool) :=
 Option.bind (pack_In_number_K (2 : Int) p0 p1) fun (r16, r17, r18, r19) =>
 some ((r16.toUInt16), r17, r18, r19)
theorem pack_In_U16_1_L (p0 : List UInt8) (p1 : Bool) : Le (pack_In_U16_1_K p0 p1) (pack_In_U16_1 p0 p1) := by
 unfold pack_In_U16_1_K pack_In_U16_1
 repeat (first|exact pack_In_number_L _ _ _|apply zb|apply zc|apply zl|apply zE|apply zm|exact zr _|intro _)
noncomputable def pack_In_number_1_K (p0 : Int) (p1 : List UInt8) (p2 : Nat) (p3 : Nat) (p4 : Bool) : Option (UInt64 × Nat × Nat × Bool) :=
 Option.bind (α := UInt64 × Nat × Nat × Bool)
 (Option.bind (pack_In_take_1 p0 p1 p2 p3 p4) fun (r101, r102, r103, r104, r105) =>
 Option.bind (α := UInt64 × Nat × Nat × Bool)
 (loopF (Y := UInt64 × Int) (W := UInt64 × Nat × Nat × Bool) (fun (y107, y108) =>
 bif (decide (y108 < (r102 : Int))) then
 Option.bind (getS p1 r101 r102 y108) fun v114 =>
 some (Sum.inl (((shl64 y107 8) ||| (v114.toUInt64)), (w64 (y108 + (1 : Int)))))
 else
 some (Sum.inr (y107, r103, r104, r105))) ((0 : UInt64), (0 : Int)))
 (fun e => some e))
 fun (y95, y96, y97, y98) =>
 some (y95, y96, y97, y98)
theorem pack_In_number_1_L (p0 : Int) (p1 : List UInt8) (p2 : Nat) (p3 : Nat) (p4 : Bool) : Le (pack_In_number_1_K p0 p1 p2 p3 p4) (pack_In_number_1 p0 p1 p2 p3 p4) := by
 unfold pack_In_number_1_K pack_In_number_1
 repeat (first|apply zb|apply zc|apply zl|apply zE|apply zm|exact zr _|intro _)
noncomputable def pack_In_U8_K (p0 : List UInt8) (p1 : Nat) (p2 : Nat) (p3 : Bool) : Option (UInt8 × Nat × Nat × Bool) :=
 Option.bind (pack_In_number_1_K (1 : Int) p0 p1 p2 p3) fun (r16, r17, r18, r19) =>
 some ((r16.toUInt8), r17, r18, r19)
theorem pack_In_U8_L (p0 : List UInt8) (p1 : Nat) (p2 : Nat) (p3 : Bool) : Le (pack_In_U8_K p0 p1 p2 p3) (pack_In_U8 p0 p1 p2 p3) := by
 unfold pack_In_U8_K pack_In_U8
 repeat (first|exact pack_In_number_1_L _ _ _ _ _|apply zb|apply zc|apply zl|apply zE|apply zm|exact zr _|intro _)
noncomputable def catalog_taker_place_1_K (p0 : List UInt8) (p1 : Nat) (p2 : Nat) (p3 : Bool) : Option (Int × Nat × Nat × Bool) :=
 Option.bind (pack_In_U8_K p0 p1 p2 p3) fun (r16, r17, r18, r19) =>
 some ((r16.toNat : Int), r17, r18, r19)
theorem catalog_taker_place_1_L (p0 : List UInt8) (p1 : Nat) (p2 : Nat) (p3 : Bool) : Le (catalog_taker_place_1_K p0 p1 p2 p3) (catalog_taker_place_1 p0 p1 p2 p3) := by
 unfold catalog_taker_place_1_K catalog_taker_place_1
 repeat (first|exact pack_In_U8_L _ _ _ _|apply zb|apply zc|apply zl|apply zE|apply zm|exact zr _|intro _)
noncomputable def catalog_list_int_1_K (p0 : Int) (p1 : List UInt8) (p2 : Nat) (p3 : Nat) (p4 : Bool) : Option ((List Int) × Nat × Nat × Bool) :=
 Option.bind (α := (List Int) × Nat × Nat × Bool)
 (Option.bind (α := (List Int) × Nat × Nat × Bool)
 (loopF (Y := (List Int) × Int × Nat × Nat × Bool) (W := (List Int) × Nat × Nat × Bool) (fun (y245, y246, y247, y248, y249) =>
 Option.bind (α := Bool)
 (bif (decide (y246 < p0)) then
 Option.bind (pack_In_Bad p1 y247 y248 y249) fun _ =>
 some (!y249)
 else
 some false)
 fun y268 =>
 bif y268 then
 Option.bind (catalog_taker_place_1_K p1 y247 y248 y249) fun (r272, r273, r274, r275) =>
 bif decide ((y245.length + [r272].length) * 8 ≤ room) then
 some (Sum.inl ((y245 ++ [r272]), (w64 (y246 + (1 : Int))), r273, r274, r275))
 else none
 else
 some (Sum.inr (y245, y247, y248, y249))) (([] : List Int), (0 : Int), p2, p3, p4))
 (fun e => some e))
 fun (y230, y231, y232, y233) =>
 some (y230, y231, y232, y233)
theorem catalog_list_int_1_L (p0 : Int) (p1 : List UInt8) (p2 : Nat) (p3 : Nat) (p4 : Bool) : Le (catalog_list_int_1_K p0 p1 p2 p3 p4) (catalog_list_int_1 p0 p1 p2 p3 p4) := by
 unfold catalog_list_int_1_K catalog_list_int_1
 repeat (first|exact catalog_taker_place_1_L _ _ _ _|apply zb|apply zc|apply zl|apply zE|apply zm|exact zr _|intro _)
noncomputable def catalog_taker_places_1_K (p0 : List UInt8) (p1 : Nat) (p2 : Nat) (p3 : Bool) : Option ((List Int) × Nat × Nat × Bool) :=
 Option.bind (catalog_taker_place_1_K p0 p1 p2 p3) fun (r26, r27, r28, r29) =>
 Option.bind (catalog_list_int_1_K r26 p0 r27 r28 r29) fun (r31, r32, r33, r34) =>
 some (r31, r32, r33, r34)
theorem catalog_taker_places_1_L (p0 : List UInt8) (p1 : Nat) (p2 : Nat) (p3 : Bool) : Le (catalog_taker_places_1_K p0 p1 p2 p3) (catalog_taker_places_1 p0 p1 p2 p3) := by
 unfold catalog_taker_places_1_K catalog_taker_places_1
 repeat (first|exact catalog_taker_place_1_L _ _ _ _|exact catalog_list_int_1_L _ _ _ _ _|apply zb|apply zc|apply zl|apply zE|apply zm|exact zr _|intro _)
noncomputable def pack_In_Flag_1_K (p0 : List UInt8) (p1 : Nat) (p2 : Nat) (p3 : Bool) : Option (Bool × Nat × Nat × Bool) :=
 Option.bind (α := Bool)
 (bif (decide ((p2 : Int) > (0 : Int))) then
 Option.bind (getS p0 p1 p2 (0 : Int)) fun v28 =>
 some (decide ((1 : UInt8) < v28))
 else
 some false)
 fun y26 =>
 bif y26 then
 Option.bind (α := Unit)
 (some ())
 fun _ =>
 some (false, p1, p2, true)
 else
 Option.bind (pack_In_number_1_K (1 : Int) p0 p1 p2 p3) fun (r31, r32, r33, r34) =>
 some ((r31 == (1 : UInt64)), r32, r33, r34)
theorem pack_In_Flag_1_L (p0 : List UInt8) (p1 : Nat) (p2 : Nat) (p3 : Bool) : Le (pack_In_Flag_1_K p0 p1 p2 p3) (pack_In_Flag_1 p0 p1 p2 p3) := by
 unfold pack_In_Flag_1_K pack_In_Flag_1
 repeat (first|exact pack_In_number_1_L _ _ _ _ _|apply zb|apply zc|apply zl|apply zE|apply zm|exact zr _|intro _)
noncomputable def pack_In_U64_K (p0 : List UInt8) (p1 : Nat) (p2 : Nat) (p3 : Bool) : Option (UInt64 × Nat × Nat × Bool) :=
 Option.bind (pack_In_number_1_K (8 : Int) p0 p1 p2 p3) fun (r16, r17, r18, r19) =>
 some (r16, r17, r18, r19)
theorem pack_In_U64_L (p0 : List UInt8) (p1 : Nat) (p2 : Nat) (p3 : Bool) : Le (pack_In_U64_K p0 p1 p2 p3) (pack_In_U64 p0 p1 p2 p3) := by
 unfold pack_In_U64_K pack_In_U64
 repeat (first|exact pack_In_number_1_L _ _ _ _ _|apply zb|apply zc|apply zl|apply zE|apply zm|exact zr _|intro _)
noncomputable def catalog_taker_column_K (p0 : List UInt8) (p1 : Bool) : Option (Nat × Nat × Bool × ApiColumn) :=
 Option.bind (pack_In_Text_1 p0 p1) fun (r76, r77, r78, r79) =>
 Option.bind (catalog_taker_place_1_K p0 r77 r78 r79) fun (r81, r82, r83, r84) =>
 Option.bind (catalog_taker_place_1_K p0 r82 r83 r84) fun (r86, r87, r88, r89) =>
 Option.bind (pack_In_Flag_1_K p0 r87 r88 r89) fun (r91, r92, r93, r94) =>
 Option.bind (catalog_taker_place_1_K p0 r92 r93 r94) fun (r96, r97, r98, r99) =>
 Option.bind (pack_In_U64_K p0 r97 r98 r99) fun (r101, r102, r103, r104) =>
 Option.bind (pack_In_Text p0 r102 r103 r104) fun (r106, r107, r108, r109) =>
 some (r107, r108, r109, (ApiColumn.mk r76 r81 r86 r91 (ApiValue.mk r96 r101 r106)))
theorem catalog_taker_column_L (p0 : List UInt8) (p1 : Bool) : Le (catalog_taker_column_K p0 p1) (catalog_taker_column p0 p1) := by
 unfold catalog_taker_column_K catalog_taker_column
 repeat (first|exact catalog_taker_place_1_L _ _ _ _|exact pack_In_Flag_1_L _ _ _ _|exact pack_In_U64_L _ _ _ _|apply zb|apply zc|apply zl|apply zE|apply zm|exact zr _|intro _)
noncomputable def catalog_taker_part_K (p0 : List UInt8) (p1 : Nat) (p2 : Nat) (p3 : Bool) : Option (Nat × Nat × Bool × ApiPart) :=
 Option.bind (catalog_taker_place_1_K p0 p1 p2 p3) fun (r26, r27, r28, r29) =>
 Option.bind (pack_In_Flag_1_K p0 r27 r28 r29) fun (r31, r32, r33, r34) =>
 some (r32, r33, r34, (ApiPart.mk r26 r31))
theorem catalog_taker_part_L (p0 : List UInt8) (p1 : Nat) (p2 : Nat) (p3 : Bool) : Le (catalog_taker_part_K p0 p1 p2 p3) (catalog_taker_part p0 p1 p2 p3) := by
 unfold catalog_taker_part_K catalog_taker_part
 repeat (first|exact catalog_taker_place_1_L _ _ _ _|exact pack_In_Flag_1_L _ _ _ _|apply zb|apply zc|apply zl|apply zE|apply zm|exact zr _|intro _)
noncomputable def catalog_list_api_Part_K (p0 : Int) (p1 : List UInt8) (p2 : Nat) (p3 : Nat) (p4 : Bool) : Option ((List ApiPart) × Nat × Nat × Bool) :=
 Option.bind (α := (List ApiPart) × Nat × Nat × Bool)
 (Option.bind (α := (List ApiPart) × Nat × Nat × Bool)
 (loopF (Y := (List ApiPart) × Int × Nat × Nat × Bool) (W := (List ApiPart) × Nat × Nat × Bool) (fun (y245, y246, y247, y248, y249) =>
 Option.bind (α := Bool)
 (bif (decide (y246 < p0)) then
 Option.bind (pack_In_Bad p1 y247 y248 y249) fun _ =>
 some (!y249)
 else
 some false)
 fun y268 =>
 bif y268 then
 Option.bind (catalog_taker_part_K p1 y247 y248 y249) fun (r272, r273, r274, r275) =>
 bif decide ((y245.length + [r275].length) * 16 ≤ room) then
 some (Sum.inl ((y245 ++ [r275]), (w64 (y246 + (1 : Int))), r272, r273, r274))
 else none
 else
 some (Sum.inr (y245, y247, y248, y249))) (([] : List ApiPart), (0 : Int), p2, p3, p4))
 (fun e => some e))
 fun (y230, y231, y232, y233) =>
 some (y230, y231, y232, y233)
theorem catalog_list_api_Part_L (p0 : Int) (p1 : List UInt8) (p2 : Nat) (p3 : Nat) (p4 : Bool) : Le (catalog_list_api_Part_K p0 p1 p2 p3 p4) (catalog_list_api_Part p0 p1 p2 p3 p4) := by
 unfold catalog_list_api_Part_K catalog_list_api_Part
 repeat (first|exact catalog_taker_part_L _ _ _ _|apply zb|apply zc|apply zl|apply zE|apply zm|exact zr _|intro _)
noncomputable def pack_In_U16_2_K (p0 : List UInt8) (p1 : Nat) (p2 : Nat) (p3 : Bool) : Option (UInt16 × Nat × Nat × Bool) :=
 Option.bind (pack_In_number_1_K (2 : Int) p0 p1 p2 p3) fun (r16, r17, r18, r19) =>
 some ((r16.toUInt16), r17, r18, r19)
theorem pack_In_U16_2_L (p0 : List UInt8) (p1 : Nat) (p2 : Nat) (p3 : Bool) : Le (pack_In_U16_2_K p0 p1 p2 p3) (pack_In_U16_2 p0 p1 p2 p3) := by
 unfold pack_In_U16_2_K pack_In_U16_2
 repeat (first|exact pack_In_number_1_L _ _ _ _ _|apply zb|apply zc|apply zl|apply zE|apply zm|exact zr _|intro _)
noncomputable def catalog_taker_index_K (p0 : List UInt8) (p1 : Bool) : Option (Nat × Nat × Bool × ApiIndex) :=
 Option.bind (pack_In_Text_1 p0 p1) fun (r76, r77, r78, r79) =>
 Option.bind (catalog_taker_place_1_K p0 r77 r78 r79) fun (r81, r82, r83, r84) =>
 Option.bind (catalog_list_api_Part_K r81 p0 r82 r83 r84) fun (r86, r87, r88, r89) =>
 Option.bind (catalog_taker_places_1_K p0 r87 r88 r89) fun (r91, r92, r93, r94) =>
 Option.bind (pack_In_Flag_1_K p0 r92 r93 r94) fun (r96, r97, r98, r99) =>
 Option.bind (pack_In_Flag_1_K p0 r97 r98 r99) fun (r101, r102, r103, r104) =>
 Option.bind (pack_In_U16_2_K p0 r102 r103 r104) fun (r106, r107, r108, r109) =>
 some (r107, r108, r109, (ApiIndex.mk r76 r86 r91 r96 r101 (r106.toNat : Int)))
theorem catalog_taker_index_L (p0 : List UInt8) (p1 : Bool) : Le (catalog_taker_index_K p0 p1) (catalog_taker_index p0 p1) := by
 unfold catalog_taker_index_K catalog_taker_index
 repeat (first|exact catalog_taker_place_1_L _ _ _ _|exact catalog_taker_places_1_L _ _ _ _|exact pack_In_Flag_1_L _ _ _ _|exact catalog_list_api_Part_L _ _ _ _ _|exact pack_In_U16_2_L _ _ _ _|apply zb|apply zc|apply zl|apply zE|apply zm|exact zr _|intro _)
noncomputable def catalog_table_K (p0 : List ApiPair) : Option (Bool × (List ApiPair) × (List UInt8) × (List ApiColumn) × (List Int) × (List ApiIndex) × Int) :=
 Option.bind (getI p0 (0 : Int)) fun v454 =>
 Option.bind (cutF v454.Key ([116] : List UInt8)) fun (r456, r457) =>
 bif (!r457) then
 some (false, p0, ([] : List UInt8), ([] : List ApiColumn), ([] : List Int), ([] : List ApiIndex), (0 : Int))
 else
 Option.bind (getI p0 (0 : Int)) fun v458 =>
 Option.bind (catalog_take v458.Key p0) fun r460 =>
 (Sum.elim (fun _ =>
 Option.bind pack_In_U16_K fun _ =>
 Option.bind catalog_taker_place_K fun _ =>
 Option.bind catalog_taker_places_K fun _ =>
 Option.bind catalog_taker_place_K fun _ =>
 Option.bind pack_In_Done_1 fun _ =>
 some (false, p0, r456, ([] : List ApiColumn), ([] : List Int), ([] : List ApiIndex), (((0 : UInt64).toUInt16).toNat : Int))) (fun r461 =>
 Option.bind (pack_In_U16_1_K r461 false) fun (r468, r469, r470, r471) =>
 Option.bind (catalog_taker_place_1_K r461 r469 r470 r471) fun (r473, r474, r475, r476) =>
 Option.bind (catalog_taker_places_1_K r461 r474 r475 r476) fun (r478, r479, r480, r481) =>
 Option.bind (catalog_taker_place_1_K r461 r479 r480 r481) fun (r483, r484, r485, r486) =>
 Option.bind (pack_In_Done r461 r484 r485 r486) fun r488 =>
 bif (!r488) then
 some (false, (List.drop (1 : Int).toNat p0), r456, ([] : List ApiColumn), r478, ([] : List ApiIndex), (r468.toNat : Int))
 else
 bindE (Y := (List ApiPair) × (List ApiColumn)) (E := Bool × (List ApiPair) × (List UInt8) × (List ApiColumn) × (List Int) × (List ApiIndex) × Int)
 (Option.bind (α := ((List ApiPair) × (List ApiColumn)) ⊕ (Bool × (List ApiPair) × (List UInt8) × (List ApiColumn) × (List Int) × (List ApiIndex) × Int))
 (loopF (Y := Int × (List ApiPair) × (List ApiColumn)) (W := ((List ApiPair) × (List ApiColumn)) ⊕ (Bool × (List ApiPair) × (List UInt8) × (List ApiColumn) × (List Int) × (List ApiIndex) × Int)) (fun (y549, y550, y551) =>
 bif (decide (y549 < r473)) then
 Option.bind (catalog_sub r456 (99 : UInt8) y549) fun _ =>
 Option.bind (catalog_take ((([116] : List UInt8) ++ r456) ++ [(0 : UInt8), (99 : UInt8), (u8i y549)]) y550) fun r571 =>
 (Sum.elim (fun _ =>
 some (Sum.inr (Sum.inr (false, y550, r456, y551, r478, ([] : List ApiIndex), (r468.toNat : Int))))) (fun r572 =>
 Option.bind (catalog_taker_column_K r572 false) fun (r574, r575, r576, r577) =>
 bif decide ((y551.length + [r577].length) * 72 ≤ room) then
 Option.bind (pack_In_Done r572 r574 r575 r576) fun r580 =>
 bif (!r580) then
 some (Sum.inr (Sum.inr (false, (List.drop (1 : Int).toNat y550), r456, (y551 ++ [r577]), r478, ([] : List ApiIndex), (r468.toNat : Int))))
 else
 some (Sum.inl ((w64 (y549 + (1 : Int))), (List.drop (1 : Int).toNat y550), (y551 ++ [r577])))
 else none)) r571
 else
 some (Sum.inr (Sum.inl (y550, y551)))) ((0 : Int), (List.drop (1 : Int).toNat p0), ([] : List ApiColumn)))
 (Sum.elim (fun e => some (Sum.inl e)) (fun e => some (Sum.inr e))))
 (fun (y534, y535) =>
 bindE (Y := (List ApiPair) × (List ApiIndex)) (E := Bool × (List ApiPair) × (List UInt8) × (List ApiColumn) × (List Int) × (List ApiIndex) × Int)
 (Option.bind (α := ((List ApiPair) × (List ApiIndex)) ⊕ (Bool × (List ApiPair) × (List UInt8) × (List ApiColumn) × (List Int) × (List ApiIndex) × Int))
 (loopF (Y := Int × (List ApiPair) × (List ApiIndex)) (W := ((List ApiPair) × (List ApiIndex)) ⊕ (Bool × (List ApiPair) × (List UInt8) × (List ApiColumn) × (List Int) × (List ApiIndex) × Int)) (fun (y642, y643, y644) =>
 bif (decide (y642 < r483)) then
 Option.bind (catalog_sub r456 (105 : UInt8) y642) fun _ =>
 Option.bind (catalog_take ((([116] : List UInt8) ++ r456) ++ [(0 : UInt8), (105 : UInt8), (u8i y642)]) y643) fun r664 =>
 (Sum.elim (fun _ =>
 some (Sum.inr (Sum.inr (false, y643, r456, y535, r478, y644, (r468.toNat : Int))))) (fun r665 =>
 Option.bind (catalog_taker_index_K r665 false) fun (r667, r668, r669, r670) =>
 bif decide ((y644.length + [r670].length) * 80 ≤ room) then
 Option.bind (pack_In_Done r665 r667 r668 r669) fun r673 =>
 bif (!r673) then
 some (Sum.inr (Sum.inr (false, (List.drop (1 : Int).toNat y643), r456, y535, r478, (y644 ++ [r670]), (r468.toNat : Int))))
 else
 some (Sum.inl ((w64 (y642 + (1 : Int))), (List.drop (1 : Int).toNat y643), (y644 ++ [r670])))
 else none)) r664
 else
 some (Sum.inr (Sum.inl (y643, y644)))) ((0 : Int), y534, ([] : List ApiIndex)))
 (Sum.elim (fun e => some (Sum.inl e)) (fun e => some (Sum.inr e))))
 (fun (y627, y628) =>
 Option.bind (catalog_right_K (ApiTable.mk r456 y535 r478 y628 (r468.toNat : Int))) fun r676 =>
 some (r676, y627, r456, y535, r478, y628, (r468.toNat : Int)))
 (fun e => some e))
 (fun e => some e))) r460
theorem catalog_table_L (p0 : List ApiPair) : Le (catalog_table_K p0) (catalog_table p0) := by
 unfold catalog_table_K catalog_table
 repeat (first|exact catalog_right_L _|exact pack_In_U16_L|exact catalog_taker_place_L|exact catalog_taker_places_L|exact pack_In_U16_1_L _ _|exact catalog_taker_place_1_L _ _ _ _|exact catalog_taker_places_1_L _ _ _ _|exact catalog_taker_column_L _ _|exact catalog_taker_index_L _ _|apply zb|apply zc|apply zl|apply zE|apply zm|exact zr _|intro _)
noncomputable def catalog_Read_K (p0 : List ApiPair) : Option ((List ApiTable) × Int) :=
 bindE (Y := (List ApiTable)) (E := (List ApiTable) × Int)
 (Option.bind (α := ((List ApiTable)) ⊕ ((List ApiTable) × Int))
 (loopF (Y := (List ApiTable) × (List ApiPair)) (W := ((List ApiTable)) ⊕ ((List ApiTable) × Int)) (fun (y240, y241) =>
 bif (decide ((y241.length : Int) > (0 : Int))) then
 Option.bind (catalog_table_K y241) fun (r260, r261, r262, r263, r264, r265, r266) =>
 Option.bind (α := Bool)
 (bif (!r260) then
 some true
 else
 bif (decide ((y240.length : Int) > (0 : Int))) then
 Option.bind (getI y240 (w64 ((y240.length : Int) - (1 : Int)))) fun v270 =>
 some (!(ltS v270.Name r262))
 else
 some false)
 fun y268 =>
 bif y268 then
 some (Sum.inr (Sum.inr (([] : List ApiTable), (2 : Int))))
 else
 bif decide ((y240.length + [(ApiTable.mk r262 r263 r264 r265 r266)].length) * 96 ≤ room) then
 some (Sum.inl ((y240 ++ [(ApiTable.mk r262 r263 r264 r265 r266)]), r261))
 else none
 else
 some (Sum.inr (Sum.inl y240))) (([] : List ApiTable), p0))
 (Sum.elim (fun e => some (Sum.inl e)) (fun e => some (Sum.inr e))))
 (fun y227 =>
 some (y227, (0 : Int)))
 (fun e => some e)
theorem catalog_Read_L (p0 : List ApiPair) : Le (catalog_Read_K p0) (catalog_Read p0) := by
 unfold catalog_Read_K catalog_Read
 repeat (first|exact catalog_table_L _|apply zb|apply zc|apply zl|apply zE|apply zm|exact zr _|intro _)
noncomputable def catalog_Ops_K (p0 : Int) (p1 : List ApiPair) (p2 : List ApiPair) : Option ((List ForestOp)) :=
 Option.bind (α := (List (List UInt8)) × (List ((List UInt8) × (List UInt8))))
 (Option.bind (α := (List (List UInt8)) × (List ((List UInt8) × (List UInt8))))
 (loopF (Y := (List (List UInt8)) × Int × (List ((List UInt8) × (List UInt8)))) (W := (List (List UInt8)) × (List ((List UInt8) × (List UInt8)))) (fun (y414, y415, y416) =>
 bif (decide (y415 < (p1.length : Int))) then
 Option.bind (getI p1 y415) fun v424 =>
 bif decide ((y414.length + [v424.Key].length) * 16 ≤ room) then
 some (Sum.inl ((y414 ++ [v424.Key]), (w64 (y415 + (1 : Int))), (mset y416 v424.Key v424.Val)))
 else none
 else
 some (Sum.inr (y414, y416))) (([] : List (List UInt8)), (0 : Int), ([] : List ((List UInt8) × (List UInt8)))))
 (fun e => some e))
 fun (y409, y410) =>
 Option.bind (α := (List (List UInt8)) × (List ((List UInt8) × (List UInt8))))
 (Option.bind (α := (List (List UInt8)) × (List ((List UInt8) × (List UInt8))))
 (loopF (Y := (List (List UInt8)) × Int × (List ((List UInt8) × (List UInt8)))) (W := (List (List UInt8)) × (List ((List UInt8) × (List UInt8)))) (fun (y447, y448, y449) =>
 bif (decide (y448 < (p2.length : Int))) then
 Option.bind (getI p2 y448) fun v457 =>
 bif decide ((y447.length + [v457.Key].length) * 16 ≤ room) then
 some (Sum.inl ((y447 ++ [v457.Key]), (w64 (y448 + (1 : Int))), (mset y449 v457.Key v457.Val)))
 else none
 else
 some (Sum.inr (y447, y449))) (y409, (0 : Int), ([] : List ((List UInt8) × (List UInt8)))))
 (fun e => some e))
 fun (y442, y443) =>
 Option.bind (sortF_K y442) fun r461 =>
 Option.bind (α := (List ForestOp))
 (Option.bind (compactF r461 0 y442.length) fun r528 =>
 Option.bind (α := (List ForestOp))
 (loopF (Y := (List ForestOp) × Int) (W := (List ForestOp)) (fun (y547, y548) =>
 bif (decide (y548 < (r528.length : Int))) then
 Option.bind (α := (List ForestOp))
 (Option.bind (getI r528 y548) fun v581 =>
 bindE (Y := ApiMsg) (E := (List ForestOp))
 (Option.bind (α := Bool)
 (bif (Option.isSome (mget y410 v581)) then
 bif (Option.isSome (mget y443 v581)) then
 some ((Option.getD (mget y410 v581) ([] : List UInt8)) == (Option.getD (mget y443 v581) ([] : List UInt8)))
 else
 some false
 else
 some false)
 fun y586 =>
 bif y586 then
 some (Sum.inr y547)
 else
 bif (!(Option.isSome (mget y443 v581))) then
 some (Sum.inl (ApiMsg.mk (0 : UInt64) (2 : Int) v581 (0 : UInt64) (Option.getD (mget y443 v581) ([] : List UInt8)) (0 : Int) (0 : UInt64)))
 else
 some (Sum.inl (ApiMsg.mk (0 : UInt64) (1 : Int) v581 (0 : UInt64) (Option.getD (mget y443 v581) ([] : List UInt8)) (0 : Int) (0 : UInt64))))
 (fun y584 =>
 bif decide ((y547.length + [(ForestOp.mk (1 : Int) p0 y584)].length) * 88 ≤ room) then
 some (y547 ++ [(ForestOp.mk (1 : Int) p0 y584)])
 else none)
 (fun e => some e))
 fun y579 =>
 some (Sum.inl (y579, (w64 (y548 + (1 : Int)))))
 else
 some (Sum.inr y547)) (([] : List ForestOp), (0 : Int)))
 (fun e => some e))
 fun y525 =>
 some y525
theorem catalog_Ops_L (p0 : Int) (p1 : List ApiPair) (p2 : List ApiPair) : Le (catalog_Ops_K p0 p1 p2) (catalog_Ops p0 p1 p2) := by
 unfold catalog_Ops_K catalog_Ops
 repeat (first|exact sortF_L _|apply zb|apply zc|apply zl|apply zE|apply zm|exact zr _|intro _)
noncomputable def raw_Ints_K (p0 : List Int) (p1 : List Int) : Option Bool :=
 bif ((p0.length : Int) != (p1.length : Int)) then
 some false
 else
 bindE (Y := Unit) (E := Bool)
 (Option.bind (α := Unit ⊕ Bool)
 (loopF (Y := Int) (W := Unit ⊕ Bool) (fun y62 =>
 bif (decide (y62 < (p0.length : Int))) then
 Option.bind (getI p0 y62) fun v68 =>
 Option.bind (getI p1 y62) fun v69 =>
 bif (v68 != v69) then
 some (Sum.inr (Sum.inr false))
 else
 some (Sum.inl (w64 (y62 + (1 : Int))))
 else
 some (Sum.inr (Sum.inl ()))) (0 : Int))
 (Sum.elim (fun e => some (Sum.inl e)) (fun e => some (Sum.inr e))))
 (fun _ =>
 some true)
 (fun e => some e)
theorem raw_Ints_L (p0 : List Int) (p1 : List Int) : Le (raw_Ints_K p0 p1) (raw_Ints p0 p1) := by
 unfold raw_Ints_K raw_Ints
 repeat (first|apply zb|apply zc|apply zl|apply zE|apply zm|exact zr _|intro _)
noncomputable def ref17_Same_K (p0 : ApiTable) (p1 : ApiTable) : Option Bool :=
 Option.bind (α := Bool)
 (bif (p0.Name != p1.Name) then
 some true
 else
 bif (p0.Tree != p1.Tree) then
 some true
 else
 bif ((p0.Cols.length : Int) != (p1.Cols.length : Int)) then
 some true
 else
 Option.bind (raw_Ints_K p0.Primary p1.Primary) fun r555 =>
 bif (!r555) then
 some true
 else
 some ((p0.Indexes.length : Int) != (p1.Indexes.length : Int)))
 fun y552 =>
 bif y552 then
 some false
 else
 bindE (Y := Unit) (E := Bool)
 (Option.bind (α := Unit ⊕ Bool)
 (loopF (Y := Int) (W := Unit ⊕ Bool) (fun y570 =>
 bif (decide (y570 < (p0.Cols.length : Int))) then
 Option.bind (getI p0.Cols y570) fun v576 =>
 Option.bind (getI p1.Cols y570) fun v577 =>
 bif (!(eqApiColumn v576 v577)) then
 some (Sum.inr (Sum.inr false))
 else
 some (Sum.inl (w64 (y570 + (1 : Int))))
 else
 some (Sum.inr (Sum.inl ()))) (0 : Int))
 (Sum.elim (fun e => some (Sum.inl e)) (fun e => some (Sum.inr e))))
 (fun _ =>
 bindE (Y := Unit) (E := Bool)
 (Option.bind (α := Unit ⊕ Bool)
 (loopF (Y := Int) (W := Unit ⊕ Bool) (fun y741 =>
 bif (decide (y741 < (p0.Indexes.length : Int))) then
 bindE (Y := Unit) (E := Bool)
 (Option.bind (getI p0.Indexes y741) fun v804 =>
 Option.bind (getI p1.Indexes y741) fun v805 =>
 Option.bind (α := Bool)
 (bif (v804.Name != v805.Name) then
 some true
 else
 bif (v804.Unique != v805.Unique) then
 some true
 else
 bif (v804.Ready != v805.Ready) then
 some true
 else
 bif (v804.Tree != v805.Tree) then
 some true
 else
 Option.bind (raw_Ints_K v804.Extra v805.Extra) fun r811 =>
 bif (!r811) then
 some true
 else
 some ((v804.Parts.length : Int) != (v805.Parts.length : Int)))
 fun y808 =>
 bif y808 then
 some (Sum.inr false)
 else
 Option.bind (α := Unit ⊕ Bool)
 (loopF (Y := Int) (W := Unit ⊕ Bool) (fun y814 =>
 bif (decide (y814 < (v804.Parts.length : Int))) then
 Option.bind (getI v804.Parts y814) fun v820 =>
 Option.bind (getI v805.Parts y814) fun v821 =>
 bif (!(eqApiPart v820 v821)) then
 some (Sum.inr (Sum.inr false))
 else
 some (Sum.inl (w64 (y814 + (1 : Int))))
 else
 some (Sum.inr (Sum.inl ()))) (0 : Int))
 (Sum.elim (fun e => some (Sum.inl e)) (fun e => some (Sum.inr e))))
 (fun _ =>
 some (Sum.inl (w64 (y741 + (1 : Int)))))
 (fun e => some (Sum.inr (Sum.inr e)))
 else
 some (Sum.inr (Sum.inl ()))) (0 : Int))
 (Sum.elim (fun e => some (Sum.inl e)) (fun e => some (Sum.inr e))))
 (fun _ =>
 some true)
 (fun e => some e))
 (fun e => some e)
theorem ref17_Same_L (p0 : ApiTable) (p1 : ApiTable) : Le (ref17_Same_K p0 p1) (ref17_Same p0 p1) := by
 unfold ref17_Same_K ref17_Same
 repeat (first|exact raw_Ints_L _ _|apply zb|apply zc|apply zl|apply zE|apply zm|exact zr _|intro _)
noncomputable def law18_awake_K : Option Bool :=
 Option.bind (catalog_Pairs_K (ApiTable.mk ([97] : List UInt8) [(ApiColumn.mk ([105, 100] : List UInt8) (1 : Int) (0 : Int) false (ApiValue.mk (1 : Int) (0 : UInt64) ([] : List UInt8)))] [(0 : Int)] ([] : List ApiIndex) (2 : Int))) fun (r47, r48) =>
 Option.bind (catalog_Read_K r47) fun (r50, r51) =>
 Option.bind (catalog_Ops_K (1 : Int) [(ApiPair.mk ([97] : List UInt8) ([] : List UInt8))] [(ApiPair.mk ([98] : List UInt8) ([] : List UInt8))]) fun r53 =>
 Option.bind (α := Bool)
 (bif (r48 == (0 : Int)) then
 bif ((r47.length : Int) == (2 : Int)) then
 Option.bind (getI r47 (0 : Int)) fun v62 =>
 bif (v62.Key == ([116, 97] : List UInt8)) then
 Option.bind (getI r47 (0 : Int)) fun v63 =>
 bif (v63.Val == ([0, 2, 1, 1, 0, 0] : List UInt8)) then
 bif (r51 == (0 : Int)) then
 bif ((r50.length : Int) == (1 : Int)) then
 Option.bind (getI r50 (0 : Int)) fun v64 =>
 Option.bind (ref17_Same_K v64 (ApiTable.mk ([97] : List UInt8) [(ApiColumn.mk ([105, 100] : List UInt8) (1 : Int) (0 : Int) false (ApiValue.mk (1 : Int) (0 : UInt64) ([] : List UInt8)))] [(0 : Int)] ([] : List ApiIndex) (2 : Int))) fun r66 =>
 bif r66 then
 bif ((r53.length : Int) == (2 : Int)) then
 Option.bind (getI r53 (1 : Int)) fun v67 =>
 some (v67.Msg.Key == ([98] : List UInt8))
 else
 some false
 else
 some false
 else
 some false
 else
 some false
 else
 some false
 else
 some false
 else
 some false
 else
 some false)
 fun y60 =>
 some y60
theorem law18_awake_L : Le (law18_awake_K) (law18_awake) := by
 unfold law18_awake_K law18_awake
 repeat (first|exact catalog_Pairs_L _|exact catalog_Read_L _|exact catalog_Ops_L _ _ _|exact ref17_Same_L _ _|apply zb|apply zc|apply zl|apply zE|apply zm|exact zr _|intro _)
theorem law18_awake_some : law18_awake = some true := law18_awake_L _ (by kernel_rfl)
end Lv
