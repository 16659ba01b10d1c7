/- The texts of bytes: hex and quote, by the shelf's contracts for strings.Builder. -/
import Derived.Test.YtihhhgaaagefgaaDoorShelf
import Derived.WalkKit
import Derived.BigCall
import Derived.Laws.Strings2
namespace Go.Proofs
open Go.RowKit
def hxc (n : Nat) : UInt8 := if n < 10 then UInt8.ofNat (48 + n) else UInt8.ofNat (87 + n)
def hexL (l : List UInt8) : List UInt8 := (l.map fun b => [hxc (b.toNat / 16), hxc (b.toNat % 16)]).flatten
theorem hexDig : ∀ n : _root_.Fin 16, (ByteArray.mk #[48, 49, 50, 51, 52, 53, 54, 55, 56, 57, 97, 98, 99, 100, 101, 102])[n.val]'n.isLt = hxc n.val := by decide
theorem hexDig' (n : Nat) (h : n < (ByteArray.mk #[48, 49, 50, 51, 52, 53, 54, 55, 56, 57, 97, 98, 99, 100, 101, 102]).size) : (ByteArray.mk #[48, 49, 50, 51, 52, 53, 54, 55, 56, 57, 97, 98, 99, 100, 101, 102])[n]'h = hxc n := hexDig ⟨n, h⟩
theorem hexL_len (l : List UInt8) : (hexL l).length = 2 * l.length := by
 unfold hexL
 induction l with
 | nil => rfl
 | cons b l ih => simp at ih ⊢; omega
theorem hexL_take (l : List UInt8) (k : Nat) (h : k < l.length) : hexL (l.take (k + 1)) = hexL (l.take k) ++ [hxc (l[k].toNat / 16)] ++ [hxc (l[k].toNat % 16)] := by
 unfold hexL
 rw [List.take_succ_eq_append_getElem h, List.map_append, List.flatten_append]
 simp only [List.map_cons, List.map_nil, List.flatten_cons, List.flatten_nil, List.append_nil, List.append_assoc, List.cons_append, List.nil_append]
theorem ext_one (s : ByteArray) (k : Nat) (h : k < s.size) : s.extract k (k + 1) = ⟨#[s[k]]⟩ := by
 apply ByteArray.ext
 rw [ByteArray.data_extract]
 apply Array.ext
 ·rw [Array.size_extract]; show min (k + 1) s.size - k = 1; omega
 ·intro i h1 h2
  have : i = 0 := by simp at h2; omega
  subst this
  simp
  rfl
theorem byteCells_one (b : UInt8) : [Value.int .u8 (b.toNat : Int)] = Lib.byteCells [b] := rfl
set_option maxHeartbeats 4000000 in
set_option maxRecDepth 1000000 in
theorem Tryd.hex_walk (s : ByteArray) (w : World) (hs : s.size ≤ 1048576) :
  Calls Tryd.prog 26 #[.string s] w fun e w' => e = .returned (.string ⟨(hexL s.data.toList).toArray⟩) ∧ Below w.heap.size w w' := by
 go_enter Tryd.func26, Tryd.ntmps26
 go_wp2
 go_loopw [7] (fun i wr => ∃ k : Nat, k ≤ s.size ∧ i = .int .i64 k ∧ Lib.IsBuilderF 59 5 w.heap.size w.heap.size (Lib.byteCells (hexL (s.data.toList.take k))) wr ∧ Below w.heap.size w wr) (fun i _ => s.size - (intOf i).toNat)
 case atStart => exact ⟨0, by omega, rfl, Lib.IsBuilderF.of (Lib.fresh_isBuilder 59 5 w), (Below.refl _ w).alloc (Nat.le_refl _) _⟩
 case round =>
  obtain ⟨k, hk, rfl, hI, hb⟩ := hrel
  have hl : (hexL (s.data.toList.take k)).length ≤ 2097152 := by
   rw [hexL_len]; simp; omega
  by_cases hlt : k < s.size
  ·have hsl : k < s.data.toList.length := by simpa using hlt
   have hg : s.data.toList[k] = s[k] := by simp; rfl
   have hx : s[k].toNat < 256 := s[k].toNat_lt
   have hx1 : (0 : Int) ≤ (s[k].toNat : Int) / 16 ∧ (s[k].toNat : Int) / 16 < 16 := by omega
   have hx2 : (0 : Int) ≤ (s[k].toNat : Int) % 16 ∧ (s[k].toNat : Int) % 16 < 16 := by omega
   go_wp2_with (go_at_call 42; rw [hexDig']; refine (Tryd.Builder_WriteByte_k w.heap.size w.heap.size _ _ _ hI (by rw [Lib.byteCells_length]; omega) hb.size).mono ?_)
   rintro e W1 ⟨rfl, h1, b1, _⟩
   rw [byteCells_one, ← Lib.byteCells_append] at h1
   have hb1 := hb.trans b1
   go_wp2_with (go_at_call 42; rw [hexDig']; refine (Tryd.Builder_WriteByte_k w.heap.size w.heap.size _ _ _ (Or.inr h1) (by rw [Lib.byteCells_length, List.length_append, List.length_singleton]; omega) hb1.size).mono ?_)
   rintro e W2 ⟨rfl, h2, b2, _⟩
   rw [byteCells_one, ← Lib.byteCells_append] at h2
   go_wp2
   go_roundw
   case rel =>
    refine ⟨k + 1, by omega, by go_num, ?_, hb1.trans b2⟩
    rw [hexL_take _ _ hsl, hg]
    exact Or.inr h2
   case measure =>
    simp [intOf]
    omega
  ·go_wp2_with (go_at_call 43; refine (Tryd.Builder_String_any_k w.heap.size w.heap.size _ _ hI hb.size).mono ?_)
   rintro e W1 ⟨rfl, _, b1, _⟩
   go_wp2
   go_ret
   have : s.data.toList.take k = s.data.toList := by rw [List.take_of_length_le]; simp; omega
   rw [this]
   exact ⟨rfl, hb.trans b1⟩
theorem _root_.Go.Lib.BuilderAtF.below {T e : TypeId} {B b : Nat} {p : Value} {bs : List Value} {w w' : World} (h : Lib.BuilderAtF T e B b p bs w) (k : Below w.heap.size w w') : Lib.BuilderAtF T e B b p bs w' := by
 have hlt := h.lt
 obtain ⟨hB, v, hb, hown, hne⟩ := h
 exact ⟨hB, v, (k.block b hlt).trans hb, hown.kept (row := none) ⟨k.os, k.tape, k.output, k.size, fun j hj _ => k.block j hj⟩ (by cases hv : v.ownBlock <;> simp), hne⟩
def qch (b : UInt8) : List UInt8 := if b.toNat < 33 ∨ 126 < b.toNat ∨ b.toNat = 34 ∨ b.toNat = 92 then [92, hxc (b.toNat / 16), hxc (b.toNat % 16)] else [b]
def quoteL (l : List UInt8) : List UInt8 := 34 :: (l.map qch).flatten ++ [34]
theorem q_len (l : List UInt8) : ((l.map qch).flatten).length ≤ 3 * l.length := by
 induction l with
 | nil => simp
 | cons b l ih =>
  have : (qch b).length ≤ 3 := by unfold qch; split <;> simp
  simp at ih ⊢
  omega
theorem q_take (l : List UInt8) (k : Nat) (h : k < l.length) : ((l.take (k + 1)).map qch).flatten = ((l.take k).map qch).flatten ++ qch l[k] := by
 rw [List.take_succ_eq_append_getElem h, List.map_append, List.flatten_append]
 simp only [List.map_cons, List.map_nil, List.flatten_cons, List.flatten_nil, List.append_nil]
theorem q140 (A : List UInt8) (b : UInt8) (h : A.length ≤ 3145729) : (Lib.byteCells A ++ [Value.int .u8 92]).length + (ByteArray.mk (hexL [b]).toArray).size ≤ 140737488355328 := by
 have e : (ByteArray.mk (hexL [b]).toArray).size = 2 := rfl
 rw [e, List.length_append, Lib.byteCells_length, List.length_singleton]
 omega
set_option maxHeartbeats 4000000 in
set_option maxRecDepth 1000000 in
theorem Tryd.quote_walk (s : ByteArray) (w : World) (hs : s.size ≤ 1048576) :
  Calls Tryd.prog 27 #[.string s] w fun e w' => e = .returned (.string ⟨(quoteL s.data.toList).toArray⟩) ∧ Below w.heap.size w w' := by
 have h0 : Lib.IsBuilderF 59 5 w.heap.size w.heap.size (Lib.byteCells []) (w.alloc (.cells #[.pointer none, .slice none 0 0] 59)) := Lib.IsBuilderF.of (Lib.fresh_isBuilder 59 5 w)
 have b0 : Below w.heap.size w (w.alloc (.cells #[.pointer none, .slice none 0 0] 59)) := (Below.refl _ w).alloc (Nat.le_refl _) _
 go_enter Tryd.func27, Tryd.ntmps27
 go_wp2_with (go_at_call 42; refine (Tryd.Builder_WriteByte_k w.heap.size w.heap.size _ _ _ h0 (by simp [Lib.byteCells]) b0.size).mono ?_)
 rintro e W0 ⟨rfl, g0, c0, _⟩
 go_wp2
 go_loopw [9] (fun i wr => ∃ k : Nat, k ≤ s.size ∧ i = .int .i64 k ∧ Lib.IsBuilderF 59 5 w.heap.size w.heap.size (Lib.byteCells (34 :: ((s.data.toList.take k).map qch).flatten)) wr ∧ Below w.heap.size w wr) (fun i _ => s.size - (intOf i).toNat)
 case atStart => exact ⟨0, by omega, rfl, Or.inr g0, b0.trans c0⟩
 case round =>
  obtain ⟨k, hk, rfl, hI, hb⟩ := hrel
  have hl : (34 :: ((s.data.toList.take k).map qch).flatten).length ≤ 3145729 := by
   have := q_len (s.data.toList.take k)
   simp at this ⊢
   omega
  by_cases hlt : k < s.size
  ·have hsl : k < s.data.toList.length := by simpa using hlt
   have hg : s.data.toList[k] = s[k] := by simp; rfl
   have hx : s[k].toNat < 256 := s[k].toNat_lt
   have hext := ext_one s k hlt
   have hs1 : (0 : Int) ≤ (k : Int) := by omega
   have hs2 : (k : Int) ≤ (k : Int) + 1 := by omega
   have hs3 : (k : Int) + 1 ≤ (s.size : Int) := by omega
   by_cases hp : s[k].toNat < 33 ∨ 126 < s[k].toNat ∨ s[k].toNat = 34 ∨ s[k].toNat = 92
   ·have hq : qch s[k] = [92] ++ hexL [s[k]] := by
     unfold qch
     rw [if_pos hp]
     rfl
    go_wp2_with fail
    all_goals first
     | (exfalso; rename_i hh _ _; simp at hh; omega)
     | skip
    all_goals refine (Tryd.Builder_WriteByte_k w.heap.size w.heap.size _ _ _ hI (by rw [Lib.byteCells_length]; omega) hb.size).mono ?_
    all_goals rintro e W1 ⟨rfl, h1, b1, _⟩
    all_goals have hb1 := hb.trans b1
    all_goals go_wp2_with fail
    all_goals refine (Tryd.hex_walk ⟨#[s[k]]⟩ _ (by show 1 ≤ 1048576; omega)).mono ?_
    all_goals rintro e W2 ⟨rfl, b2⟩
    all_goals have hb2 := hb1.trans (b2.mono hb1.size)
    all_goals have h2 := h1.below b2
    all_goals go_wp2_with fail
    all_goals refine (Tryd.Builder_WriteString_k w.heap.size w.heap.size _ _ _ (Or.inr h2) (q140 _ _ hl) hb2.size).mono ?_
    all_goals rintro e W3 ⟨rfl, h3, b3, _⟩
    all_goals rw [show [Value.int IntKind.u8 92] = Lib.byteCells [92] from rfl, Lib.strCells_eq, ← Lib.byteCells_append, ← Lib.byteCells_append, List.append_assoc, show ([92] ++ (ByteArray.mk (hexL [s[k]]).toArray).data.toList) = qch s[k] from hq.symm] at h3
    all_goals go_wp2
    all_goals go_roundw
    case rel | rel | rel | rel =>
     refine ⟨k + 1, by omega, by go_num, ?_, hb2.trans b3⟩
     rw [q_take _ _ hsl, hg]
     exact Or.inr h3
    case measure | measure | measure | measure =>
     simp [intOf]
     omega
   ·have hq : qch s[k] = [s[k]] := by
     unfold qch
     rw [if_neg hp]
    go_wp2_with fail
    all_goals first
     | (exfalso; omega)
     | (exfalso; rename_i hh _ _; simp at hh; omega)
     | (exfalso; rename_i hh _ _ _ _; simp at hh; omega)
     | skip
    refine (Tryd.Builder_WriteByte_k w.heap.size w.heap.size _ _ _ hI (by rw [Lib.byteCells_length]; omega) hb.size).mono ?_
    rintro e W1 ⟨rfl, h1, b1, _⟩
    rw [byteCells_one, ← Lib.byteCells_append, ← hq] at h1
    go_wp2
    go_roundw
    case rel =>
     refine ⟨k + 1, by omega, by go_num, ?_, hb.trans b1⟩
     rw [q_take _ _ hsl, hg]
     exact Or.inr h1
    case measure =>
     simp [intOf]
     omega
  ·go_wp2_with (go_at_call 42; refine (Tryd.Builder_WriteByte_k w.heap.size w.heap.size _ _ _ hI (by rw [Lib.byteCells_length]; omega) hb.size).mono ?_)
   rintro e W1 ⟨rfl, h1, b1, _⟩
   have e1 : Lib.byteCells (34 :: ((s.data.toList.take k).map qch).flatten) ++ [Value.int .u8 34] = Lib.byteCells (quoteL s.data.toList) := by
    have : s.data.toList.take k = s.data.toList := by rw [List.take_of_length_le]; simp; omega
    rw [this, quoteL, Lib.byteCells_append]
    rfl
   rw [e1] at h1
   have hb1 := hb.trans b1
   go_wp2_with (go_at_call 43; refine (Tryd.Builder_String_any_k w.heap.size w.heap.size _ _ (Or.inr h1) hb1.size).mono ?_)
   rintro e W2 ⟨rfl, _, b2, _⟩
   go_wp2
   go_ret
   exact ⟨rfl, hb1.trans b2⟩
end Go.Proofs
