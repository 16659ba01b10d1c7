/- How many digits a number has, where the table's cells are known. -/
import Derived.Test.YtihhhgaaagefgaaDoorShelf
import Derived.Lib.Walk
import Derived.Lib.ItoaMem
import Derived.Lib.AppendIntMem
import Derived.Laws.IdiomStrings
import Derived.WalkKit
import Derived.BigCall
import Derived.BigGuard
namespace Go.Proofs
open Go.Shelf Go.RowKit Go.Sort Go.Lib
def Pow10 (w : World) : Prop := ∀ i : Nat, i < 20 → w.cell? ⟨3, i, none⟩ = some (.int .u64 ((10 ^ i : Nat) : Int))
set_option maxHeartbeats 6400000 in
set_option maxRecDepth 100000 in
theorem Tryd.numDigits_at (u : Nat) (h1 : 1 ≤ u) (h2 : u < 18446744073709551616) (w : World) (hc : Pow10 w) :
  Calls Tryd.prog 59 #[.int .u64 u] w fun e w' => e = .returned (.int .i64 (Lib.nDigits u)) ∧ w' = w := by
 obtain ⟨hnd, h19⟩ := Lib.numDigits_eq u h1 h2
 have hL : Lib.bitLen u ≤ 64 := Lib.bitLen_le u 64 (Nat.le_refl _) h2
 have hcell := hc (Lib.l10 (Lib.bitLen u)) (by omega)
 have hto : ((u : Int)).toNat = u := by omega
 generalize hq : Lib.l10 (Lib.bitLen u) = q at hnd h19 hcell
 generalize hT : 10 ^ q = T at hnd hcell
 have h20 : q < 20 := by omega
 have Hnd := Lib.hid hnd
 clear hnd hc
 go_enter Tryd.func59, Tryd.ntmps59
 go_wp2_with (first
  | (go_at_call 72; refine (Tryd.bits_Len64 _ _ (by omega) (by omega)).mono ?_; rintro e w' ⟨rfl, rfl⟩)
  | (go_at_call 71; refine (Tryd.internal_strconv_log10Pow2 _ (by first | exact hL | (rw [hto]; exact hL)) _).mono ?_; rintro e w' ⟨rfl, rfl⟩)
  | (go_at_call 73; refine (Tryd.internal_strconv_bool2_int _ _).mono ?_; rintro e w' ⟨rfl, rfl⟩))
 all_goals go_ret
 all_goals refine ⟨?_, rfl⟩
 all_goals (
  have hnd := Hnd.out
  congr 2
  split at hnd <;> simp_all <;> omega)
theorem pow10_alloc {w : World} (h : Pow10 w) (o : Obj) : Pow10 (w.alloc o) := fun i hi => by
 have h1 := h i hi
 have hb := (Below.refl w.heap.size w).alloc (Nat.le_refl _) o
 rw [hb.cell (p := ⟨3, i, none⟩) (World.block_lt_of_cell? _ _ h1)]
 exact h1
set_option maxHeartbeats 6400000 in
set_option maxRecDepth 100000 in
theorem Tryd.iFormatUint_at (u : Nat) (hu64 : u < 18446744073709551616) (w : World) (hp : Pow10 w) :
  Calls Tryd.prog 40 #[.int .u64 u, .int .i64 10] w fun e w' => e = .returned (.string ⟨(Lib.decDigits u).toArray⟩) ∧ ∃ k os, w' = grow (w.drewN k) os := by
 by_cases hs : u < 100
 ·go_enter Tryd.func40, Tryd.ntmps40
  go_wp2_with (go_at_call 58; refine (Tryd.internal_strconv_small u hs _).mono ?_; rintro e w' ⟨rfl, rfl⟩)
  go_ret
  exact ⟨rfl, 0, #[], by simp [World.drewN_zero]⟩
 ·have hu1 : 1 ≤ u := by omega
  have hnd20 : Lib.nDigits u ≤ 20 := by have := Lib.numDigits_eq u hu1 hu64; split at this <;> omega
  have hal : Tryd.prog.arrayLen 85 = 24 := by kernel_rfl
  have hsl1 : ∀ W, (Instr.sliceAt 85 (.pointer (some ⟨w.heap.size, 0, none⟩)) none (some (.int .i64 (Lib.nDigits u : Int))) none).run Tryd.prog W = .ok (.slice (some ⟨w.heap.size, 0, none⟩) (Lib.nDigits u) 24) W := fun W => by
   rw [run_sliceAt_array_h W 85 ⟨w.heap.size, 0, none⟩ (by simp [Program.arrayLen, Program.elem, Tryd.underlying85]) .i64 (Lib.nDigits u : Int) (by omega) (by rw [hal]; omega)]
   go_simp
  have hH0 := Lib.holds_zero0 w 85 (Lib.nDigits u) (by omega)
  have hfmt := Tryd.internal_strconv_formatBase10 w.heap.size 0 24 u (Array.replicate (Lib.nDigits u) 0) (w.alloc (.cells Lib.zeros24 85)) hH0 (by rw [Array.size_replicate]; exact Lib.lt_pow_nDigits u) hu64 (by rw [Array.size_replicate]; omega)
  rw [Array.size_replicate] at hfmt
  have HH0 := Lib.hid hH0
  have hp2 := pow10_alloc hp (.cells Lib.zeros24 85)
  clear hH0 hal
  go_enter Tryd.func40, Tryd.ntmps40
  go_wp2_with (go_at_call 59; refine (Tryd.numDigits_at u hu1 hu64 _ hp2).mono ?_; rintro e w' ⟨rfl, rfl⟩)
  refine hfmt.mono ?_
  rintro e w' ⟨rfl, k, v', dk, rfl, hF⟩
  have hcv : (convert 50 9 (.slice (some ⟨w.heap.size, 0, none⟩) (Lib.nDigits u) 24)).run Tryd.prog ((putRow (fun (b : UInt8) => Value.int .u8 (b.toNat : Int)) (w.alloc (.cells Lib.zeros24 85)) w.heap.size 0 dk).drewN k) = .ok (.string ⟨(Lib.decDigits u).toArray⟩) ((putRow (fun (b : UInt8) => Value.int .u8 (b.toNat : Int)) (w.alloc (.cells Lib.zeros24 85)) w.heap.size 0 dk).drewN k) := by
   have h := run_convert_bytes_back (P := Tryd.prog) ((putRow (fun (b : UInt8) => Value.int .u8 (b.toNat : Int)) (w.alloc (.cells Lib.zeros24 85)) w.heap.size 0 dk).drewN k) 50 9 5 ⟨w.heap.size, 0, none⟩ 24 (Lib.decDigits u) Tryd.underlying50 Tryd.underlying5 Tryd.underlying9 (fun j hj => by
    rw [Lib.row_is_numeral hF j hj, Lib.add_plain, World.cell?_drewN]
    exact cell?_putRow (fun (b : UInt8) => Value.int .u8 (b.toNat : Int)) _ w.heap.size 0 _ dk HH0.out (by rw [hF.size, Array.size_replicate]) j (by rw [hF.size]; rw [Lib.decDigits_length] at hj; exact hj))
   rw [Lib.decDigits_length] at h
   exact h
  go_wp2
  go_ret
  obtain ⟨os, eo⟩ := Lib.fin_at w (.cells Lib.zeros24 85) dk k 0
  exact ⟨rfl, k, os, eo⟩
theorem Tryd.FormatUint_at (u : Nat) (hu64 : u < 18446744073709551616) (w : World) (hp : Pow10 w) :
  Calls Tryd.prog 24 #[.int .u64 u, .int .i64 10] w fun e w' => e = .returned (.string ⟨(Lib.decDigits u).toArray⟩) ∧ ∃ k os, w' = grow (w.drewN k) os := by
 go_enter Tryd.func24, Tryd.ntmps24
 go_wp2_with (go_at_call 40; refine (Tryd.iFormatUint_at u hu64 _ hp).mono ?_; rintro e w' ⟨rfl, k, os, rfl⟩)
 go_ret
 exact ⟨rfl, k, os, rfl⟩
set_option maxHeartbeats 6400000 in
set_option maxRecDepth 100000 in
theorem Tryd.iFormatInt_nat (u : Nat) (hu : u ≤ 9223372036854775807) (w : World) (hp : Pow10 w) :
  Calls Tryd.prog 39 #[.int .i64 u, .int .i64 10] w fun e w' => e = .returned (.string ⟨(Lib.decDigits u).toArray⟩) ∧ ∃ k os, w' = grow (w.drewN k) os := by
 have hu64 : u < 18446744073709551616 := by omega
 by_cases hs : u < 100
 ·go_enter Tryd.func39, Tryd.ntmps39
  go_wp2_with (go_at_call 58; refine (Tryd.internal_strconv_small u hs _).mono ?_; rintro e w' ⟨rfl, rfl⟩)
  go_ret
  exact ⟨rfl, 0, #[], by simp [World.drewN_zero]⟩
 ·have hu1 : 1 ≤ u := by omega
  have hnd20 : Lib.nDigits u ≤ 20 := by have := Lib.numDigits_eq u hu1 hu64; split at this <;> omega
  have hal : Tryd.prog.arrayLen 85 = 24 := by kernel_rfl
  have hsl1 : ∀ W, (Instr.sliceAt 85 (.pointer (some ⟨w.heap.size, 0, none⟩)) (some (.int .i64 1)) (some (.int .i64 (1 + (Lib.nDigits u : Int)))) none).run Tryd.prog W = .ok (.slice (some ⟨w.heap.size, 1, none⟩) (Lib.nDigits u) 23) W := fun W => by
   rw [run_sliceAt_array_lh W 85 ⟨w.heap.size, 0, none⟩ (by simp [Program.arrayLen, Program.elem, Tryd.underlying85]) .i64 .i64 1 (1 + (Lib.nDigits u : Int)) (by omega) (by omega) (by rw [hal]; omega)]
   go_simp
   omega
  have hH0 := Lib.holds_zero w 85 (Lib.nDigits u) (by omega)
  have hfmt := Tryd.internal_strconv_formatBase10 w.heap.size 1 23 u (Array.replicate (Lib.nDigits u) 0) (w.alloc (.cells Lib.zeros24 85)) hH0 (by rw [Array.size_replicate]; exact Lib.lt_pow_nDigits u) hu64 (by rw [Array.size_replicate]; omega)
  rw [Array.size_replicate] at hfmt
  have HH0 := Lib.hid hH0
  have hp2 := pow10_alloc hp (.cells Lib.zeros24 85)
  have hb3 : Lib.nDigits u ≤ 23 := by omega
  clear hH0 hal
  go_enter Tryd.func39, Tryd.ntmps39
  go_wp2_with (go_at_call 59; refine (Tryd.numDigits_at u hu1 hu64 _ hp2).mono ?_; rintro e w' ⟨rfl, rfl⟩)
  go_at_call 60
  refine hfmt.mono ?_
  rintro e w' ⟨rfl, k, v', dk, rfl, hF⟩
  have hcv : (convert 50 9 (.slice (some ⟨w.heap.size, 1, none⟩) (Lib.nDigits u) 23)).run Tryd.prog ((putRow (fun (b : UInt8) => Value.int .u8 (b.toNat : Int)) (w.alloc (.cells Lib.zeros24 85)) w.heap.size 1 dk).drewN k) = .ok (.string ⟨(Lib.decDigits u).toArray⟩) ((putRow (fun (b : UInt8) => Value.int .u8 (b.toNat : Int)) (w.alloc (.cells Lib.zeros24 85)) w.heap.size 1 dk).drewN k) := by
   have h := run_convert_bytes_back (P := Tryd.prog) ((putRow (fun (b : UInt8) => Value.int .u8 (b.toNat : Int)) (w.alloc (.cells Lib.zeros24 85)) w.heap.size 1 dk).drewN k) 50 9 5 ⟨w.heap.size, 1, none⟩ 23 (Lib.decDigits u) Tryd.underlying50 Tryd.underlying5 Tryd.underlying9 (fun j hj => by
    rw [Lib.row_is_numeral hF j hj, Lib.add_plain, World.cell?_drewN]
    exact cell?_putRow (fun (b : UInt8) => Value.int .u8 (b.toNat : Int)) _ w.heap.size 1 _ dk HH0.out (by rw [hF.size, Array.size_replicate]) j (by rw [hF.size]; rw [Lib.decDigits_length] at hj; exact hj))
   rw [Lib.decDigits_length] at h
   exact h
  go_wp2
  go_ret
  obtain ⟨os, eo⟩ := Lib.fin_pos w (.cells Lib.zeros24 85) dk k
  exact ⟨rfl, k, os, eo⟩
set_option maxHeartbeats 6400000 in
set_option maxRecDepth 100000 in
theorem Tryd.iFormatInt_neg (u : Nat) (hu1 : 1 ≤ u) (hu : u ≤ 9223372036854775808) (w : World) (hp : Pow10 w) :
  Calls Tryd.prog 39 #[.int .i64 (-(u : Int)), .int .i64 10] w fun e w' => e = .returned (.string ⟨(45 :: Lib.decDigits u).toArray⟩) ∧ ∃ k os, w' = grow (w.drewN k) os := by
 have hu64 : u < 18446744073709551616 := by omega
 have hnd20 : Lib.nDigits u ≤ 20 := by have := Lib.numDigits_eq u hu1 hu64; split at this <;> omega
 have hwr : IntKind.u64.wrap (-IntKind.u64.wrap (-(u : Int))) = (u : Int) := by rw [IntKind.wrap_u64, IntKind.wrap_u64]; omega
 have hal : Tryd.prog.arrayLen 85 = 24 := by kernel_rfl
 have hsl1 : ∀ W, (Instr.sliceAt 85 (.pointer (some ⟨w.heap.size, 0, none⟩)) (some (.int .i64 1)) (some (.int .i64 (1 + (Lib.nDigits u : Int)))) none).run Tryd.prog W = .ok (.slice (some ⟨w.heap.size, 1, none⟩) (Lib.nDigits u) 23) W := fun W => by
  rw [run_sliceAt_array_lh W 85 ⟨w.heap.size, 0, none⟩ (by simp [Program.arrayLen, Program.elem, Tryd.underlying85]) .i64 .i64 1 (1 + (Lib.nDigits u : Int)) (by omega) (by omega) (by rw [hal]; omega)]
  go_simp
  omega
 have hH0 := Lib.holds_zero w 85 (Lib.nDigits u) (by omega)
 have hfmt := Tryd.internal_strconv_formatBase10 w.heap.size 1 23 u (Array.replicate (Lib.nDigits u) 0) (w.alloc (.cells Lib.zeros24 85)) hH0 (by rw [Array.size_replicate]; exact Lib.lt_pow_nDigits u) hu64 (by rw [Array.size_replicate]; omega)
 rw [Array.size_replicate] at hfmt
 have HH0 := Lib.hid hH0
 have hp2 := pow10_alloc hp (.cells Lib.zeros24 85)
 have hb3 : Lib.nDigits u ≤ 23 := by omega
 clear hH0 hal
 go_enter Tryd.func39, Tryd.ntmps39
 go_wp2_with (go_at_call 59; refine (Tryd.numDigits_at u hu1 hu64 _ hp2).mono ?_; rintro e w' ⟨rfl, rfl⟩)
 go_at_call 60
 refine hfmt.mono ?_
 rintro e w' ⟨rfl, k, v', dk, rfl, hF⟩
 have hc0 : ((putRow (fun (b : UInt8) => Value.int .u8 (b.toNat : Int)) (w.alloc (.cells Lib.zeros24 85)) w.heap.size 1 dk).drewN k).cell? ⟨w.heap.size, 0, none⟩ = some (.int .u8 0) := by
  rw [World.cell?_drewN, cell?_putRow_other _ _ _ _ _ _ (Or.inr (Or.inl (Nat.zero_lt_one))), World.cell?_alloc_new]
  exact Lib.zeros24_at 0 (by omega)
 have hf0 : ((putRow (fun (b : UInt8) => Value.int .u8 (b.toNat : Int)) (w.alloc (.cells Lib.zeros24 85)) w.heap.size 1 dk).drewN k).frozen? ⟨w.heap.size, 0, none⟩ = false := by
  rw [World.frozen?_drewN, frozen?_putRow]
  exact World.frozen?_alloc_new _ _ _ _
 have hal : Tryd.prog.arrayLen 85 = 24 := by kernel_rfl
 have hsl2 : ∀ W, (Instr.sliceAt 85 (.pointer (some ⟨w.heap.size, 0, none⟩)) none (some (.int .i64 (1 + (Lib.nDigits u : Int)))) none).run Tryd.prog W = .ok (.slice (some ⟨w.heap.size, 0, none⟩) (1 + Lib.nDigits u) 24) W := fun W => by
  rw [run_sliceAt_array_h W 85 ⟨w.heap.size, 0, none⟩ (by simp [Program.arrayLen, Program.elem, Tryd.underlying85]) .i64 (1 + (Lib.nDigits u : Int)) (by omega) (by rw [hal]; omega)]
  go_simp
  omega
 clear hal
 have hcv : (convert 50 9 (.slice (some ⟨w.heap.size, 0, none⟩) (1 + Lib.nDigits u) 24)).run Tryd.prog (((putRow (fun (b : UInt8) => Value.int .u8 (b.toNat : Int)) (w.alloc (.cells Lib.zeros24 85)) w.heap.size 1 dk).drewN k).setCell ⟨w.heap.size, 0, none⟩ (.int .u8 45)) = .ok (.string ⟨(45 :: Lib.decDigits u).toArray⟩) (((putRow (fun (b : UInt8) => Value.int .u8 (b.toNat : Int)) (w.alloc (.cells Lib.zeros24 85)) w.heap.size 1 dk).drewN k).setCell ⟨w.heap.size, 0, none⟩ (.int .u8 45)) := by
  have h := run_convert_bytes_back (P := Tryd.prog) (((putRow (fun (b : UInt8) => Value.int .u8 (b.toNat : Int)) (w.alloc (.cells Lib.zeros24 85)) w.heap.size 1 dk).drewN k).setCell ⟨w.heap.size, 0, none⟩ (.int .u8 45)) 50 9 5 ⟨w.heap.size, 0, none⟩ 24 (45 :: Lib.decDigits u) Tryd.underlying50 Tryd.underlying5 Tryd.underlying9 (fun j hj => by
   rw [Lib.add_plain]
   cases j with
   | zero => exact World.cell?_setCell_same _ _ _ hc0
   | succ i =>
    have hi : i < (Lib.decDigits u).length := by simpa using hj
    rw [World.cell?_setCell_other _ _ _ _ (by simp), List.getElem_cons_succ, Lib.row_is_numeral hF i hi, World.cell?_drewN, show 0 + (i + 1) = 1 + i by omega]
    exact cell?_putRow (fun (b : UInt8) => Value.int .u8 (b.toNat : Int)) _ w.heap.size 1 _ dk HH0.out (by rw [hF.size, Array.size_replicate]) i (by rw [hF.size]; rw [Lib.decDigits_length] at hi; exact hi))
  rw [List.length_cons, Lib.decDigits_length, Nat.add_comm] at h
  exact h
 go_wp2
 go_ret
 obtain ⟨os, eo⟩ := Lib.fin_neg w (.cells Lib.zeros24 85) dk k (.int .u8 45)
 exact ⟨rfl, k, os, eo⟩
theorem Tryd.FormatInt_at (n : Int) (h0 : -9223372036854775808 ≤ n) (h1 : n ≤ 9223372036854775807) (w : World) (hp : Pow10 w) :
  Calls Tryd.prog 23 #[.int .i64 n, .int .i64 10] w fun e w' => e = .returned (.string ⟨(Lib.itoa n).toArray⟩) ∧ ∃ k os, w' = grow (w.drewN k) os := by
 have h : Calls Tryd.prog 39 #[.int .i64 n, .int .i64 10] w fun e w' => e = .returned (.string ⟨(Lib.itoa n).toArray⟩) ∧ ∃ k os, w' = grow (w.drewN k) os := by
  by_cases hn : n < 0
  ·obtain ⟨u, rfl⟩ : ∃ u : Nat, n = -(u : Int) := ⟨n.natAbs, by omega⟩
   rw [Lib.itoa_neg u (by omega)]
   exact Tryd.iFormatInt_neg u (by omega) (by omega) w hp
  ·obtain ⟨u, rfl⟩ : ∃ u : Nat, n = u := ⟨n.toNat, by omega⟩
   rw [Lib.itoa_nonneg]
   exact Tryd.iFormatInt_nat u (by omega) w hp
 go_enter Tryd.func23, Tryd.ntmps23
 go_wp2_with (go_at_call 39; refine h.mono ?_; rintro e w' ⟨rfl, k, os, rfl⟩)
 go_ret
 exact ⟨rfl, k, os, rfl⟩
end Go.Proofs
