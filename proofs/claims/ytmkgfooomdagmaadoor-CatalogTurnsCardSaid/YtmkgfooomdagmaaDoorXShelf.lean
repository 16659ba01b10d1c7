/-
 DERIVED: THE SHELF's CONTRACTS AT THIS DUMP, IN PLAIN WORDS (tools/lay-plain.mjs out of 'TrydShelf.lean', which tools/lay-shelf.mjs wrote): THE SAME DECLARATIONS UNDER THE SAME NAMES: 'import', 'namespace', 'open', 'def', 'theorem' AND NOTHING ELSE: no command of the shelf's: FOR A HAND-IN. Each laying: the table of numbers ('.._ren') and one theorem, a field a fact of the dump's own or the kernel's comparison; each contract: ONE APPLICATION.
-/
import Derived.Ground.Names2Prog
import Derived.Shelf.Unicode.ValidAny
import Derived.Shelf.Small.Bits
import Derived.Shelf.Small.Wraps
import Derived.Shelf.Strconv.Itoa0
import Derived.Shelf.Sort.Plain
import Derived.Shelf.Strings.Prefix
import Derived.Shelf.Slices.Turned
import Derived.Shelf.Slices.CompactS
import Derived.Shelf.Slices.Cells
import Derived.Shelf.Slices.In.SortNone
import Derived.Test.YtmkgfooomdagmaaDoorProg
namespace Go.Proofs
open Go.Shelf
def Tryd.lays103_ren : Go.Shelf.Ren := ⟨fun | 103 => 41 | 210 => 71 | 206 => 95 | n => n, fun | 9 => 9 | 4 => 4 | 24 => 68 | 3 => 3 | n => n, fun | n => n⟩
theorem Tryd.lays103 : Go.Proofs.Lays.n103 Tryd.prog Tryd.lays103_ren := {
 mixed := by kernel_rfl
 f103 := Tryd.func41.trans (congrArg some (by kernel_rfl))
 f206 := Tryd.func95.trans (congrArg some (by kernel_rfl))
 f210 := Tryd.func71.trans (congrArg some (by kernel_rfl))
 t3 := Tryd.underlying3
 a3 := Tryd.isAgg3
 z3 := Tryd.sizeOf3
 v3 := Tryd.zeroValue3
 t4 := Tryd.underlying4
 a4 := Tryd.isAgg4
 z4 := Tryd.sizeOf4
 v4 := Tryd.zeroValue4
 t9 := Tryd.underlying9
 a9 := Tryd.isAgg9
 z9 := Tryd.sizeOf9
 v9 := Tryd.zeroValue9
 t24 := Tryd.underlying68
 a24 := Tryd.isAgg68
 z24 := Tryd.sizeOf68
 v24 := Tryd.zeroValue68 }
open Go.RowKit in
theorem Tryd.strings_CutPrefix (s p : ByteArray) (w : World) :
  Calls Tryd.prog 41 #[.string s, .string p] w fun e w' => e = .returned (.tuple #[.string ⟨(Lib.trimPrefix s.data.toList p.data.toList).toArray⟩, .bool (Lib.hasPrefix s.data.toList p.data.toList)]) ∧ w' = w := Any.strings_CutPrefix Tryd.lays103 s p w
def Tryd.lays190_ren : Go.Shelf.Ren := ⟨fun | 190 => 16 | 125 => 31 | 258 => 30 | 128 => 58 | 129 => 59 | 302 => 49 | 303 => 50 | 304 => 51 | 305 => 52 | 306 => 53 | 307 => 54 | 308 => 55 | 309 => 56 | 310 => 57 | 333 => 83 | 329 => 84 | 330 => 85 | 334 => 86 | 335 => 87 | 336 => 88 | 344 => 98 | n => n, fun | 31 => 65 | 9 => 9 | 3 => 3 | 46 => 95 | 0 => 0 | 51 => 128 | 53 => 35 | 4 => 4 | 183 => 120 | 182 => 119 | 131 => 125 | 5 => 5 | 218 => 148 | 222 => 151 | 228 => 162 | 229 => 163 | n => n, fun | n => n⟩
theorem Tryd.lays190 : Go.Proofs.Lays.n190 Tryd.prog Tryd.lays190_ren := {
 mixed := by kernel_rfl
 f125 := Tryd.func31.trans (congrArg some (by kernel_rfl))
 f128 := Tryd.func58.trans (congrArg some (by kernel_rfl))
 f129 := Tryd.func59.trans (congrArg some (by kernel_rfl))
 f190 := Tryd.func16.trans (congrArg some (by kernel_rfl))
 f258 := Tryd.func30.trans (congrArg some (by kernel_rfl))
 f302 := Tryd.func49.trans (congrArg some (by kernel_rfl))
 f303 := Tryd.func50.trans (congrArg some (by kernel_rfl))
 f304 := Tryd.func51.trans (congrArg some (by kernel_rfl))
 f305 := Tryd.func52.trans (congrArg some (by kernel_rfl))
 f306 := Tryd.func53.trans (congrArg some (by kernel_rfl))
 f307 := Tryd.func54.trans (congrArg some (by kernel_rfl))
 f308 := Tryd.func55.trans (congrArg some (by kernel_rfl))
 f309 := Tryd.func56.trans (congrArg some (by kernel_rfl))
 f310 := Tryd.func57.trans (congrArg some (by kernel_rfl))
 f329 := Tryd.func84.trans (congrArg some (by kernel_rfl))
 f330 := Tryd.func85.trans (congrArg some (by kernel_rfl))
 f333 := Tryd.func83.trans (congrArg some (by kernel_rfl))
 f334 := Tryd.func86.trans (congrArg some (by kernel_rfl))
 f335 := Tryd.func87.trans (congrArg some (by kernel_rfl))
 f336 := Tryd.func88.trans (congrArg some (by kernel_rfl))
 f344 := Tryd.func98.trans (congrArg some (by kernel_rfl))
 t0 := Tryd.underlying0
 a0 := Tryd.isAgg0
 z0 := Tryd.sizeOf0
 v0 := Tryd.zeroValue0
 t3 := Tryd.underlying3
 a3 := Tryd.isAgg3
 z3 := Tryd.sizeOf3
 v3 := Tryd.zeroValue3
 t4 := Tryd.underlying4
 a4 := Tryd.isAgg4
 z4 := Tryd.sizeOf4
 v4 := Tryd.zeroValue4
 t5 := Tryd.underlying5
 a5 := Tryd.isAgg5
 z5 := Tryd.sizeOf5
 v5 := Tryd.zeroValue5
 t9 := Tryd.underlying9
 a9 := Tryd.isAgg9
 z9 := Tryd.sizeOf9
 v9 := Tryd.zeroValue9
 t31 := Tryd.underlying65
 a31 := Tryd.isAgg65
 z31 := Tryd.sizeOf65
 v31 := Tryd.zeroValue65
 t46 := Tryd.underlying95
 a46 := Tryd.isAgg95
 z46 := Tryd.sizeOf95
 v46 := Tryd.zeroValue95
 t51 := Tryd.underlying128
 a51 := Tryd.isAgg128
 z51 := Tryd.sizeOf128
 v51 := Tryd.zeroValue128
 t53 := Tryd.underlying35
 a53 := Tryd.isAgg35
 z53 := Tryd.sizeOf35
 v53 := Tryd.zeroValue35
 t131 := Tryd.underlying125
 a131 := Tryd.isAgg125
 z131 := Tryd.sizeOf125
 v131 := Tryd.zeroValue125
 t182 := Tryd.underlying119
 a182 := Tryd.isAgg119
 z182 := Tryd.sizeOf119
 v182 := Tryd.zeroValue119
 t183 := Tryd.underlying120
 a183 := Tryd.isAgg120
 z183 := Tryd.sizeOf120
 v183 := Tryd.zeroValue120
 t218 := Tryd.underlying148
 a218 := Tryd.isAgg148
 z218 := Tryd.sizeOf148
 v218 := Tryd.zeroValue148
 t222 := Tryd.underlying151
 a222 := Tryd.isAgg151
 z222 := Tryd.sizeOf151
 v222 := Tryd.zeroValue151
 t228 := Tryd.underlying162
 a228 := Tryd.isAgg162
 z228 := Tryd.sizeOf162
 v228 := Tryd.zeroValue162
 t229 := Tryd.underlying163
 a229 := Tryd.isAgg163
 z229 := Tryd.sizeOf163
 v229 := Tryd.zeroValue163 }
open Go.Sort Go.RowKit in
theorem Tryd.slices_Sort_string (blk off cap : Nat) (ss : List (List UInt8)) (w : World) (hH : Holds encStr w blk off ss.toArray) (hblk : blk < w.heap.size) (hsz : ss.length < 4611686018427387904) :
  Calls Tryd.prog 16 #[.slice (some ⟨blk, off, none⟩) ss.length cap] w fun e w' =>
   e = .returned (.tuple #[]) ∧ ∃ n os, w' = grow (putRow encStr (Sort.ahead w n) blk off (ss.mergeSort fun x y => decide (x ≤ y)).toArray) os := Any.slices_Sort_string Tryd.lays190 blk off cap ss w hH hblk hsz
def Tryd.lays194_ren : Go.Shelf.Ren := ⟨fun | 194 => 17 | n => n, fun | 31 => 65 | 9 => 9 | 3 => 3 | 4 => 4 | 0 => 0 | n => n, fun | n => n⟩
theorem Tryd.lays194 : Go.Proofs.Lays.n194 Tryd.prog Tryd.lays194_ren := {
 mixed := by kernel_rfl
 f194 := Tryd.func17.trans (congrArg some (by kernel_rfl))
 t0 := Tryd.underlying0
 a0 := Tryd.isAgg0
 z0 := Tryd.sizeOf0
 v0 := Tryd.zeroValue0
 t3 := Tryd.underlying3
 a3 := Tryd.isAgg3
 z3 := Tryd.sizeOf3
 v3 := Tryd.zeroValue3
 t4 := Tryd.underlying4
 a4 := Tryd.isAgg4
 z4 := Tryd.sizeOf4
 v4 := Tryd.zeroValue4
 t9 := Tryd.underlying9
 a9 := Tryd.isAgg9
 z9 := Tryd.sizeOf9
 v9 := Tryd.zeroValue9
 t31 := Tryd.underlying65
 a31 := Tryd.isAgg65
 z31 := Tryd.sizeOf65
 v31 := Tryd.zeroValue65 }
open Go.RowKit Go.Lib Go.Sort in
theorem Tryd.slices_Compact_string (blk off cap : Nat) (zs : List (List UInt8)) (w : World) (hH : Holds encStr w blk off zs.toArray) (hsz : zs.length ≤ 9223372036854775807) (hcap : zs.length ≤ cap) :
  Calls Tryd.prog 17 #[.slice (some ⟨blk, off, none⟩) zs.length cap] w fun e w' => e = .returned (.slice (some ⟨blk, off, none⟩) (Lib.compact zs).length cap) ∧ ∃ q, w' = putRow encStr (Sort.ahead w q) blk off (Lib.compact zs ++ List.replicate (zs.length - (Lib.compact zs).length) []).toArray := Any.slices_Compact_string Tryd.lays194 blk off cap zs w hH hsz hcap
open Go.RowKit Go.Lib Go.Sort in
theorem Tryd.slices_Compact_string_empty (a : Option Addr) (cap : Nat) (w : World) :
  Calls Tryd.prog 17 #[.slice a 0 cap] w fun e w' => e = .returned (.slice a 0 cap) ∧ w' = w := Any.slices_Compact_string_empty Tryd.lays194 a cap w
open Go.RowKit Go.Sort in
theorem Tryd.slices_Sort_string_none (p : Option Addr) (cap : Nat) (w : World) :
  Calls Tryd.prog 16 #[.slice p 0 cap] w fun e w' => e = .returned (.tuple #[]) ∧ w' = w := Any.slices_Sort_string_none Tryd.lays190 p cap w
def Tryd.laysValid_ren : Go.Shelf.Ren := ⟨fun | 196 => 103 | 259 => 104 | n => n, fun | 9 => 9 | 4 => 4 | 3 => 3 | 5 => 5 | 12 => 12 | 119 => 169 | 0 => 0 | 46 => 95 | 139 => 172 | 138 => 171 | 53 => 35 | n => n, fun | 3 => 0 | 4 => 1 | n => n⟩
theorem Tryd.laysValid : Go.Proofs.Lays.n196 Tryd.prog Tryd.laysValid_ren := {
 mixed := by kernel_rfl
 f196 := Tryd.func103.trans (congrArg some (by kernel_rfl))
 f259 := Tryd.func104.trans (congrArg some (by kernel_rfl))
 t0 := Tryd.underlying0
 a0 := Tryd.isAgg0
 z0 := Tryd.sizeOf0
 v0 := Tryd.zeroValue0
 t3 := Tryd.underlying3
 a3 := Tryd.isAgg3
 z3 := Tryd.sizeOf3
 v3 := Tryd.zeroValue3
 t4 := Tryd.underlying4
 a4 := Tryd.isAgg4
 z4 := Tryd.sizeOf4
 v4 := Tryd.zeroValue4
 t5 := Tryd.underlying5
 a5 := Tryd.isAgg5
 z5 := Tryd.sizeOf5
 v5 := Tryd.zeroValue5
 t9 := Tryd.underlying9
 a9 := Tryd.isAgg9
 z9 := Tryd.sizeOf9
 v9 := Tryd.zeroValue9
 t12 := Tryd.underlying12
 a12 := Tryd.isAgg12
 z12 := Tryd.sizeOf12
 v12 := Tryd.zeroValue12
 t46 := Tryd.underlying95
 a46 := Tryd.isAgg95
 z46 := Tryd.sizeOf95
 v46 := Tryd.zeroValue95
 t53 := Tryd.underlying35
 a53 := Tryd.isAgg35
 z53 := Tryd.sizeOf35
 v53 := Tryd.zeroValue35
 t119 := Tryd.underlying169
 a119 := Tryd.isAgg169
 z119 := Tryd.sizeOf169
 t138 := Tryd.underlying171
 a138 := Tryd.isAgg171
 z138 := Tryd.sizeOf171
 v138 := Tryd.zeroValue171
 t139 := Tryd.underlying172
 a139 := Tryd.isAgg172
 z139 := Tryd.sizeOf172
 v139 := Tryd.zeroValue172
 g3 := by kernel_rfl
 g4 := by kernel_rfl }
end Go.Proofs
