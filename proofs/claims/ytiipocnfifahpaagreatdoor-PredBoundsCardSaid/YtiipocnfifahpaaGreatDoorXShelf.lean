/-
 DERIVED: THE SHELF's CONTRACTS AT THIS DUMP, IN PLAIN WORDS (tools/lay-plain.mjs out of 'TryzShelf.lean', which tools/lay-shelf.mjs wrote): THE SAME DECLARATIONS UNDER THE SAME NAMES: 'import', 'namespace', 'open', 'def', 'theorem' AND NOTHING ELSE: no command of the shelf's: FOR A HAND-IN. Each laying: the table of numbers ('.._ren') and one theorem, a field a fact of the dump's own or the kernel's comparison; each contract: ONE APPLICATION.
-/
import Derived.Shelf.Unicode.ValidAny
import Derived.Shelf.Strings.Builder1
import Derived.Shelf.Strings.Builder2
import Derived.Shelf.Small.Bits
import Derived.Shelf.Small.Strs
import Derived.Shelf.Small.Wraps
import Derived.Shelf.Utf8.RuneCount
import Derived.Shelf.Strconv.Itoa0
import Derived.Shelf.Strings.Search1
import Derived.Shelf.Strings.Search2
import Derived.Shelf.Strings.Search3
import Derived.Shelf.Strings.Count
import Derived.Shelf.LaysM
import Derived.Shelf.Strings.Shaped
import Derived.Shelf.Sort.Plain
import Derived.Shelf.Strings.Split
import Derived.Shelf.Strings.Replace
import Derived.Shelf.Strings.SplitShaped
import Derived.Shelf.Unicode.Decode
import Derived.Shelf.Strings.RuneCount
import Derived.Shelf.Unicode.DecodeSlow
import Derived.Shelf.Unicode.DecodeAny
import Derived.Ground.Names2Prog
import Derived.Shelf.Slices.CompactI
import Derived.Shelf.Slices.SearchI
import Derived.Shelf.Slices.Cells
import Derived.Shelf.Slices.In.SortNone
import Derived.Test.YtiipocnfifahpaaGreatDoorProg
namespace Go.Proofs
open Go.Shelf
def Tryz.lays106_ren : Go.Shelf.Ren := ⟨fun | 106 => 87 | 213 => 95 | 265 => 103 | n => n, fun | 9 => 9 | 3 => 3 | n => n, fun | n => n⟩
theorem Tryz.lays106 : Go.Proofs.Lays.n106 Tryz.prog Tryz.lays106_ren := {
 mixed := by kernel_rfl
 f106 := Tryz.func87.trans (congrArg some (by kernel_rfl))
 f213 := Tryz.func95.trans (congrArg some (by kernel_rfl))
 f265 := Tryz.func103.trans (congrArg some (by kernel_rfl))
 t3 := Tryz.underlying3
 a3 := Tryz.isAgg3
 z3 := Tryz.sizeOf3
 v3 := Tryz.zeroValue3
 t9 := Tryz.underlying9
 a9 := Tryz.isAgg9
 z9 := Tryz.sizeOf9
 v9 := Tryz.zeroValue9 }
open Go.RowKit in
theorem Tryz.strings_Compare (a b : ByteArray) (w : World) :
  Calls Tryz.prog 87 #[.string a, .string b] w fun e w' => e = .returned (.int .i64 (Lib.compareBytes a.data.toList b.data.toList)) ∧ w' = w := Any.strings_Compare Tryz.lays106 a b w
def Tryz.lays189_ren : Go.Shelf.Ren := ⟨fun | 189 => 32 | 125 => 48 | 257 => 47 | 128 => 66 | 129 => 67 | 294 => 57 | 295 => 58 | 296 => 59 | 297 => 60 | 298 => 61 | 299 => 62 | 216 => 63 | 300 => 64 | 301 => 65 | 328 => 77 | 329 => 78 | 330 => 79 | 331 => 80 | 332 => 81 | 215 => 82 | 343 => 92 | n => n, fun | 28 => 45 | 3 => 3 | 46 => 88 | 0 => 0 | 51 => 108 | 53 => 39 | 4 => 4 | 183 => 100 | 182 => 99 | 131 => 105 | 5 => 5 | 9 => 9 | 218 => 120 | 222 => 124 | 228 => 139 | 229 => 140 | n => n, fun | n => n⟩
theorem Tryz.lays189 : Go.Proofs.Lays.n189 Tryz.prog Tryz.lays189_ren := {
 mixed := by kernel_rfl
 f125 := Tryz.func48.trans (congrArg some (by kernel_rfl))
 f128 := Tryz.func66.trans (congrArg some (by kernel_rfl))
 f129 := Tryz.func67.trans (congrArg some (by kernel_rfl))
 f189 := Tryz.func32.trans (congrArg some (by kernel_rfl))
 f215 := Tryz.func82.trans (congrArg some (by kernel_rfl))
 f216 := Tryz.func63.trans (congrArg some (by kernel_rfl))
 f257 := Tryz.func47.trans (congrArg some (by kernel_rfl))
 f294 := Tryz.func57.trans (congrArg some (by kernel_rfl))
 f295 := Tryz.func58.trans (congrArg some (by kernel_rfl))
 f296 := Tryz.func59.trans (congrArg some (by kernel_rfl))
 f297 := Tryz.func60.trans (congrArg some (by kernel_rfl))
 f298 := Tryz.func61.trans (congrArg some (by kernel_rfl))
 f299 := Tryz.func62.trans (congrArg some (by kernel_rfl))
 f300 := Tryz.func64.trans (congrArg some (by kernel_rfl))
 f301 := Tryz.func65.trans (congrArg some (by kernel_rfl))
 f328 := Tryz.func77.trans (congrArg some (by kernel_rfl))
 f329 := Tryz.func78.trans (congrArg some (by kernel_rfl))
 f330 := Tryz.func79.trans (congrArg some (by kernel_rfl))
 f331 := Tryz.func80.trans (congrArg some (by kernel_rfl))
 f332 := Tryz.func81.trans (congrArg some (by kernel_rfl))
 f343 := Tryz.func92.trans (congrArg some (by kernel_rfl))
 t0 := Tryz.underlying0
 a0 := Tryz.isAgg0
 z0 := Tryz.sizeOf0
 v0 := Tryz.zeroValue0
 t3 := Tryz.underlying3
 a3 := Tryz.isAgg3
 z3 := Tryz.sizeOf3
 v3 := Tryz.zeroValue3
 t4 := Tryz.underlying4
 a4 := Tryz.isAgg4
 z4 := Tryz.sizeOf4
 v4 := Tryz.zeroValue4
 t5 := Tryz.underlying5
 a5 := Tryz.isAgg5
 z5 := Tryz.sizeOf5
 v5 := Tryz.zeroValue5
 t9 := Tryz.underlying9
 a9 := Tryz.isAgg9
 z9 := Tryz.sizeOf9
 v9 := Tryz.zeroValue9
 t28 := Tryz.underlying45
 a28 := Tryz.isAgg45
 z28 := Tryz.sizeOf45
 v28 := Tryz.zeroValue45
 t46 := Tryz.underlying88
 a46 := Tryz.isAgg88
 z46 := Tryz.sizeOf88
 v46 := Tryz.zeroValue88
 t51 := Tryz.underlying108
 a51 := Tryz.isAgg108
 z51 := Tryz.sizeOf108
 v51 := Tryz.zeroValue108
 t53 := Tryz.underlying39
 a53 := Tryz.isAgg39
 z53 := Tryz.sizeOf39
 v53 := Tryz.zeroValue39
 t131 := Tryz.underlying105
 a131 := Tryz.isAgg105
 z131 := Tryz.sizeOf105
 v131 := Tryz.zeroValue105
 t182 := Tryz.underlying99
 a182 := Tryz.isAgg99
 z182 := Tryz.sizeOf99
 v182 := Tryz.zeroValue99
 t183 := Tryz.underlying100
 a183 := Tryz.isAgg100
 z183 := Tryz.sizeOf100
 v183 := Tryz.zeroValue100
 t218 := Tryz.underlying120
 a218 := Tryz.isAgg120
 z218 := Tryz.sizeOf120
 v218 := Tryz.zeroValue120
 t222 := Tryz.underlying124
 a222 := Tryz.isAgg124
 z222 := Tryz.sizeOf124
 v222 := Tryz.zeroValue124
 t228 := Tryz.underlying139
 a228 := Tryz.isAgg139
 z228 := Tryz.sizeOf139
 v228 := Tryz.zeroValue139
 t229 := Tryz.underlying140
 a229 := Tryz.isAgg140
 z229 := Tryz.sizeOf140
 v229 := Tryz.zeroValue140 }
open Go.Sort Go.RowKit in
theorem Tryz.slices_Sort_int (blk off cap : Nat) (zs : List Int) (w : World) (hH : Holds (Value.int .i64) w blk off zs.toArray) (hblk : blk < w.heap.size) (hsz : zs.length < 4611686018427387904) :
  Calls Tryz.prog 32 #[.slice (some ⟨blk, off, none⟩) zs.length cap] w fun e w' =>
   e = .returned (.tuple #[]) ∧ ∃ n os, w' = grow (putRow (Value.int .i64) (Sort.ahead w n) blk off (zs.mergeSort fun x y => decide (x ≤ y)).toArray) os := Any.slices_Sort_int Tryz.lays189 blk off cap zs w hH hblk hsz
def Tryz.lays155_ren : Go.Shelf.Ren := ⟨fun | 155 => 74 | 154 => 90 | 138 => 97 | 165 => 98 | 143 => 99 | 166 => 100 | 197 => 101 | 169 => 102 | 195 => 104 | 218 => 105 | 240 => 106 | 241 => 107 | 219 => 108 | 260 => 109 | 276 => 110 | 277 => 111 | 217 => 112 | 225 => 113 | 224 => 114 | 267 => 115 | 266 => 116 | 314 => 117 | n => n, fun | 9 => 9 | 3 => 3 | 4 => 4 | 72 => 148 | 0 => 0 | 76 => 152 | 105 => 154 | 21 => 21 | 5 => 5 | 70 => 146 | 20 => 20 | 37 => 95 | 75 => 151 | 127 => 159 | 164 => 160 | 46 => 88 | 119 => 90 | 139 => 93 | 138 => 92 | 146 => 164 | 51 => 108 | 80 => 156 | n => n, fun | 1 => 2 | 3 => 0 | 4 => 1 | n => n⟩
theorem Tryz.lays155 : Go.Proofs.Lays.n155 Tryz.prog Tryz.lays155_ren := {
 mixed := by kernel_rfl
 f138 := Tryz.func97.trans (congrArg some (by kernel_rfl))
 f143 := Tryz.func99.trans (congrArg some (by kernel_rfl))
 f154 := Tryz.func90.trans (congrArg some (by kernel_rfl))
 f155 := Tryz.func74.trans (congrArg some (by kernel_rfl))
 f165 := Tryz.func98.trans (congrArg some (by kernel_rfl))
 f166 := Tryz.func100.trans (congrArg some (by kernel_rfl))
 f169 := Tryz.func102.trans (congrArg some (by kernel_rfl))
 f195 := Tryz.func104.trans (congrArg some (by kernel_rfl))
 f197 := Tryz.func101.trans (congrArg some (by kernel_rfl))
 f217 := Tryz.func112.trans (congrArg some (by kernel_rfl))
 f218 := Tryz.func105.trans (congrArg some (by kernel_rfl))
 f219 := Tryz.func108.trans (congrArg some (by kernel_rfl))
 f224 := Tryz.func114.trans (congrArg some (by kernel_rfl))
 f225 := Tryz.func113.trans (congrArg some (by kernel_rfl))
 f240 := Tryz.func106.trans (congrArg some (by kernel_rfl))
 f241 := Tryz.func107.trans (congrArg some (by kernel_rfl))
 f260 := Tryz.func109.trans (congrArg some (by kernel_rfl))
 f266 := Tryz.func116.trans (congrArg some (by kernel_rfl))
 f267 := Tryz.func115.trans (congrArg some (by kernel_rfl))
 f276 := Tryz.func110.trans (congrArg some (by kernel_rfl))
 f277 := Tryz.func111.trans (congrArg some (by kernel_rfl))
 f314 := Tryz.func117.trans (congrArg some (by kernel_rfl))
 t0 := Tryz.underlying0
 a0 := Tryz.isAgg0
 z0 := Tryz.sizeOf0
 v0 := Tryz.zeroValue0
 t3 := Tryz.underlying3
 a3 := Tryz.isAgg3
 z3 := Tryz.sizeOf3
 v3 := Tryz.zeroValue3
 t4 := Tryz.underlying4
 a4 := Tryz.isAgg4
 z4 := Tryz.sizeOf4
 v4 := Tryz.zeroValue4
 t5 := Tryz.underlying5
 a5 := Tryz.isAgg5
 z5 := Tryz.sizeOf5
 v5 := Tryz.zeroValue5
 t9 := Tryz.underlying9
 a9 := Tryz.isAgg9
 z9 := Tryz.sizeOf9
 v9 := Tryz.zeroValue9
 t20 := Tryz.underlying20
 a20 := Tryz.isAgg20
 z20 := Tryz.sizeOf20
 v20 := Tryz.zeroValue20
 t21 := Tryz.underlying21
 a21 := Tryz.isAgg21
 z21 := Tryz.sizeOf21
 v21 := Tryz.zeroValue21
 t37 := Tryz.underlying95
 a37 := Tryz.isAgg95
 z37 := Tryz.sizeOf95
 v37 := Tryz.zeroValue95
 t46 := Tryz.underlying88
 a46 := Tryz.isAgg88
 z46 := Tryz.sizeOf88
 v46 := Tryz.zeroValue88
 t51 := Tryz.underlying108
 a51 := Tryz.isAgg108
 z51 := Tryz.sizeOf108
 v51 := Tryz.zeroValue108
 t70 := Tryz.underlying146
 a70 := Tryz.isAgg146
 z70 := Tryz.sizeOf146
 v70 := Tryz.zeroValue146
 t72 := Tryz.underlying148
 a72 := Tryz.isAgg148
 z72 := Tryz.sizeOf148
 v72 := Tryz.zeroValue148
 t75 := Tryz.underlying151
 a75 := Tryz.isAgg151
 z75 := Tryz.sizeOf151
 v75 := Tryz.zeroValue151
 t76 := Tryz.underlying152
 a76 := Tryz.isAgg152
 z76 := Tryz.sizeOf152
 v76 := Tryz.zeroValue152
 t105 := Tryz.underlying154
 a105 := Tryz.isAgg154
 z105 := Tryz.sizeOf154
 v105 := Tryz.zeroValue154
 t119 := Tryz.underlying90
 a119 := Tryz.isAgg90
 z119 := Tryz.sizeOf90
 t127 := Tryz.underlying159
 a127 := Tryz.isAgg159
 z127 := Tryz.sizeOf159
 v127 := Tryz.zeroValue159
 t138 := Tryz.underlying92
 a138 := Tryz.isAgg92
 z138 := Tryz.sizeOf92
 v138 := Tryz.zeroValue92
 t139 := Tryz.underlying93
 a139 := Tryz.isAgg93
 z139 := Tryz.sizeOf93
 v139 := Tryz.zeroValue93
 t146 := Tryz.underlying164
 a146 := Tryz.isAgg164
 z146 := Tryz.sizeOf164
 v146 := Tryz.zeroValue164
 t164 := Tryz.underlying160
 a164 := Tryz.isAgg160
 z164 := Tryz.sizeOf160
 v164 := Tryz.zeroValue160
 g1 := by kernel_rfl
 g3 := by kernel_rfl
 g4 := by kernel_rfl }
theorem Tryz.Builder_Extra_155 : Builder.Extra Tryz.prog Tryz.lays155_ren := {
 sizeBuilder := by kernel_rfl
 liesBuilder := by kernel_rfl
 t5 := Tryz.underlying5
 a5 := Tryz.isAgg5
 z5 := Tryz.sizeOf5
 v5 := Tryz.zeroValue5
 infoByte := by kernel_rfl
 cellsByte := by kernel_rfl
 sizeByte := by kernel_rfl
 neB5 := by decide }
open Go.RowKit Go.Lib in
theorem Tryz.strings_ReplaceAll (s old new : ByteArray) (m : Int) (w : World) (hs : s.size < 4294967281) (hm : w.cell? ⟨2, 0, none⟩ = some (.int .i64 m)) (h1 : 1 ≤ old.size) (hlen : s.size + Lib.countB s old * new.size ≤ 140737488355328) :
  Calls Tryz.prog 74 #[.string s, .string old, .string new] w fun e w' =>
   e = .returned (.string ⟨(Lib.replaceAll s.data.toList old.data.toList new.data.toList).toArray⟩) ∧ Below w.heap.size w w' := Any.strings_ReplaceAll Tryz.lays155 Tryz.Builder_Extra_155 s old new m w hs hm h1 hlen
def Tryz.laysNm220_ren : Go.Shelf.Ren := ⟨fun | 20 => 33 | n => n, fun | 22 => 45 | 3 => 3 | 4 => 4 | 0 => 0 | n => n, fun | n => n⟩
theorem Tryz.laysNm220 : Go.Proofs.Lays2.n20 Tryz.prog Tryz.laysNm220_ren := {
 mixed := by kernel_rfl
 f20 := Tryz.func33.trans (congrArg some (by kernel_rfl))
 t0 := Tryz.underlying0
 a0 := Tryz.isAgg0
 z0 := Tryz.sizeOf0
 v0 := Tryz.zeroValue0
 t3 := Tryz.underlying3
 a3 := Tryz.isAgg3
 z3 := Tryz.sizeOf3
 v3 := Tryz.zeroValue3
 t4 := Tryz.underlying4
 a4 := Tryz.isAgg4
 z4 := Tryz.sizeOf4
 v4 := Tryz.zeroValue4
 t22 := Tryz.underlying45
 a22 := Tryz.isAgg45
 z22 := Tryz.sizeOf45
 v22 := Tryz.zeroValue45
 i3 := by kernel_rfl }
open Go.RowKit Go.Lib Go.Sort in
theorem Tryz.slices_Compact_int (blk off cap : Nat) (zs : List Int) (w : World) (hH : Holds (Value.int .i64) w blk off zs.toArray) (hsz : zs.length ≤ 9223372036854775807) (hcap : zs.length ≤ cap) :
  Calls Tryz.prog 33 #[.slice (some ⟨blk, off, none⟩) zs.length cap] w fun e w' => e = .returned (.slice (some ⟨blk, off, none⟩) (Lib.compact zs).length cap) ∧ ∃ q, w' = putRow (Value.int .i64) (Sort.ahead w q) blk off (Lib.compact zs ++ List.replicate (zs.length - (Lib.compact zs).length) 0).toArray := Any.slices_Compact_int Tryz.laysNm220 blk off cap zs w hH hsz hcap
open Go.RowKit Go.Lib Go.Sort in
theorem Tryz.slices_Compact_int_empty (a : Option Addr) (cap : Nat) (w : World) :
  Calls Tryz.prog 33 #[.slice a 0 cap] w fun e w' => e = .returned (.slice a 0 cap) ∧ w' = w := Any.slices_Compact_int_empty Tryz.laysNm220 a cap w
open Go.RowKit Go.Sort in
theorem Tryz.slices_Sort_int_none (p : Option Addr) (cap : Nat) (w : World) :
  Calls Tryz.prog 32 #[.slice p 0 cap] w fun e w' => e = .returned (.tuple #[]) ∧ w' = w := Any.slices_Sort_int_none Tryz.lays189 p cap w
def Tryz.laysValid_ren : Go.Shelf.Ren := ⟨fun | 196 => 34 | 259 => 49 | n => n, fun | 9 => 9 | 4 => 4 | 3 => 3 | 5 => 5 | 12 => 12 | 119 => 90 | 0 => 0 | 46 => 88 | 139 => 93 | 138 => 92 | 53 => 39 | n => n, fun | 3 => 0 | 4 => 1 | n => n⟩
theorem Tryz.laysValid : Go.Proofs.Lays.n196 Tryz.prog Tryz.laysValid_ren := {
 mixed := by kernel_rfl
 f196 := Tryz.func34.trans (congrArg some (by kernel_rfl))
 f259 := Tryz.func49.trans (congrArg some (by kernel_rfl))
 t0 := Tryz.underlying0
 a0 := Tryz.isAgg0
 z0 := Tryz.sizeOf0
 v0 := Tryz.zeroValue0
 t3 := Tryz.underlying3
 a3 := Tryz.isAgg3
 z3 := Tryz.sizeOf3
 v3 := Tryz.zeroValue3
 t4 := Tryz.underlying4
 a4 := Tryz.isAgg4
 z4 := Tryz.sizeOf4
 v4 := Tryz.zeroValue4
 t5 := Tryz.underlying5
 a5 := Tryz.isAgg5
 z5 := Tryz.sizeOf5
 v5 := Tryz.zeroValue5
 t9 := Tryz.underlying9
 a9 := Tryz.isAgg9
 z9 := Tryz.sizeOf9
 v9 := Tryz.zeroValue9
 t12 := Tryz.underlying12
 a12 := Tryz.isAgg12
 z12 := Tryz.sizeOf12
 v12 := Tryz.zeroValue12
 t46 := Tryz.underlying88
 a46 := Tryz.isAgg88
 z46 := Tryz.sizeOf88
 v46 := Tryz.zeroValue88
 t53 := Tryz.underlying39
 a53 := Tryz.isAgg39
 z53 := Tryz.sizeOf39
 v53 := Tryz.zeroValue39
 t119 := Tryz.underlying90
 a119 := Tryz.isAgg90
 z119 := Tryz.sizeOf90
 t138 := Tryz.underlying92
 a138 := Tryz.isAgg92
 z138 := Tryz.sizeOf92
 v138 := Tryz.zeroValue92
 t139 := Tryz.underlying93
 a139 := Tryz.isAgg93
 z139 := Tryz.sizeOf93
 v139 := Tryz.zeroValue93
 g3 := by kernel_rfl
 g4 := by kernel_rfl }
end Go.Proofs
