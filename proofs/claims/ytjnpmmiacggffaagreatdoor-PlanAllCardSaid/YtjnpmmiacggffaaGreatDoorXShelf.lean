/-
 DERIVED: THE SHELF's CONTRACTS AT THIS DUMP, IN PLAIN WORDS (tools/lay-plain.mjs out of 'TryzShelf.lean', which tools/lay-shelf.mjs wrote): THE SAME DECLARATIONS UNDER THE SAME NAMES: 'import', 'namespace', 'open', 'def', 'theorem' AND NOTHING ELSE: no command of the shelf's: FOR A HAND-IN. Each laying: the table of numbers ('.._ren') and one theorem, a field a fact of the dump's own or the kernel's comparison; each contract: ONE APPLICATION.
-/
import Derived.Shelf.Unicode.ValidAny
import Derived.Shelf.Strings.Builder1
import Derived.Shelf.Strings.Builder2
import Derived.Shelf.Small.Bits
import Derived.Shelf.Small.Strs
import Derived.Shelf.Small.Wraps
import Derived.Shelf.Strings.BuilderF
import Derived.Shelf.Strings.BuilderK
import Derived.Shelf.Utf8.RuneCount
import Derived.Shelf.Strings.Builder2Cap
import Derived.Shelf.Strconv.Itoa0
import Derived.Shelf.Strings.Search1
import Derived.Shelf.Strings.Search2
import Derived.Shelf.Strings.Search3
import Derived.Shelf.Strings.Count
import Derived.Shelf.LaysM
import Derived.Shelf.Strings.Shaped
import Derived.Shelf.Sort.Plain
import Derived.Shelf.Strings.Split
import Derived.Shelf.Strings.Replace
import Derived.Shelf.Strings.SplitShaped
import Derived.Shelf.Unicode.Decode
import Derived.Shelf.Strings.RuneCount
import Derived.Shelf.Unicode.DecodeSlow
import Derived.Shelf.Unicode.DecodeAny
import Derived.Shelf.Strings.BuilderCap
import Derived.Shelf.Slices.Turned
import Derived.Ground.Names2Prog
import Derived.Shelf.Slices.CompactI
import Derived.Shelf.Slices.SearchI
import Derived.Shelf.Slices.Cells
import Derived.Shelf.Slices.In.SortNone
import Derived.Ground.SlgnProg
import Derived.Shelf.SlicesG.SearchI
import Derived.Ground.SlgcProg
import Derived.Shelf.SlicesG.Cmp
import Derived.Test.YtjnpmmiacggffaaGreatDoorProg
namespace Go.Proofs
open Go.Shelf
def Tryz.lays106_ren : Go.Shelf.Ren := ⟨fun | 106 => 152 | 213 => 156 | 265 => 163 | n => n, fun | 9 => 9 | 3 => 3 | n => n, fun | n => n⟩
theorem Tryz.lays106 : Go.Proofs.Lays.n106 Tryz.prog Tryz.lays106_ren := {
 mixed := by kernel_rfl
 f106 := Tryz.func152.trans (congrArg some (by kernel_rfl))
 f213 := Tryz.func156.trans (congrArg some (by kernel_rfl))
 f265 := Tryz.func163.trans (congrArg some (by kernel_rfl))
 t3 := Tryz.underlying3
 a3 := Tryz.isAgg3
 z3 := Tryz.sizeOf3
 v3 := Tryz.zeroValue3
 t9 := Tryz.underlying9
 a9 := Tryz.isAgg9
 z9 := Tryz.sizeOf9
 v9 := Tryz.zeroValue9 }
open Go.RowKit in
theorem Tryz.strings_Compare (a b : ByteArray) (w : World) :
  Calls Tryz.prog 152 #[.string a, .string b] w fun e w' => e = .returned (.int .i64 (Lib.compareBytes a.data.toList b.data.toList)) ∧ w' = w := Any.strings_Compare Tryz.lays106 a b w
def Tryz.lays189_ren : Go.Shelf.Ren := ⟨fun | 189 => 37 | 125 => 69 | 257 => 68 | 128 => 114 | 129 => 115 | 294 => 105 | 295 => 106 | 296 => 107 | 297 => 108 | 298 => 109 | 299 => 110 | 216 => 111 | 300 => 112 | 301 => 113 | 328 => 133 | 329 => 134 | 330 => 135 | 331 => 136 | 332 => 137 | 215 => 138 | 343 => 146 | n => n, fun | 28 => 23 | 3 => 3 | 46 => 129 | 0 => 0 | 51 => 173 | 53 => 72 | 4 => 4 | 183 => 165 | 182 => 164 | 131 => 170 | 5 => 5 | 9 => 9 | 218 => 189 | 222 => 193 | 228 => 202 | 229 => 203 | n => n, fun | n => n⟩
theorem Tryz.lays189 : Go.Proofs.Lays.n189 Tryz.prog Tryz.lays189_ren := {
 mixed := by kernel_rfl
 f125 := Tryz.func69.trans (congrArg some (by kernel_rfl))
 f128 := Tryz.func114.trans (congrArg some (by kernel_rfl))
 f129 := Tryz.func115.trans (congrArg some (by kernel_rfl))
 f189 := Tryz.func37.trans (congrArg some (by kernel_rfl))
 f215 := Tryz.func138.trans (congrArg some (by kernel_rfl))
 f216 := Tryz.func111.trans (congrArg some (by kernel_rfl))
 f257 := Tryz.func68.trans (congrArg some (by kernel_rfl))
 f294 := Tryz.func105.trans (congrArg some (by kernel_rfl))
 f295 := Tryz.func106.trans (congrArg some (by kernel_rfl))
 f296 := Tryz.func107.trans (congrArg some (by kernel_rfl))
 f297 := Tryz.func108.trans (congrArg some (by kernel_rfl))
 f298 := Tryz.func109.trans (congrArg some (by kernel_rfl))
 f299 := Tryz.func110.trans (congrArg some (by kernel_rfl))
 f300 := Tryz.func112.trans (congrArg some (by kernel_rfl))
 f301 := Tryz.func113.trans (congrArg some (by kernel_rfl))
 f328 := Tryz.func133.trans (congrArg some (by kernel_rfl))
 f329 := Tryz.func134.trans (congrArg some (by kernel_rfl))
 f330 := Tryz.func135.trans (congrArg some (by kernel_rfl))
 f331 := Tryz.func136.trans (congrArg some (by kernel_rfl))
 f332 := Tryz.func137.trans (congrArg some (by kernel_rfl))
 f343 := Tryz.func146.trans (congrArg some (by kernel_rfl))
 t0 := Tryz.underlying0
 a0 := Tryz.isAgg0
 z0 := Tryz.sizeOf0
 v0 := Tryz.zeroValue0
 t3 := Tryz.underlying3
 a3 := Tryz.isAgg3
 z3 := Tryz.sizeOf3
 v3 := Tryz.zeroValue3
 t4 := Tryz.underlying4
 a4 := Tryz.isAgg4
 z4 := Tryz.sizeOf4
 v4 := Tryz.zeroValue4
 t5 := Tryz.underlying5
 a5 := Tryz.isAgg5
 z5 := Tryz.sizeOf5
 v5 := Tryz.zeroValue5
 t9 := Tryz.underlying9
 a9 := Tryz.isAgg9
 z9 := Tryz.sizeOf9
 v9 := Tryz.zeroValue9
 t28 := Tryz.underlying23
 a28 := Tryz.isAgg23
 z28 := Tryz.sizeOf23
 v28 := Tryz.zeroValue23
 t46 := Tryz.underlying129
 a46 := Tryz.isAgg129
 z46 := Tryz.sizeOf129
 v46 := Tryz.zeroValue129
 t51 := Tryz.underlying173
 a51 := Tryz.isAgg173
 z51 := Tryz.sizeOf173
 v51 := Tryz.zeroValue173
 t53 := Tryz.underlying72
 a53 := Tryz.isAgg72
 z53 := Tryz.sizeOf72
 v53 := Tryz.zeroValue72
 t131 := Tryz.underlying170
 a131 := Tryz.isAgg170
 z131 := Tryz.sizeOf170
 v131 := Tryz.zeroValue170
 t182 := Tryz.underlying164
 a182 := Tryz.isAgg164
 z182 := Tryz.sizeOf164
 v182 := Tryz.zeroValue164
 t183 := Tryz.underlying165
 a183 := Tryz.isAgg165
 z183 := Tryz.sizeOf165
 v183 := Tryz.zeroValue165
 t218 := Tryz.underlying189
 a218 := Tryz.isAgg189
 z218 := Tryz.sizeOf189
 v218 := Tryz.zeroValue189
 t222 := Tryz.underlying193
 a222 := Tryz.isAgg193
 z222 := Tryz.sizeOf193
 v222 := Tryz.zeroValue193
 t228 := Tryz.underlying202
 a228 := Tryz.isAgg202
 z228 := Tryz.sizeOf202
 v228 := Tryz.zeroValue202
 t229 := Tryz.underlying203
 a229 := Tryz.isAgg203
 z229 := Tryz.sizeOf203
 v229 := Tryz.zeroValue203 }
open Go.Sort Go.RowKit in
theorem Tryz.slices_Sort_int (blk off cap : Nat) (zs : List Int) (w : World) (hH : Holds (Value.int .i64) w blk off zs.toArray) (hblk : blk < w.heap.size) (hsz : zs.length < 4611686018427387904) :
  Calls Tryz.prog 37 #[.slice (some ⟨blk, off, none⟩) zs.length cap] w fun e w' =>
   e = .returned (.tuple #[]) ∧ ∃ n os, w' = grow (putRow (Value.int .i64) (Sort.ahead w n) blk off (zs.mergeSort fun x y => decide (x ≤ y)).toArray) os := Any.slices_Sort_int Tryz.lays189 blk off cap zs w hH hblk hsz
def Tryz.lays155_ren : Go.Shelf.Ren := ⟨fun | 155 => 142 | 154 => 153 | 138 => 157 | 165 => 158 | 143 => 159 | 166 => 160 | 197 => 161 | 169 => 162 | 195 => 164 | 218 => 165 | 240 => 166 | 241 => 167 | 219 => 168 | 260 => 169 | 276 => 170 | 277 => 171 | 217 => 172 | 225 => 173 | 224 => 174 | 267 => 175 | 266 => 176 | 314 => 177 | n => n, fun | 9 => 9 | 3 => 3 | 4 => 4 | 72 => 219 | 0 => 0 | 76 => 223 | 105 => 225 | 21 => 21 | 5 => 5 | 70 => 217 | 20 => 20 | 37 => 156 | 75 => 222 | 127 => 230 | 164 => 231 | 46 => 129 | 119 => 185 | 139 => 188 | 138 => 187 | 146 => 234 | 51 => 173 | 80 => 227 | n => n, fun | 1 => 2 | 3 => 0 | 4 => 1 | n => n⟩
theorem Tryz.lays155 : Go.Proofs.Lays.n155 Tryz.prog Tryz.lays155_ren := {
 mixed := by kernel_rfl
 f138 := Tryz.func157.trans (congrArg some (by kernel_rfl))
 f143 := Tryz.func159.trans (congrArg some (by kernel_rfl))
 f154 := Tryz.func153.trans (congrArg some (by kernel_rfl))
 f155 := Tryz.func142.trans (congrArg some (by kernel_rfl))
 f165 := Tryz.func158.trans (congrArg some (by kernel_rfl))
 f166 := Tryz.func160.trans (congrArg some (by kernel_rfl))
 f169 := Tryz.func162.trans (congrArg some (by kernel_rfl))
 f195 := Tryz.func164.trans (congrArg some (by kernel_rfl))
 f197 := Tryz.func161.trans (congrArg some (by kernel_rfl))
 f217 := Tryz.func172.trans (congrArg some (by kernel_rfl))
 f218 := Tryz.func165.trans (congrArg some (by kernel_rfl))
 f219 := Tryz.func168.trans (congrArg some (by kernel_rfl))
 f224 := Tryz.func174.trans (congrArg some (by kernel_rfl))
 f225 := Tryz.func173.trans (congrArg some (by kernel_rfl))
 f240 := Tryz.func166.trans (congrArg some (by kernel_rfl))
 f241 := Tryz.func167.trans (congrArg some (by kernel_rfl))
 f260 := Tryz.func169.trans (congrArg some (by kernel_rfl))
 f266 := Tryz.func176.trans (congrArg some (by kernel_rfl))
 f267 := Tryz.func175.trans (congrArg some (by kernel_rfl))
 f276 := Tryz.func170.trans (congrArg some (by kernel_rfl))
 f277 := Tryz.func171.trans (congrArg some (by kernel_rfl))
 f314 := Tryz.func177.trans (congrArg some (by kernel_rfl))
 t0 := Tryz.underlying0
 a0 := Tryz.isAgg0
 z0 := Tryz.sizeOf0
 v0 := Tryz.zeroValue0
 t3 := Tryz.underlying3
 a3 := Tryz.isAgg3
 z3 := Tryz.sizeOf3
 v3 := Tryz.zeroValue3
 t4 := Tryz.underlying4
 a4 := Tryz.isAgg4
 z4 := Tryz.sizeOf4
 v4 := Tryz.zeroValue4
 t5 := Tryz.underlying5
 a5 := Tryz.isAgg5
 z5 := Tryz.sizeOf5
 v5 := Tryz.zeroValue5
 t9 := Tryz.underlying9
 a9 := Tryz.isAgg9
 z9 := Tryz.sizeOf9
 v9 := Tryz.zeroValue9
 t20 := Tryz.underlying20
 a20 := Tryz.isAgg20
 z20 := Tryz.sizeOf20
 v20 := Tryz.zeroValue20
 t21 := Tryz.underlying21
 a21 := Tryz.isAgg21
 z21 := Tryz.sizeOf21
 v21 := Tryz.zeroValue21
 t37 := Tryz.underlying156
 a37 := Tryz.isAgg156
 z37 := Tryz.sizeOf156
 v37 := Tryz.zeroValue156
 t46 := Tryz.underlying129
 a46 := Tryz.isAgg129
 z46 := Tryz.sizeOf129
 v46 := Tryz.zeroValue129
 t51 := Tryz.underlying173
 a51 := Tryz.isAgg173
 z51 := Tryz.sizeOf173
 v51 := Tryz.zeroValue173
 t70 := Tryz.underlying217
 a70 := Tryz.isAgg217
 z70 := Tryz.sizeOf217
 v70 := Tryz.zeroValue217
 t72 := Tryz.underlying219
 a72 := Tryz.isAgg219
 z72 := Tryz.sizeOf219
 v72 := Tryz.zeroValue219
 t75 := Tryz.underlying222
 a75 := Tryz.isAgg222
 z75 := Tryz.sizeOf222
 v75 := Tryz.zeroValue222
 t76 := Tryz.underlying223
 a76 := Tryz.isAgg223
 z76 := Tryz.sizeOf223
 v76 := Tryz.zeroValue223
 t105 := Tryz.underlying225
 a105 := Tryz.isAgg225
 z105 := Tryz.sizeOf225
 v105 := Tryz.zeroValue225
 t119 := Tryz.underlying185
 a119 := Tryz.isAgg185
 z119 := Tryz.sizeOf185
 t127 := Tryz.underlying230
 a127 := Tryz.isAgg230
 z127 := Tryz.sizeOf230
 v127 := Tryz.zeroValue230
 t138 := Tryz.underlying187
 a138 := Tryz.isAgg187
 z138 := Tryz.sizeOf187
 v138 := Tryz.zeroValue187
 t139 := Tryz.underlying188
 a139 := Tryz.isAgg188
 z139 := Tryz.sizeOf188
 v139 := Tryz.zeroValue188
 t146 := Tryz.underlying234
 a146 := Tryz.isAgg234
 z146 := Tryz.sizeOf234
 v146 := Tryz.zeroValue234
 t164 := Tryz.underlying231
 a164 := Tryz.isAgg231
 z164 := Tryz.sizeOf231
 v164 := Tryz.zeroValue231
 g1 := by kernel_rfl
 g3 := by kernel_rfl
 g4 := by kernel_rfl }
theorem Tryz.Builder_Extra_155 : Builder.Extra Tryz.prog Tryz.lays155_ren := {
 sizeBuilder := by kernel_rfl
 liesBuilder := by kernel_rfl
 t5 := Tryz.underlying5
 a5 := Tryz.isAgg5
 z5 := Tryz.sizeOf5
 v5 := Tryz.zeroValue5
 infoByte := by kernel_rfl
 cellsByte := by kernel_rfl
 sizeByte := by kernel_rfl
 neB5 := by decide }
open Go.RowKit Go.Lib in
theorem Tryz.strings_ReplaceAll (s old new : ByteArray) (m : Int) (w : World) (hs : s.size < 4294967281) (hm : w.cell? ⟨2, 0, none⟩ = some (.int .i64 m)) (h1 : 1 ≤ old.size) (hlen : s.size + Lib.countB s old * new.size ≤ 140737488355328) :
  Calls Tryz.prog 142 #[.string s, .string old, .string new] w fun e w' =>
   e = .returned (.string ⟨(Lib.replaceAll s.data.toList old.data.toList new.data.toList).toArray⟩) ∧ Below w.heap.size w w' := Any.strings_ReplaceAll Tryz.lays155 Tryz.Builder_Extra_155 s old new m w hs hm h1 hlen
def Tryz.laysNm220_ren : Go.Shelf.Ren := ⟨fun | 20 => 38 | n => n, fun | 22 => 23 | 3 => 3 | 4 => 4 | 0 => 0 | n => n, fun | n => n⟩
theorem Tryz.laysNm220 : Go.Proofs.Lays2.n20 Tryz.prog Tryz.laysNm220_ren := {
 mixed := by kernel_rfl
 f20 := Tryz.func38.trans (congrArg some (by kernel_rfl))
 t0 := Tryz.underlying0
 a0 := Tryz.isAgg0
 z0 := Tryz.sizeOf0
 v0 := Tryz.zeroValue0
 t3 := Tryz.underlying3
 a3 := Tryz.isAgg3
 z3 := Tryz.sizeOf3
 v3 := Tryz.zeroValue3
 t4 := Tryz.underlying4
 a4 := Tryz.isAgg4
 z4 := Tryz.sizeOf4
 v4 := Tryz.zeroValue4
 t22 := Tryz.underlying23
 a22 := Tryz.isAgg23
 z22 := Tryz.sizeOf23
 v22 := Tryz.zeroValue23
 i3 := by kernel_rfl }
open Go.RowKit Go.Lib Go.Sort in
theorem Tryz.slices_Compact_int (blk off cap : Nat) (zs : List Int) (w : World) (hH : Holds (Value.int .i64) w blk off zs.toArray) (hsz : zs.length ≤ 9223372036854775807) (hcap : zs.length ≤ cap) :
  Calls Tryz.prog 38 #[.slice (some ⟨blk, off, none⟩) zs.length cap] w fun e w' => e = .returned (.slice (some ⟨blk, off, none⟩) (Lib.compact zs).length cap) ∧ ∃ q, w' = putRow (Value.int .i64) (Sort.ahead w q) blk off (Lib.compact zs ++ List.replicate (zs.length - (Lib.compact zs).length) 0).toArray := Any.slices_Compact_int Tryz.laysNm220 blk off cap zs w hH hsz hcap
open Go.RowKit Go.Lib Go.Sort in
theorem Tryz.slices_Compact_int_empty (a : Option Addr) (cap : Nat) (w : World) :
  Calls Tryz.prog 38 #[.slice a 0 cap] w fun e w' => e = .returned (.slice a 0 cap) ∧ w' = w := Any.slices_Compact_int_empty Tryz.laysNm220 a cap w
open Go.RowKit Go.Sort in
theorem Tryz.slices_Sort_int_none (p : Option Addr) (cap : Nat) (w : World) :
  Calls Tryz.prog 37 #[.slice p 0 cap] w fun e w' => e = .returned (.tuple #[]) ∧ w' = w := Any.slices_Sort_int_none Tryz.lays189 p cap w
def Tryz.laysValid_ren : Go.Shelf.Ren := ⟨fun | 196 => 104 | 259 => 132 | n => n, fun | 9 => 9 | 4 => 4 | 3 => 3 | 5 => 5 | 12 => 12 | 119 => 185 | 0 => 0 | 46 => 129 | 139 => 188 | 138 => 187 | 53 => 72 | n => n, fun | 3 => 0 | 4 => 1 | n => n⟩
theorem Tryz.laysValid : Go.Proofs.Lays.n196 Tryz.prog Tryz.laysValid_ren := {
 mixed := by kernel_rfl
 f196 := Tryz.func104.trans (congrArg some (by kernel_rfl))
 f259 := Tryz.func132.trans (congrArg some (by kernel_rfl))
 t0 := Tryz.underlying0
 a0 := Tryz.isAgg0
 z0 := Tryz.sizeOf0
 v0 := Tryz.zeroValue0
 t3 := Tryz.underlying3
 a3 := Tryz.isAgg3
 z3 := Tryz.sizeOf3
 v3 := Tryz.zeroValue3
 t4 := Tryz.underlying4
 a4 := Tryz.isAgg4
 z4 := Tryz.sizeOf4
 v4 := Tryz.zeroValue4
 t5 := Tryz.underlying5
 a5 := Tryz.isAgg5
 z5 := Tryz.sizeOf5
 v5 := Tryz.zeroValue5
 t9 := Tryz.underlying9
 a9 := Tryz.isAgg9
 z9 := Tryz.sizeOf9
 v9 := Tryz.zeroValue9
 t12 := Tryz.underlying12
 a12 := Tryz.isAgg12
 z12 := Tryz.sizeOf12
 v12 := Tryz.zeroValue12
 t46 := Tryz.underlying129
 a46 := Tryz.isAgg129
 z46 := Tryz.sizeOf129
 v46 := Tryz.zeroValue129
 t53 := Tryz.underlying72
 a53 := Tryz.isAgg72
 z53 := Tryz.sizeOf72
 v53 := Tryz.zeroValue72
 t119 := Tryz.underlying185
 a119 := Tryz.isAgg185
 z119 := Tryz.sizeOf185
 t138 := Tryz.underlying187
 a138 := Tryz.isAgg187
 z138 := Tryz.sizeOf187
 v138 := Tryz.zeroValue187
 t139 := Tryz.underlying188
 a139 := Tryz.isAgg188
 z139 := Tryz.sizeOf188
 v139 := Tryz.zeroValue188
 g3 := by kernel_rfl
 g4 := by kernel_rfl }
end Go.Proofs
