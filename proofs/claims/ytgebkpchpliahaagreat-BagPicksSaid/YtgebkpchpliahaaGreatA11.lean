/- Part 12 of the proof: an abstract machine that runs the program's code over plain values, its soundness, and what the functions tell of plain values. Conditions: those in each theorem. -/
import Derived.Test.YtgebkpchpliahaaGreatA10
import Derived.Shelf.Sort.Plain
import Derived.Shelf.Slices.In.SortNone
import Derived.Shelf.Slices.CompactI
import Derived.Shelf.Bits.Mul64
import Derived.Shelf.Small.Bits
import Derived.Test.YtgebkpchpliahaaGreatProg
set_option linter.unusedSectionVars false
namespace Go.Proofs
open Go.Shelf
def Tryz.lays129_ren : Go.Shelf.Ren := ⟨fun | 129 => 174 | n => n, fun | 53 => 181 | 3 => 3 | 4 => 4 | 46 => 136 | 5 => 5 | 9 => 9 | n => n, fun | n => n⟩
theorem Tryz.lays129 : Go.Proofs.Lays.n129 Tryz.prog Tryz.lays129_ren := {
  mixed := by kernel_rfl
  f129 := Tryz.func174.trans (congrArg some (by kernel_rfl))
  t3 := Tryz.underlying3
  a3 := Tryz.isAgg3
  z3 := Tryz.sizeOf3
  v3 := Tryz.zeroValue3
  t4 := Tryz.underlying4
  a4 := Tryz.isAgg4
  z4 := Tryz.sizeOf4
  v4 := Tryz.zeroValue4
  t5 := Tryz.underlying5
  a5 := Tryz.isAgg5
  z5 := Tryz.sizeOf5
  v5 := Tryz.zeroValue5
  t9 := Tryz.underlying9
  a9 := Tryz.isAgg9
  z9 := Tryz.sizeOf9
  v9 := Tryz.zeroValue9
  t46 := Tryz.underlying136
  a46 := Tryz.isAgg136
  z46 := Tryz.sizeOf136
  v46 := Tryz.zeroValue136
  t53 := Tryz.underlying181
  a53 := Tryz.isAgg181
  z53 := Tryz.sizeOf181
  v53 := Tryz.zeroValue181 }
theorem Tryz.bits_Len64 (x : Int) (w : World) (h0 : 0 ≤ x) (h1 : x ≤ 18446744073709551615) :
    Calls Tryz.prog 174 #[.int .u64 x] w fun e w' => e = .returned (.int .i64 (Lib.bitLen x.toNat)) ∧ w' = w := Any.bits_Len64 Tryz.lays129 x w h0 h1
def Tryz.lays189_ren : Go.Shelf.Ren := ⟨fun | 189 => 45 | 125 => 99 | 257 => 98 | 128 => 173 | 129 => 174 | 294 => 164 | 295 => 165 | 296 => 166 | 297 => 167 | 298 => 168 | 299 => 169 | 216 => 170 | 300 => 171 | 301 => 172 | 328 => 232 | 329 => 233 | 330 => 234 | 331 => 235 | 332 => 236 | 215 => 237 | 343 => 263 | n => n, fun | 28 => 28 | 3 => 3 | 46 => 136 | 0 => 0 | 51 => 198 | 53 => 181 | 4 => 4 | 183 => 191 | 182 => 190 | 131 => 154 | 5 => 5 | 9 => 9 | 218 => 225 | 222 => 229 | 228 => 239 | 229 => 240 | n => n, fun | n => n⟩
theorem Tryz.lays189 : Go.Proofs.Lays.n189 Tryz.prog Tryz.lays189_ren := {
  mixed := by kernel_rfl
  f125 := Tryz.func99.trans (congrArg some (by kernel_rfl))
  f128 := Tryz.func173.trans (congrArg some (by kernel_rfl))
  f129 := Tryz.func174.trans (congrArg some (by kernel_rfl))
  f189 := Tryz.func45.trans (congrArg some (by kernel_rfl))
  f215 := Tryz.func237.trans (congrArg some (by kernel_rfl))
  f216 := Tryz.func170.trans (congrArg some (by kernel_rfl))
  f257 := Tryz.func98.trans (congrArg some (by kernel_rfl))
  f294 := Tryz.func164.trans (congrArg some (by kernel_rfl))
  f295 := Tryz.func165.trans (congrArg some (by kernel_rfl))
  f296 := Tryz.func166.trans (congrArg some (by kernel_rfl))
  f297 := Tryz.func167.trans (congrArg some (by kernel_rfl))
  f298 := Tryz.func168.trans (congrArg some (by kernel_rfl))
  f299 := Tryz.func169.trans (congrArg some (by kernel_rfl))
  f300 := Tryz.func171.trans (congrArg some (by kernel_rfl))
  f301 := Tryz.func172.trans (congrArg some (by kernel_rfl))
  f328 := Tryz.func232.trans (congrArg some (by kernel_rfl))
  f329 := Tryz.func233.trans (congrArg some (by kernel_rfl))
  f330 := Tryz.func234.trans (congrArg some (by kernel_rfl))
  f331 := Tryz.func235.trans (congrArg some (by kernel_rfl))
  f332 := Tryz.func236.trans (congrArg some (by kernel_rfl))
  f343 := Tryz.func263.trans (congrArg some (by kernel_rfl))
  t0 := Tryz.underlying0
  a0 := Tryz.isAgg0
  z0 := Tryz.sizeOf0
  v0 := Tryz.zeroValue0
  t3 := Tryz.underlying3
  a3 := Tryz.isAgg3
  z3 := Tryz.sizeOf3
  v3 := Tryz.zeroValue3
  t4 := Tryz.underlying4
  a4 := Tryz.isAgg4
  z4 := Tryz.sizeOf4
  v4 := Tryz.zeroValue4
  t5 := Tryz.underlying5
  a5 := Tryz.isAgg5
  z5 := Tryz.sizeOf5
  v5 := Tryz.zeroValue5
  t9 := Tryz.underlying9
  a9 := Tryz.isAgg9
  z9 := Tryz.sizeOf9
  v9 := Tryz.zeroValue9
  t28 := Tryz.underlying28
  a28 := Tryz.isAgg28
  z28 := Tryz.sizeOf28
  v28 := Tryz.zeroValue28
  t46 := Tryz.underlying136
  a46 := Tryz.isAgg136
  z46 := Tryz.sizeOf136
  v46 := Tryz.zeroValue136
  t51 := Tryz.underlying198
  a51 := Tryz.isAgg198
  z51 := Tryz.sizeOf198
  v51 := Tryz.zeroValue198
  t53 := Tryz.underlying181
  a53 := Tryz.isAgg181
  z53 := Tryz.sizeOf181
  v53 := Tryz.zeroValue181
  t131 := Tryz.underlying154
  a131 := Tryz.isAgg154
  z131 := Tryz.sizeOf154
  v131 := Tryz.zeroValue154
  t182 := Tryz.underlying190
  a182 := Tryz.isAgg190
  z182 := Tryz.sizeOf190
  v182 := Tryz.zeroValue190
  t183 := Tryz.underlying191
  a183 := Tryz.isAgg191
  z183 := Tryz.sizeOf191
  v183 := Tryz.zeroValue191
  t218 := Tryz.underlying225
  a218 := Tryz.isAgg225
  z218 := Tryz.sizeOf225
  v218 := Tryz.zeroValue225
  t222 := Tryz.underlying229
  a222 := Tryz.isAgg229
  z222 := Tryz.sizeOf229
  v222 := Tryz.zeroValue229
  t228 := Tryz.underlying239
  a228 := Tryz.isAgg239
  z228 := Tryz.sizeOf239
  v228 := Tryz.zeroValue239
  t229 := Tryz.underlying240
  a229 := Tryz.isAgg240
  z229 := Tryz.sizeOf240
  v229 := Tryz.zeroValue240 }
open Go.Sort Go.RowKit in
theorem Tryz.slices_Sort_int (blk off cap : Nat) (zs : List Int) (w : World) (hH : Holds (Value.int .i64) w blk off zs.toArray) (hblk : blk < w.heap.size) (hsz : zs.length < 4611686018427387904) :
    Calls Tryz.prog 45 #[.slice (some ⟨blk, off, none⟩) zs.length cap] w fun e w' =>
      e = .returned (.tuple #[]) ∧ ∃ n os, w' = grow (putRow (Value.int .i64) (Sort.ahead w n) blk off (zs.mergeSort fun x y => decide (x ≤ y)).toArray) os := Any.slices_Sort_int Tryz.lays189 blk off cap zs w hH hblk hsz
def Tryz.lays264_ren : Go.Shelf.Ren := ⟨fun | 264 => 258 | n => n, fun | 53 => 181 | 46 => 136 | n => n, fun | n => n⟩
theorem Tryz.lays264 : Go.Proofs.Lays.n264 Tryz.prog Tryz.lays264_ren := {
  mixed := by kernel_rfl
  f264 := Tryz.func258.trans (congrArg some (by kernel_rfl))
  t46 := Tryz.underlying136
  a46 := Tryz.isAgg136
  z46 := Tryz.sizeOf136
  v46 := Tryz.zeroValue136
  t53 := Tryz.underlying181
  a53 := Tryz.isAgg181
  z53 := Tryz.sizeOf181
  v53 := Tryz.zeroValue181 }
open Go.RowKit Go.Lib in
theorem Tryz.bits_Mul64 (x y : Nat) (hx : x < 18446744073709551616) (hy : y < 18446744073709551616) (w : World) :
    Calls Tryz.prog 258 #[.int .u64 x, .int .u64 y] w fun e w' => e = .returned (.tuple #[.int .u64 ((x * y / 18446744073709551616 : Nat) : Int), .int .u64 ((x * y % 18446744073709551616 : Nat) : Int)]) ∧ w' = w := Any.bits_Mul64 Tryz.lays264 x y hx hy w
def Tryz.laysNm220_ren : Go.Shelf.Ren := ⟨fun | 20 => 46 | n => n, fun | 22 => 28 | 3 => 3 | 4 => 4 | 0 => 0 | n => n, fun | n => n⟩
theorem Tryz.laysNm220 : Go.Proofs.Lays2.n20 Tryz.prog Tryz.laysNm220_ren := {
  mixed := by kernel_rfl
  f20 := Tryz.func46.trans (congrArg some (by kernel_rfl))
  t0 := Tryz.underlying0
  a0 := Tryz.isAgg0
  z0 := Tryz.sizeOf0
  v0 := Tryz.zeroValue0
  t3 := Tryz.underlying3
  a3 := Tryz.isAgg3
  z3 := Tryz.sizeOf3
  v3 := Tryz.zeroValue3
  t4 := Tryz.underlying4
  a4 := Tryz.isAgg4
  z4 := Tryz.sizeOf4
  v4 := Tryz.zeroValue4
  t22 := Tryz.underlying28
  a22 := Tryz.isAgg28
  z22 := Tryz.sizeOf28
  v22 := Tryz.zeroValue28
  i3 := by kernel_rfl }
open Go.RowKit Go.Lib Go.Sort in
theorem Tryz.slices_Compact_int (blk off cap : Nat) (zs : List Int) (w : World) (hH : Holds (Value.int .i64) w blk off zs.toArray) (hsz : zs.length ≤ 9223372036854775807) (hcap : zs.length ≤ cap) :
    Calls Tryz.prog 46 #[.slice (some ⟨blk, off, none⟩) zs.length cap] w fun e w' => e = .returned (.slice (some ⟨blk, off, none⟩) (Lib.compact zs).length cap) ∧ ∃ q, w' = putRow (Value.int .i64) (Sort.ahead w q) blk off (Lib.compact zs ++ List.replicate (zs.length - (Lib.compact zs).length) 0).toArray := Any.slices_Compact_int Tryz.laysNm220 blk off cap zs w hH hsz hcap
open Go.RowKit Go.Lib Go.Sort in
theorem Tryz.slices_Compact_int_empty (a : Option Addr) (cap : Nat) (w : World) :
    Calls Tryz.prog 46 #[.slice a 0 cap] w fun e w' => e = .returned (.slice a 0 cap) ∧ w' = w := Any.slices_Compact_int_empty Tryz.laysNm220 a cap w
open Go.RowKit Go.Sort in
theorem Tryz.slices_Sort_int_none (p : Option Addr) (cap : Nat) (w : World) :
    Calls Tryz.prog 45 #[.slice p 0 cap] w fun e w' => e = .returned (.tuple #[]) ∧ w' = w := Any.slices_Sort_int_none Tryz.lays189 p cap w
end Go.Proofs

namespace Go.Cf
open Go Go.Ab Go.Proofs
set_option maxRecDepth 100000
def ty : List TyI := [⟨.other, 1, 0, []⟩,
  ⟨.scalar, 1, 8, [.pv .nilfn]⟩,
  ⟨(.int .i64), 1, 8, [.pv (.int .i64 0)]⟩,
  ⟨(.int .i64), 1, 8, [.pv (.int .i64 0)]⟩,
  ⟨.bool, 1, 1, [.pv (.bool false)]⟩,
  ⟨(.int .u8), 1, 1, [.pv (.int .u8 0)]⟩,
  ⟨(.int .u8), 1, 1, [.pv (.int .u8 0)]⟩,
  ⟨(.struct [(2, 0), (3, 1), (4, 2), (6, 3)]), 4, 24, [.pv (.int .i64 0), .pv (.int .i64 0), .pv (.bool false), .pv (.int .u8 0)]⟩,
  ⟨(.struct [(2, 0), (3, 1), (4, 2), (6, 3)]), 4, 24, [.pv (.int .i64 0), .pv (.int .i64 0), .pv (.bool false), .pv (.int .u8 0)]⟩,
  ⟨.str, 1, 16, [.pv (.str ⟨#[]⟩)]⟩,
  ⟨.str, 1, 16, [.pv (.str ⟨#[]⟩)]⟩,
  ⟨.str, 1, 16, [.pv (.str ⟨#[]⟩)]⟩,
  ⟨(.int .u64), 1, 8, [.pv (.int .u64 0)]⟩,
  ⟨.other, 2, 24, []⟩,
  ⟨.other, 2, 24, []⟩,
  ⟨.scalar, 1, 8, [.pv (.con (.pointer none))]⟩,
  ⟨.scalar, 1, 8, [.pv (.con (.pointer none))]⟩,
  ⟨.scalar, 1, 8, [.pv (.con (.pointer none))]⟩,
  ⟨.other, 1, 8, []⟩,
  ⟨.other, 1, 8, []⟩,
  ⟨.scalar, 1, 16, [.pv (.con .nilIface)]⟩,
  ⟨(.int .i32), 1, 4, [.pv (.int .i32 0)]⟩,
  ⟨(.slice 96), 1, 24, [.nil 3]⟩,
  ⟨(.struct [(22, 0)]), 1, 24, [.nil 3]⟩,
  ⟨(.struct [(22, 0)]), 1, 24, [.nil 3]⟩,
  ⟨(.slice 38), 1, 24, [.nil 0]⟩,
  ⟨(.struct [(25, 0)]), 1, 24, [.nil 0]⟩,
  ⟨(.struct [(25, 0)]), 1, 24, [.nil 0]⟩,
  ⟨(.slice 3), 1, 24, [.nil 0]⟩,
  ⟨(.slice 52), 1, 24, [.nil 6]⟩,
  ⟨(.struct [(28, 0), (29, 1), (3, 2), (28, 3), (28, 4), (3, 5)]), 6, 112, [.nil 0, .nil 6, .pv (.int .i64 0), .nil 0, .nil 0, .pv (.int .i64 0)]⟩,
  ⟨(.struct [(28, 0), (29, 1), (3, 2), (28, 3), (28, 4), (3, 5)]), 6, 112, [.nil 0, .nil 6, .pv (.int .i64 0), .nil 0, .nil 0, .pv (.int .i64 0)]⟩,
  ⟨(.arr 2 3), 2, 16, [.pv (.int .i64 0), .pv (.int .i64 0)]⟩,
  ⟨(.slice 35), 1, 24, [.nil 6]⟩,
  ⟨(.struct [(3, 0), (3, 1), (32, 2), (33, 4)]), 5, 56, [.pv (.int .i64 0), .pv (.int .i64 0), .pv (.int .i64 0), .pv (.int .i64 0), .nil 6]⟩,
  ⟨(.struct [(3, 0), (3, 1), (32, 2), (33, 4)]), 5, 56, [.pv (.int .i64 0), .pv (.int .i64 0), .pv (.int .i64 0), .pv (.int .i64 0), .nil 6]⟩,
  ⟨.scalar, 1, 8, [.pv .nilfn]⟩,
  ⟨.scalar, 1, 8, [.pv .nilfn]⟩,
  ⟨(.slice 64), 1, 24, [.nil 0]⟩,
  ⟨(.struct [(28, 0), (38, 1)]), 2, 48, [.nil 0, .nil 0]⟩,
  ⟨(.struct [(28, 0), (38, 1)]), 2, 48, [.nil 0, .nil 0]⟩,
  ⟨.other, 1, 0, []⟩,
  ⟨.scalar, 1, 8, [.pv .nilfn]⟩,
  ⟨.scalar, 1, 8, [.pv .nilfn]⟩,
  ⟨.scalar, 1, 8, [.pv .nilfn]⟩,
  ⟨.scalar, 1, 8, [.pv .nilfn]⟩,
  ⟨.scalar, 1, 8, [.pv .nilfn]⟩,
  ⟨.scalar, 1, 8, [.pv .nilfn]⟩,
  ⟨.scalar, 1, 8, [.pv .nilfn]⟩,
  ⟨(.struct [(3, 0), (3, 1)]), 2, 16, [.pv (.int .i64 0), .pv (.int .i64 0)]⟩,
  ⟨(.struct [(3, 0), (3, 1)]), 2, 16, [.pv (.int .i64 0), .pv (.int .i64 0)]⟩,
  ⟨(.struct [(3, 0), (3, 1), (50, 2), (29, 4)]), 5, 56, [.pv (.int .i64 0), .pv (.int .i64 0), .pv (.int .i64 0), .pv (.int .i64 0), .nil 6]⟩,
  ⟨(.struct [(3, 0), (3, 1), (50, 2), (29, 4)]), 5, 56, [.pv (.int .i64 0), .pv (.int .i64 0), .pv (.int .i64 0), .pv (.int .i64 0), .nil 6]⟩,
  ⟨.scalar, 1, 8, [.pv .nilfn]⟩,
  ⟨.scalar, 1, 8, [.pv .nilfn]⟩,
  ⟨.scalar, 1, 8, [.pv .nilfn]⟩,
  ⟨.scalar, 1, 8, [.pv .nilfn]⟩,
  ⟨.scalar, 1, 8, [.pv .nilfn]⟩,
  ⟨(.struct [(35, 0), (3, 5), (4, 6)]), 7, 72, [.pv (.int .i64 0), .pv (.int .i64 0), .pv (.int .i64 0), .pv (.int .i64 0), .nil 6, .pv (.int .i64 0), .pv (.bool false)]⟩,
  ⟨(.struct [(35, 0), (3, 5), (4, 6)]), 7, 72, [.pv (.int .i64 0), .pv (.int .i64 0), .pv (.int .i64 0), .pv (.int .i64 0), .nil 6, .pv (.int .i64 0), .pv (.bool false)]⟩,
  ⟨.scalar, 1, 8, [.pv .nilfn]⟩,
  ⟨.scalar, 1, 8, [.pv .nilfn]⟩,
  ⟨.other, 1, 0, []⟩,
  ⟨.scalar, 1, 8, [.pv .nilfn]⟩,
  ⟨(.slice 50), 1, 24, [.nil 3]⟩,
  ⟨.scalar, 1, 8, [.pv .nilfn]⟩,
  ⟨.scalar, 1, 8, [.pv .nilfn]⟩,
  ⟨.scalar, 1, 8, [.pv .nilfn]⟩,
  ⟨.scalar, 1, 8, [.pv .nilfn]⟩,
  ⟨.scalar, 1, 8, [.pv .nilfn]⟩,
  ⟨(.struct [(24, 0), (27, 1), (31, 2)]), 8, 160, [.nil 3, .nil 0, .nil 0, .nil 6, .pv (.int .i64 0), .nil 0, .nil 0, .pv (.int .i64 0)]⟩,
  ⟨(.struct [(24, 0), (27, 1), (31, 2)]), 8, 160, [.nil 3, .nil 0, .nil 0, .nil 6, .pv (.int .i64 0), .nil 0, .nil 0, .pv (.int .i64 0)]⟩,
  ⟨.scalar, 1, 8, [.pv .nilfn]⟩,
  ⟨.scalar, 1, 8, [.pv .nilfn]⟩,
  ⟨.scalar, 1, 8, [.pv .nilfn]⟩,
  ⟨.scalar, 1, 8, [.pv .nilfn]⟩,
  ⟨.scalar, 1, 8, [.pv .nilfn]⟩,
  ⟨.scalar, 1, 8, [.pv .nilfn]⟩,
  ⟨.scalar, 1, 8, [.pv .nilfn]⟩,
  ⟨.scalar, 1, 8, [.pv .nilfn]⟩,
  ⟨(.arr 16 4), 16, 16, [.pv (.bool false), .pv (.bool false), .pv (.bool false), .pv (.bool false), .pv (.bool false), .pv (.bool false), .pv (.bool false), .pv (.bool false), .pv (.bool false), .pv (.bool false), .pv (.bool false), .pv (.bool false), .pv (.bool false), .pv (.bool false), .pv (.bool false), .pv (.bool false)]⟩,
  ⟨.scalar, 1, 8, [.pv .nilfn]⟩,
  ⟨.scalar, 1, 8, [.pv .nilfn]⟩,
  ⟨.scalar, 1, 8, [.pv .nilfn]⟩,
  ⟨.scalar, 1, 8, [.pv .nilfn]⟩,
  ⟨.scalar, 1, 8, [.pv .nilfn]⟩,
  ⟨.scalar, 1, 8, [.pv .nilfn]⟩,
  ⟨.scalar, 1, 8, [.pv .nilfn]⟩,
  ⟨.scalar, 1, 8, [.pv .nilfn]⟩,
  ⟨.scalar, 1, 8, [.pv .nilfn]⟩,
  ⟨.scalar, 1, 8, [.pv .nilfn]⟩,
  ⟨.scalar, 1, 8, [.pv .nilfn]⟩,
  ⟨.scalar, 1, 8, [.pv .nilfn]⟩,
  ⟨.scalar, 1, 8, [.pv .nilfn]⟩,
  ⟨.scalar, 1, 8, [.pv .nilfn]⟩,
  ⟨(.struct [(3, 0), (3, 1)]), 2, 16, [.pv (.int .i64 0), .pv (.int .i64 0)]⟩,
  ⟨(.struct [(3, 0), (3, 1)]), 2, 16, [.pv (.int .i64 0), .pv (.int .i64 0)]⟩,
  ⟨.scalar, 1, 8, [.pv .nilfn]⟩,
  ⟨(.slice 100), 1, 24, [.nil 3]⟩,
  ⟨(.struct [(3, 0), (98, 1)]), 2, 32, [.pv (.int .i64 0), .nil 3]⟩,
  ⟨(.struct [(3, 0), (98, 1)]), 2, 32, [.pv (.int .i64 0), .nil 3]⟩,
  ⟨.other, 1, 0, []⟩,
  ⟨.scalar, 1, 8, [.pv .nilfn]⟩,
  ⟨.scalar, 1, 8, [.pv .nilfn]⟩,
  ⟨.scalar, 1, 8, [.pv .nilfn]⟩,
  ⟨.scalar, 1, 8, [.pv .nilfn]⟩,
  ⟨(.struct [(35, 0)]), 5, 56, [.pv (.int .i64 0), .pv (.int .i64 0), .pv (.int .i64 0), .pv (.int .i64 0), .nil 6]⟩,
  ⟨(.struct [(35, 0)]), 5, 56, [.pv (.int .i64 0), .pv (.int .i64 0), .pv (.int .i64 0), .pv (.int .i64 0), .nil 6]⟩,
  ⟨.scalar, 1, 8, [.pv .nilfn]⟩,
  ⟨.scalar, 1, 8, [.pv .nilfn]⟩,
  ⟨.scalar, 1, 8, [.pv .nilfn]⟩,
  ⟨.scalar, 1, 8, [.pv .nilfn]⟩,
  ⟨.scalar, 1, 8, [.pv .nilfn]⟩,
  ⟨.scalar, 1, 8, [.pv .nilfn]⟩,
  ⟨.scalar, 1, 8, [.pv .nilfn]⟩,
  ⟨.scalar, 1, 8, [.pv .nilfn]⟩,
  ⟨.scalar, 1, 8, [.pv .nilfn]⟩,
  ⟨.scalar, 1, 8, [.pv .nilfn]⟩,
  ⟨.scalar, 1, 8, [.pv .nilfn]⟩,
  ⟨.scalar, 1, 8, [.pv .nilfn]⟩,
  ⟨.scalar, 1, 8, [.pv .nilfn]⟩,
  ⟨(.map 123 38), 1, 8, [.pv (.con (.map none))]⟩,
  ⟨(.slice 123), 1, 24, [.nil 3]⟩,
  ⟨(.arr 2 3), 2, 16, [.pv (.int .i64 0), .pv (.int .i64 0)]⟩,
  ⟨.scalar, 1, 8, [.pv .nilfn]⟩,
  ⟨.scalar, 1, 8, [.pv .nilfn]⟩,
  ⟨.scalar, 1, 8, [.pv .nilfn]⟩,
  ⟨.scalar, 1, 8, [.pv .nilfn]⟩,
  ⟨.scalar, 1, 8, [.pv .nilfn]⟩,
  ⟨.scalar, 1, 8, [.pv .nilfn]⟩,
  ⟨.scalar, 1, 8, [.pv .nilfn]⟩,
  ⟨.scalar, 1, 8, [.pv .nilfn]⟩,
  ⟨.scalar, 1, 8, [.pv .nilfn]⟩,
  ⟨.scalar, 1, 8, [.pv .nilfn]⟩,
  ⟨.scalar, 1, 8, [.pv .nilfn]⟩,
  ⟨.scalar, 1, 8, [.pv .nilfn]⟩,
  ⟨(.int .u64), 1, 8, [.pv (.int .u64 0)]⟩,
  ⟨.scalar, 1, 8, [.pv .nilfn]⟩,
  ⟨.scalar, 1, 8, [.pv .nilfn]⟩,
  ⟨.scalar, 1, 8, [.pv .nilfn]⟩,
  ⟨(.slice 28), 1, 24, [.nil 0]⟩,
  ⟨.scalar, 1, 8, [.pv .nilfn]⟩,
  ⟨.scalar, 1, 8, [.pv .nilfn]⟩,
  ⟨.scalar, 1, 8, [.pv .nilfn]⟩,
  ⟨.scalar, 1, 8, [.pv .nilfn]⟩,
  ⟨.scalar, 1, 8, [.pv .nilfn]⟩,
  ⟨.scalar, 1, 8, [.pv .nilfn]⟩,
  ⟨.scalar, 1, 8, [.pv .nilfn]⟩,
  ⟨.scalar, 1, 8, [.pv .nilfn]⟩,
  ⟨.scalar, 1, 8, [.pv .nilfn]⟩,
  ⟨.scalar, 1, 8, [.pv .nilfn]⟩,
  ⟨.scalar, 1, 8, [.pv .nilfn]⟩,
  ⟨.scalar, 1, 8, [.pv .nilfn]⟩,
  ⟨.scalar, 1, 8, [.pv .nilfn]⟩,
  ⟨.other, 1, 0, []⟩,
  ⟨.scalar, 1, 8, [.pv .nilfn]⟩,
  ⟨.scalar, 1, 8, [.pv .nilfn]⟩,
  ⟨.scalar, 1, 8, [.pv .nilfn]⟩,
  ⟨.scalar, 1, 8, [.pv .nilfn]⟩,
  ⟨(.slice 32), 1, 24, [.nil 3]⟩,
  ⟨.scalar, 1, 8, [.pv .nilfn]⟩,
  ⟨.scalar, 1, 8, [.pv .nilfn]⟩,
  ⟨.scalar, 1, 8, [.pv .nilfn]⟩,
  ⟨.scalar, 1, 8, [.pv .nilfn]⟩,
  ⟨.scalar, 1, 8, [.pv .nilfn]⟩,
  ⟨.scalar, 1, 8, [.pv .nilfn]⟩,
  ⟨.scalar, 1, 8, [.pv .nilfn]⟩,
  ⟨.scalar, 1, 8, [.pv .nilfn]⟩,
  ⟨(.int .i64), 1, 8, [.pv (.int .i64 0)]⟩,
  ⟨(.map 170 38), 1, 8, [.pv (.con (.map none))]⟩,
  ⟨(.arr 2 3), 2, 16, [.pv (.int .i64 0), .pv (.int .i64 0)]⟩,
  ⟨.other, 1, 0, []⟩,
  ⟨.scalar, 1, 8, [.pv .nilfn]⟩,
  ⟨.scalar, 1, 8, [.pv .nilfn]⟩,
  ⟨.scalar, 1, 8, [.pv .nilfn]⟩,
  ⟨.scalar, 1, 8, [.pv .nilfn]⟩,
  ⟨.scalar, 1, 8, [.pv .nilfn]⟩,
  ⟨.scalar, 1, 8, [.pv .nilfn]⟩,
  ⟨.scalar, 1, 8, [.pv .nilfn]⟩,
  ⟨.scalar, 1, 8, [.pv .nilfn]⟩,
  ⟨.scalar, 1, 8, [.pv .nilfn]⟩,
  ⟨(.int .u64), 1, 8, [.pv (.int .u64 0)]⟩,
  ⟨.other, 1, 0, []⟩,
  ⟨.scalar, 1, 8, [.pv .nilfn]⟩,
  ⟨.scalar, 1, 8, [.pv .nilfn]⟩,
  ⟨.scalar, 1, 8, [.pv .nilfn]⟩,
  ⟨(.struct [(3, 0), (3, 1), (185, 2)]), 3, 24, [.pv (.int .i64 0), .pv (.int .i64 0), .pv .nilfn]⟩,
  ⟨(.struct [(3, 0), (3, 1), (185, 2)]), 3, 24, [.pv (.int .i64 0), .pv (.int .i64 0), .pv .nilfn]⟩,
  ⟨.scalar, 1, 8, [.pv .nilfn]⟩,
  ⟨.scalar, 1, 8, [.pv .nilfn]⟩,
  ⟨(.int .i64), 1, 8, [.pv (.int .i64 0)]⟩,
  ⟨.other, 1, 0, []⟩,
  ⟨.scalar, 1, 8, [.pv .nilfn]⟩,
  ⟨.scalar, 1, 8, [.pv .nilfn]⟩,
  ⟨.scalar, 1, 8, [.pv .nilfn]⟩,
  ⟨.scalar, 1, 8, [.pv .nilfn]⟩,
  ⟨.scalar, 1, 8, [.pv .nilfn]⟩,
  ⟨.scalar, 1, 8, [.pv .nilfn]⟩,
  ⟨(.int .u32), 1, 4, [.pv (.int .u32 0)]⟩,
  ⟨.scalar, 1, 8, [.pv .nilfn]⟩,
  ⟨.scalar, 1, 8, [.pv .nilfn]⟩,
  ⟨.other, 1, 0, []⟩,
  ⟨.scalar, 1, 8, [.pv .nilfn]⟩,
  ⟨.scalar, 1, 8, [.pv .nilfn]⟩,
  ⟨.scalar, 1, 8, [.pv .nilfn]⟩,
  ⟨.scalar, 1, 8, [.pv .nilfn]⟩,
  ⟨.scalar, 1, 8, [.pv .nilfn]⟩,
  ⟨.scalar, 1, 8, [.pv .nilfn]⟩,
  ⟨.other, 1, 0, []⟩,
  ⟨.scalar, 1, 8, [.pv .nilfn]⟩,
  ⟨.scalar, 1, 8, [.pv .nilfn]⟩,
  ⟨.scalar, 1, 8, [.pv .nilfn]⟩,
  ⟨.scalar, 1, 8, [.pv .nilfn]⟩,
  ⟨.scalar, 1, 8, [.pv .nilfn]⟩,
  ⟨.other, 1, 0, []⟩,
  ⟨.scalar, 1, 8, [.pv .nilfn]⟩,
  ⟨.scalar, 1, 8, [.pv .nilfn]⟩,
  ⟨.scalar, 1, 8, [.pv .nilfn]⟩,
  ⟨.scalar, 1, 8, [.pv .nilfn]⟩,
  ⟨.scalar, 1, 8, [.pv .nilfn]⟩,
  ⟨.scalar, 1, 8, [.pv .nilfn]⟩,
  ⟨.scalar, 1, 8, [.pv .nilfn]⟩,
  ⟨.scalar, 1, 8, [.pv .nilfn]⟩,
  ⟨.scalar, 1, 8, [.pv .nilfn]⟩,
  ⟨.scalar, 1, 8, [.pv .nilfn]⟩,
  ⟨(.int .u64), 1, 8, [.pv (.int .u64 0)]⟩,
  ⟨.scalar, 1, 8, [.pv .nilfn]⟩,
  ⟨.scalar, 1, 8, [.pv .nilfn]⟩,
  ⟨.scalar, 1, 8, [.pv .nilfn]⟩,
  ⟨.scalar, 1, 8, [.pv (.con (.pointer none))]⟩,
  ⟨.scalar, 1, 8, [.pv .nilfn]⟩,
  ⟨.scalar, 1, 8, [.pv .nilfn]⟩,
  ⟨.scalar, 1, 8, [.pv .nilfn]⟩,
  ⟨.scalar, 1, 8, [.pv .nilfn]⟩,
  ⟨.scalar, 1, 8, [.pv .nilfn]⟩,
  ⟨.scalar, 1, 8, [.pv .nilfn]⟩,
  ⟨.scalar, 1, 8, [.pv .nilfn]⟩,
  ⟨.scalar, 1, 8, [.pv .nilfn]⟩,
  ⟨.scalar, 1, 8, [.pv .nilfn]⟩,
  ⟨.scalar, 1, 8, [.pv (.con (.pointer none))]⟩,
  ⟨.other, 1, 0, []⟩,
  ⟨.scalar, 1, 8, [.pv .nilfn]⟩,
  ⟨.scalar, 1, 8, [.pv .nilfn]⟩,
  ⟨.scalar, 1, 8, [.pv .nilfn]⟩,
  ⟨.scalar, 1, 8, [.pv .nilfn]⟩,
  ⟨.scalar, 1, 8, [.pv .nilfn]⟩,
  ⟨.other, 4, 40, []⟩,
  ⟨.other, 4, 40, []⟩,
  ⟨.other, 0, 0, []⟩,
  ⟨.other, 0, 0, []⟩,
  ⟨.other, 0, 0, []⟩,
  ⟨(.int .u8), 1, 1, [.pv (.int .u8 0)]⟩,
  ⟨(.int .u8), 1, 1, [.pv (.int .u8 0)]⟩,
  ⟨.scalar, 1, 8, [.pv .nilfn]⟩,
  ⟨.scalar, 1, 8, [.pv (.con (.pointer none))]⟩,
  ⟨(.int .i32), 1, 4, [.pv (.int .i32 0)]⟩,
  ⟨(.int .i32), 1, 4, [.pv (.int .i32 0)]⟩,
  ⟨.other, 11, 48, []⟩,
  ⟨.other, 11, 48, []⟩,
  ⟨.other, 1, 8, []⟩]
def h4 : Hint := ⟨4, ⟨[], [], [], [], []⟩, [(15, [1, 2, 4, 14, 16, 18, 19, 20]), (19, [1, 2, 4, 14, 16, 18, 19, 20, 21, 22])], [(15, [1, 2, 4, 8, 14, 16, 18, 19]), (19, [1, 2, 4, 8, 14, 16, 18, 19, 20])], [], [(6, [1, 2, 3, 4]), (9, [1, 2, 3, 4]), (14, [1, 2, 4, 14, 16, 18, 19])]⟩
noncomputable def fi4 : FnI := mkFn Tryz.f4 h4
def h5 : Hint := ⟨4, ⟨[53], [], [], [], []⟩, [(14, [2, 4, 5, 17]), (18, [2, 4, 5, 17, 18, 19])], [(14, [2, 4, 5, 8]), (18, [2, 4, 5, 8, 17])], [], [(8, [2, 3, 4, 5]), (13, [2, 4, 5])]⟩
noncomputable def fi5 : FnI := mkFn Tryz.f5 h5
def h10 : Hint := ⟨2, ⟨[], [], [], [], []⟩, [(5, [2, 3, 6])], [(5, [4])], [], [(4, [2, 3])]⟩
noncomputable def fi10 : FnI := mkFn Tryz.f10 h10
def h11 : Hint := ⟨0, ⟨[], [], [], [], []⟩, [], [], [], []⟩
noncomputable def fi11 : FnI := mkFn Tryz.f11 h11
def h12 : Hint := ⟨2, ⟨[], [], [], [], []⟩, [(4, [2, 5])], [(4, [4])], [], [(3, [2])]⟩
noncomputable def fi12 : FnI := mkFn Tryz.f12 h12
def h13 : Hint := ⟨1, ⟨[], [], [], [], []⟩, [(3, [0, 3, 4])], [(3, [3])], [], [(5, [0, 4])]⟩
noncomputable def fi13 : FnI := mkFn Tryz.f13 h13
def h14 : Hint := ⟨2, ⟨[6, 10, 13, 42, 66, 72], [], [], [], []⟩, [(5, [1, 2, 4, 6, 26, 27, 28]), (14, [4, 6, 10, 48, 49, 50]), (18, [4, 6, 10, 12, 13, 48, 49, 50, 54, 55, 56])], [(5, [1, 2, 4, 5, 6]), (14, [4, 10]), (18, [4, 6, 10, 13, 48, 49, 50])], [(22, [26]), (24, [20])], [(3, [1, 2, 4])]⟩
noncomputable def fi14 : FnI := mkFn Tryz.f14 h14
def h15 : Hint := ⟨1, ⟨[3], [], [], [], []⟩, [(3, [1, 3, 10, 11, 12]), (11, [1, 6, 31, 32, 33])], [(3, [1, 2]), (11, [1, 2])], [], []⟩
noncomputable def fi15 : FnI := mkFn Tryz.f15 h15
def h16 : Hint := ⟨1, ⟨[3], [8, 9, 11, 13], [], [(13, [(.pv .undef, [.dead])])], [11]⟩, [], [], [(4, []), (5, []), (6, [])], []⟩
noncomputable def fi16 : FnI := mkFn Tryz.f16 h16
def h17 : Hint := ⟨2, ⟨[], [], [], [], []⟩, [(2, [0, 1, 5])], [(2, [4])], [], []⟩
noncomputable def fi17 : FnI := mkFn Tryz.f17 h17
def h18 : Hint := ⟨2, ⟨[], [], [], [], []⟩, [], [], [], []⟩
noncomputable def fi18 : FnI := mkFn Tryz.f18 h18
def h19 : Hint := ⟨2, ⟨[6, 65], [], [], [], []⟩, [(5, [3, 4, 6, 45, 46, 47]), (8, [3, 4, 6, 8, 45, 46, 47, 52, 53, 54])], [(5, [4, 6]), (8, [3, 4, 6, 45, 46, 47])], [(2, [12]), (13, [12])], [(4, [2, 3, 4, 6])]⟩
noncomputable def fi19 : FnI := mkFn Tryz.f19 h19
def h30 : Hint := ⟨2, ⟨[], [], [], [], []⟩, [(4, [0, 1, 5])], [(4, [4])], [], []⟩
noncomputable def fi30 : FnI := mkFn Tryz.f30 h30
def h31 : Hint := ⟨2, ⟨[], [], [], [], []⟩, [(4, [0, 1, 5])], [(4, [4])], [], []⟩
noncomputable def fi31 : FnI := mkFn Tryz.f31 h31
def h32 : Hint := ⟨3, ⟨[11, 15, 19, 23, 49, 68, 71, 75, 81, 93, 112, 137, 143, 149], [79], [], [], [79]⟩, [(8, [1, 2, 3, 6, 8, 10, 11, 51, 52, 53]), (18, [2, 3, 6, 10, 11, 15, 84, 85]), (23, [2, 3, 6, 10, 15, 96, 97, 98]), (27, [2, 3, 6, 10, 15, 18, 19, 96, 97, 98, 113, 114, 115]), (32, [2, 3, 6, 10, 15, 18, 19, 22, 23, 96, 97, 98, 113, 114, 115, 125, 126, 127])], [(8, [1, 2, 3, 6, 10, 11]), (18, [2, 3, 6, 10, 11, 15]), (23, [6, 15]), (27, [2, 3, 6, 10, 15, 19, 96, 97, 98]), (32, [2, 3, 6, 10, 15, 18, 19, 23, 96, 97, 98, 113, 114, 115])], [(15, []), (36, [46]), (38, [38]), (40, [30])], [(5, [1, 2, 3, 6, 8]), (13, [1, 2, 3, 6, 8, 10, 11, 13, 14, 51, 52, 53])]⟩
noncomputable def fi32 : FnI := mkFn Tryz.f32 h32
def h33 : Hint := ⟨0, ⟨[], [], [], [], []⟩, [], [], [], []⟩
noncomputable def fi33 : FnI := mkFn Tryz.f33 h33
def h34 : Hint := ⟨2, ⟨[], [12, 13], [], [], []⟩, [], [], [], []⟩
noncomputable def fi34 : FnI := mkFn Tryz.f34 h34
def h35 : Hint := ⟨2, ⟨[5], [8, 15, 16], [8], [(8, [(.agg [.pv (.slice 0 []), .view 0 0 none], [.row false 0 0 []])])], [16]⟩, [], [], [(3, []), (4, [])], []⟩
noncomputable def fi35 : FnI := mkFn Tryz.f35 h35
def h36 : Hint := ⟨2, ⟨[], [], [], [], []⟩, [], [], [], []⟩
noncomputable def fi36 : FnI := mkFn Tryz.f36 h36
def h37 : Hint := ⟨2, ⟨[], [], [], [], []⟩, [(2, [0, 1, 7, 8])], [(2, [4])], [], []⟩ -- slices.Index[[]int,int]
noncomputable def fi37 : FnI := mkFn Tryz.f37 h37
def h38 : Hint := ⟨1, ⟨[5], [], [], [], []⟩, [], [], [], []⟩ -- slices.Clone[[]int,int]
noncomputable def fi38 : FnI := mkFn Tryz.f38 h38
def h39 : Hint := ⟨1, ⟨[], [], [], [], []⟩, [], [], [], []⟩
noncomputable def fi39 : FnI := mkFn Tryz.f39 h39
def h40 : Hint := ⟨1, ⟨[], [], [], [], []⟩, [], [], [], []⟩
noncomputable def fi40 : FnI := mkFn Tryz.f40 h40
def h41 : Hint := ⟨2, ⟨[], [], [], [], []⟩, [], [], [], []⟩ -- slices.ContainsFunc[[]roadbook/api.Val,roadbook/api.Val]
noncomputable def fi41 : FnI := mkFn Tryz.f41 h41
def h42 : Hint := ⟨1, ⟨[], [5, 6], [], [], []⟩, [], [], [], []⟩
noncomputable def fi42 : FnI := mkFn Tryz.f42 h42
def h43 : Hint := ⟨3, ⟨[], [12, 25], [], [], []⟩, [(4, [1, 2, 15, 16, 17])], [(4, [6])], [], []⟩
noncomputable def fi43 : FnI := mkFn Tryz.f43 h43
def h44 : Hint := ⟨3, ⟨[2, 13], [], [], [], []⟩, [], [], [], []⟩
noncomputable def fi44 : FnI := mkFn Tryz.f44 h44
def h45 : Hint := ⟨1, ⟨[], [], [], [], []⟩, [], [], [], []⟩ -- slices.Sort[[]int,int]
noncomputable def fi45 : FnI := mkFn Tryz.f45 h45
def h46 : Hint := ⟨1, ⟨[0], [], [], [], []⟩, [(4, [0, 3]), (9, [0, 3, 4, 5])], [(4, [0, 2]), (9, [0, 3])], [], []⟩ -- slices.Compact[[]int,int]
noncomputable def fi46 : FnI := mkFn Tryz.f46 h46
def h47 : Hint := ⟨2, ⟨[5, 27], [], [], [], []⟩, [(3, [1, 4, 5, 13, 14, 15])], [(3, [4, 5])], [(8, [])], []⟩
noncomputable def fi47 : FnI := mkFn Tryz.f47 h47
def h48 : Hint := ⟨3, ⟨[], [], [], [], []⟩, [], [], [], []⟩
noncomputable def fi48 : FnI := mkFn Tryz.f48 h48
def h49 : Hint := ⟨2, ⟨[], [], [], [], []⟩, [], [], [], []⟩ -- slices.ContainsFunc[[]roadbook/api.Expr,roadbook/api.Expr]
noncomputable def fi49 : FnI := mkFn Tryz.f49 h49
def h50 : Hint := ⟨3, ⟨[], [], [], [], []⟩, [], [], [], []⟩
noncomputable def fi50 : FnI := mkFn Tryz.f50 h50
def h51 : Hint := ⟨3, ⟨[], [], [], [], []⟩, [], [], [], []⟩
noncomputable def fi51 : FnI := mkFn Tryz.f51 h51
def h52 : Hint := ⟨1, ⟨[6, 24, 33], [24], [24], [(24, [(.view 0 0 none, [.row false 0 0 []])])], []⟩, [(3, [0, 3, 9, 10, 11]), (11, [6, 25, 26, 27])], [(3, [0, 3]), (11, [6])], [], []⟩ -- slices.Concat[[]int,int]
noncomputable def fi52 : FnI := mkFn Tryz.f52 h52
def h53 : Hint := ⟨1, ⟨[6, 24, 33], [24], [24], [(24, [(.view 0 0 none, [.row false 0 3 []])])], []⟩, [(3, [0, 3, 9, 10, 11]), (11, [6, 25, 26, 27])], [(3, [0, 3]), (11, [6])], [], []⟩ -- slices.Concat[[]roadbook/api.Val,roadbook/api.Val]
noncomputable def fi53 : FnI := mkFn Tryz.f53 h53
def h81 : Hint := ⟨2, ⟨[], [], [], [], []⟩, [], [], [], []⟩
noncomputable def fi81 : FnI := mkFn Tryz.f81 h81
def h82 : Hint := ⟨2, ⟨[], [], [], [], []⟩, [], [], [], []⟩ -- slices.Contains[[]int,int]
noncomputable def fi82 : FnI := mkFn Tryz.f82 h82
def h83 : Hint := ⟨2, ⟨[], [], [], [], []⟩, [], [], [], []⟩ -- slices.ContainsFunc[[]int,int]
noncomputable def fi83 : FnI := mkFn Tryz.f83 h83
def h84 : Hint := ⟨2, ⟨[], [], [], [], []⟩, [], [], [], [(3, [0, 1, 4]), (6, [4, 5])]⟩
noncomputable def fi84 : FnI := mkFn Tryz.f84 h84
def h85 : Hint := ⟨2, ⟨[], [13], [], [], []⟩, [], [], [], []⟩ -- slices.SortFunc[[]roadbook/bag.key,roadbook/bag.key]
noncomputable def fi85 : FnI := mkFn Tryz.f85 h85
def h86 : Hint := ⟨2, ⟨[], [], [], [], []⟩, [], [], [], []⟩
noncomputable def fi86 : FnI := mkFn Tryz.f86 h86
def h87 : Hint := ⟨1, ⟨[], [], [], [], []⟩, [], [], [], []⟩
noncomputable def fi87 : FnI := mkFn Tryz.f87 h87
def h88 : Hint := ⟨1, ⟨[], [], [], [], []⟩, [(6, [2, 3, 4, 5, 14, 15, 16])], [(6, [2, 3, 4, 5])], [], []⟩
noncomputable def fi88 : FnI := mkFn Tryz.f88 h88
def h89 : Hint := ⟨2, ⟨[], [23], [], [], []⟩, [(2, [0, 1, 5])], [(2, [4])], [], []⟩ -- slices.IsSortedFunc[[][]roadbook/api.Val,[]roadbook/api.Val]
noncomputable def fi89 : FnI := mkFn Tryz.f89 h89
def h90 : Hint := ⟨3, ⟨[], [], [], [], []⟩, [], [], [], []⟩
noncomputable def fi90 : FnI := mkFn Tryz.f90 h90
def h91 : Hint := ⟨1, ⟨[], [], [], [], []⟩, [], [], [], []⟩
noncomputable def fi91 : FnI := mkFn Tryz.f91 h91
def h92 : Hint := ⟨2, ⟨[], [8], [], [], []⟩, [], [], [], []⟩ -- slices.SortStableFunc[[][]roadbook/api.Val,[]roadbook/api.Val]
noncomputable def fi92 : FnI := mkFn Tryz.f92 h92
def h93 : Hint := ⟨3, ⟨[], [], [], [], []⟩, [], [], [], []⟩
noncomputable def fi93 : FnI := mkFn Tryz.f93 h93
def h94 : Hint := ⟨2, ⟨[], [], [], [], []⟩, [(3, [1, 2, 5, 6])], [(3, [5])], [], [(5, [1, 2, 5, 6])]⟩
noncomputable def fi94 : FnI := mkFn Tryz.f94 h94
def h95 : Hint := ⟨2, ⟨[], [], [], [], []⟩, [(2, [0, 1, 7, 8])], [(2, [4])], [], []⟩ -- slices.IndexFunc[[]roadbook/api.Val,roadbook/api.Val]
noncomputable def fi95 : FnI := mkFn Tryz.f95 h95
def h96 : Hint := ⟨3, ⟨[], [], [], [], []⟩, [], [], [], []⟩
noncomputable def fi96 : FnI := mkFn Tryz.f96 h96
def h97 : Hint := ⟨1, ⟨[], [], [], [], []⟩, [], [], [], [(3, [1, 4]), (4, [1, 4, 5]), (5, [1, 4, 5, 6])]⟩
noncomputable def fi97 : FnI := mkFn Tryz.f97 h97
def h99 : Hint := ⟨1, ⟨[], [], [], [], []⟩, [], [], [], []⟩
noncomputable def fi99 : FnI := mkFn Tryz.f99 h99
def h100 : Hint := ⟨1, ⟨[5], [], [], [], []⟩, [], [], [], []⟩ -- slices.Clone[[]roadbook/api.Val,roadbook/api.Val]
noncomputable def fi100 : FnI := mkFn Tryz.f100 h100
def h101 : Hint := ⟨2, ⟨[], [], [], [], []⟩, [(2, [0, 1, 7, 8])], [(2, [4])], [], []⟩ -- slices.IndexFunc[[]roadbook/api.Expr,roadbook/api.Expr]
noncomputable def fi101 : FnI := mkFn Tryz.f101 h101
def h102 : Hint := ⟨1, ⟨[], [], [], [], []⟩, [], [], [], []⟩
noncomputable def fi102 : FnI := mkFn Tryz.f102 h102
def h103 : Hint := ⟨3, ⟨[], [], [], [], []⟩, [], [], [], []⟩
noncomputable def fi103 : FnI := mkFn Tryz.f103 h103
def h104 : Hint := ⟨2, ⟨[0, 4, 22], [], [], [], []⟩, [], [], [], [(3, [0, 1])]⟩ -- slices.Grow[[]int,int]
noncomputable def fi104 : FnI := mkFn Tryz.f104 h104
def h105 : Hint := ⟨2, ⟨[0, 4, 22], [], [], [], []⟩, [], [], [], [(3, [0, 1])]⟩ -- slices.Grow[[]roadbook/api.Val,roadbook/api.Val]
noncomputable def fi105 : FnI := mkFn Tryz.f105 h105
def h152 : Hint := ⟨2, ⟨[], [], [], [], []⟩, [], [], [], []⟩
noncomputable def fi152 : FnI := mkFn Tryz.f152 h152
def h154 : Hint := ⟨2, ⟨[], [], [], [], []⟩, [(2, [0, 1, 7, 8])], [(2, [4])], [], []⟩ -- slices.IndexFunc[[]int,int]
noncomputable def fi154 : FnI := mkFn Tryz.f154 h154
def h155 : Hint := ⟨5, ⟨[], [30, 37, 44, 52, 61, 80, 103, 111, 134, 146], [], [], []⟩, [(2, [0, 1, 2, 3, 4, 10, 11])], [(2, [])], [], [(10, [0, 1, 2, 3, 4, 10, 11, 12]), (15, [0, 1, 2, 3, 4, 10, 11, 12, 13, 14]), (16, [0, 1, 2, 3, 4, 10, 11, 12, 13, 75]), (17, [0, 1, 2, 3, 4, 10, 11, 12, 13]), (18, [0, 1, 2, 3, 4, 10, 11, 12, 13, 97])]⟩
noncomputable def fi155 : FnI := mkFn Tryz.f155 h155
def h156 : Hint := ⟨2, ⟨[], [], [], [], []⟩, [(2, [0, 1, 9, 10, 11])], [(2, [0, 1, 4])], [], []⟩ -- slices.Compare[[]int,int]
noncomputable def fi156 : FnI := mkFn Tryz.f156 h156
def h157 : Hint := ⟨2, ⟨[], [], [], [], []⟩, [], [], [], []⟩
noncomputable def fi157 : FnI := mkFn Tryz.f157 h157
def h158 : Hint := ⟨1, ⟨[], [], [], [], []⟩, [], [], [], []⟩
noncomputable def fi158 : FnI := mkFn Tryz.f158 h158
def h159 : Hint := ⟨0, ⟨[], [], [], [], []⟩, [], [], [], []⟩
noncomputable def fi159 : FnI := mkFn Tryz.f159 h159
def h161 : Hint := ⟨0, ⟨[], [], [], [], []⟩, [], [], [], []⟩
noncomputable def fi161 : FnI := mkFn Tryz.f161 h161
def h162 : Hint := ⟨3, ⟨[], [18, 27, 43, 60], [], [], []⟩, [(2, [0, 1, 2, 6, 7, 8]), (7, [0, 1, 2, 6]), (9, [0, 1, 2, 6, 7, 8])], [(2, [0, 1, 2, 6, 7]), (7, []), (9, [0, 1, 2, 6, 7])], [], []⟩
noncomputable def fi162 : FnI := mkFn Tryz.f162 h162
def h163 : Hint := ⟨1, ⟨[], [], [], [], []⟩, [], [], [], []⟩
noncomputable def fi163 : FnI := mkFn Tryz.f163 h163
def h173 : Hint := ⟨1, ⟨[], [], [], [], []⟩, [], [], [], [(4, [0, 2]), (7, [0, 2])]⟩
noncomputable def fi173 : FnI := mkFn Tryz.f173 h173
def h174 : Hint := ⟨1, ⟨[], [], [], [], []⟩, [], [], [], [(4, [0, 2]), (7, [0, 2]), (10, [0, 2])]⟩
noncomputable def fi174 : FnI := mkFn Tryz.f174 h174
def h175 : Hint := ⟨3, ⟨[8, 49], [], [], [], []⟩, [(11, [1, 2, 3, 6, 8, 37, 38, 39])], [(11, [3, 6, 8])], [(15, [16])], [(8, [2, 6, 7])]⟩
noncomputable def fi175 : FnI := mkFn Tryz.f175 h175
def h204 : Hint := ⟨1, ⟨[], [], [], [], []⟩, [], [], [], []⟩
noncomputable def fi204 : FnI := mkFn Tryz.f204 h204
def h206 : Hint := ⟨2, ⟨[], [], [], [], []⟩, [], [], [], []⟩
noncomputable def fi206 : FnI := mkFn Tryz.f206 h206
def h207 : Hint := ⟨1, ⟨[], [], [], [], []⟩, [], [], [], []⟩
noncomputable def fi207 : FnI := mkFn Tryz.f207 h207
def h208 : Hint := ⟨1, ⟨[], [], [], [], []⟩, [], [], [], []⟩
noncomputable def fi208 : FnI := mkFn Tryz.f208 h208
def h209 : Hint := ⟨4, ⟨[0], [], [], [], []⟩, [(1, [0, 1, 2, 3, 8]), (4, [0, 1, 2, 3, 8, 9])], [(1, []), (4, [0, 1, 2, 3, 8])], [], [(6, [0, 1, 2, 3, 8, 9])]⟩
noncomputable def fi209 : FnI := mkFn Tryz.f209 h209
def h210 : Hint := ⟨4, ⟨[0], [29, 59], [], [], []⟩, [(4, [0, 3, 8, 9, 10, 11]), (8, [0, 3, 8, 9, 12])], [(4, [0, 3, 8, 9, 10]), (8, [])], [(6, [0]), (11, [0])], []⟩
noncomputable def fi210 : FnI := mkFn Tryz.f210 h210
def h211 : Hint := ⟨4, ⟨[0], [38], [], [], []⟩, [(5, [0, 1, 8, 9, 10, 11])], [(5, [])], [], [(10, [0, 1, 8, 9, 10, 11, 12])]⟩
noncomputable def fi211 : FnI := mkFn Tryz.f211 h211
def h212 : Hint := ⟨4, ⟨[], [40, 44, 48, 54], [], [], []⟩, [], [], [], [(11, [0, 3, 11, 12, 13, 14]), (12, [11, 13])]⟩
noncomputable def fi212 : FnI := mkFn Tryz.f212 h212
def h213 : Hint := ⟨4, ⟨[0], [], [], [], []⟩, [(2, [0, 8, 9])], [(2, [])], [], []⟩
noncomputable def fi213 : FnI := mkFn Tryz.f213 h213
def h214 : Hint := ⟨4, ⟨[0], [], [], [], []⟩, [(3, [0, 1, 2, 3, 9, 10]), (5, [0, 1, 2, 3, 9, 10]), (14, [0, 1, 2, 3, 9, 10, 11]), (20, [0, 1, 2, 3, 9, 10, 12])], [(3, [8]), (5, [0, 1, 2, 3, 9, 10]), (14, [0, 1, 2, 3, 9, 10]), (20, [0, 1, 2, 3, 9, 10])], [], [(7, [0, 1, 2, 3, 9, 10]), (18, [0, 1, 2, 3, 9, 10])]⟩
noncomputable def fi214 : FnI := mkFn Tryz.f214 h214
def h215 : Hint := ⟨5, ⟨[0], [], [], [], []⟩, [(3, [0, 1, 4, 11, 12]), (5, [0, 1, 4, 11, 12])], [(3, [0, 1, 4, 11, 12]), (5, [0, 1, 4, 11, 12])], [], [(5, [0, 1, 4, 11, 12]), (7, [0, 1, 4, 11, 12])]⟩
noncomputable def fi215 : FnI := mkFn Tryz.f215 h215
def h216 : Hint := ⟨5, ⟨[0], [], [], [], []⟩, [(3, [0, 1, 4, 12, 13]), (5, [0, 1, 4, 12, 13]), (13, [0, 1, 4, 12, 13]), (15, [0, 1, 4, 12, 13])], [(3, [0, 1, 4, 12, 13]), (5, [0, 1, 4, 12, 13]), (13, [0, 1, 4, 12, 13]), (15, [0, 1, 4, 12, 13])], [], [(5, [0, 1, 4, 12, 13]), (7, [0, 1, 4, 12, 13]), (15, [0, 1, 4, 12, 13]), (17, [0, 1, 4, 12, 13])]⟩
noncomputable def fi216 : FnI := mkFn Tryz.f216 h216
def h217 : Hint := ⟨2, ⟨[], [], [], [], []⟩, [], [], [], []⟩
noncomputable def fi217 : FnI := mkFn Tryz.f217 h217
def h218 : Hint := ⟨4, ⟨[0], [32], [], [], []⟩, [(1, [0, 1, 2, 3, 8]), (4, [0, 1, 2, 3, 8, 9])], [(1, []), (4, [0, 1, 2, 3, 8])], [], [(6, [0, 1, 2, 3, 8, 9])]⟩
noncomputable def fi218 : FnI := mkFn Tryz.f218 h218
def h219 : Hint := ⟨5, ⟨[0], [49, 101, 169, 191, 205, 219], [], [], []⟩, [(3, [0, 1, 4, 10, 11]), (9, [0, 10, 13]), (15, [0, 2, 4, 14, 15]), (21, [0, 14, 17]), (33, [0, 1, 2, 3, 4, 18, 19, 20, 21, 22])], [(3, [0, 1, 10]), (9, []), (15, [0, 2, 14]), (21, []), (33, [0, 1, 2, 3, 4, 18, 19, 20])], [(40, [0]), (42, [0]), (44, [0])], [(32, [0, 1, 2, 3, 4, 18, 19, 20, 21]), (40, [0, 1, 2, 3, 4, 18, 20, 24, 185]), (41, [0, 1, 3, 4, 18, 20, 24]), (42, [0, 1, 3, 4, 18, 20, 24, 199]), (43, [0, 3, 4, 18, 24]), (44, [0, 3, 4, 18, 24, 213])]⟩
noncomputable def fi219 : FnI := mkFn Tryz.f219 h219
def h220 : Hint := ⟨1, ⟨[], [], [], [], []⟩, [], [], [], []⟩
noncomputable def fi220 : FnI := mkFn Tryz.f220 h220
def h221 : Hint := ⟨2, ⟨[], [], [], [], []⟩, [], [], [], []⟩
noncomputable def fi221 : FnI := mkFn Tryz.f221 h221
def h222 : Hint := ⟨2, ⟨[], [], [], [], []⟩, [], [], [], []⟩
noncomputable def fi222 : FnI := mkFn Tryz.f222 h222
def h223 : Hint := ⟨2, ⟨[], [], [], [], []⟩, [], [], [], []⟩
noncomputable def fi223 : FnI := mkFn Tryz.f223 h223
def h224 : Hint := ⟨2, ⟨[], [], [], [], []⟩, [], [], [], []⟩
noncomputable def fi224 : FnI := mkFn Tryz.f224 h224
def h225 : Hint := ⟨2, ⟨[], [], [], [], []⟩, [], [], [], []⟩
noncomputable def fi225 : FnI := mkFn Tryz.f225 h225
def h226 : Hint := ⟨1, ⟨[], [], [], [], []⟩, [], [], [], []⟩
noncomputable def fi226 : FnI := mkFn Tryz.f226 h226
def h227 : Hint := ⟨1, ⟨[], [], [], [], []⟩, [], [], [], []⟩
noncomputable def fi227 : FnI := mkFn Tryz.f227 h227
def h228 : Hint := ⟨1, ⟨[], [], [], [], []⟩, [], [], [], []⟩
noncomputable def fi228 : FnI := mkFn Tryz.f228 h228
def h229 : Hint := ⟨1, ⟨[], [], [], [], []⟩, [], [], [], []⟩
noncomputable def fi229 : FnI := mkFn Tryz.f229 h229
def h230 : Hint := ⟨1, ⟨[], [], [], [], []⟩, [], [], [], []⟩
noncomputable def fi230 : FnI := mkFn Tryz.f230 h230
def h231 : Hint := ⟨1, ⟨[], [], [], [], []⟩, [], [], [], []⟩
noncomputable def fi231 : FnI := mkFn Tryz.f231 h231
def h233 : Hint := ⟨1, ⟨[], [], [], [], []⟩, [], [], [], []⟩
noncomputable def fi233 : FnI := mkFn Tryz.f233 h233
def h234 : Hint := ⟨1, ⟨[], [], [], [], []⟩, [], [], [], []⟩
noncomputable def fi234 : FnI := mkFn Tryz.f234 h234
def h237 : Hint := ⟨1, ⟨[], [], [], [], []⟩, [], [], [], []⟩
noncomputable def fi237 : FnI := mkFn Tryz.f237 h237
def h249 : Hint := ⟨5, ⟨[0], [], [], [], []⟩, [(1, [0, 2, 3, 4, 10])], [(1, [])], [], [(5, [0, 2, 3, 4, 10, 11])]⟩
noncomputable def fi249 : FnI := mkFn Tryz.f249 h249
def h250 : Hint := ⟨4, ⟨[], [17], [], [], []⟩, [], [], [], []⟩
noncomputable def fi250 : FnI := mkFn Tryz.f250 h250
def h251 : Hint := ⟨6, ⟨[], [19, 28, 37], [], [], []⟩, [], [], [], []⟩
noncomputable def fi251 : FnI := mkFn Tryz.f251 h251
def h252 : Hint := ⟨5, ⟨[], [31, 46, 57], [], [], []⟩, [(2, [0, 2, 4, 10, 11])], [(2, [0, 2, 4, 10])], [], []⟩
noncomputable def fi252 : FnI := mkFn Tryz.f252 h252
def h253 : Hint := ⟨2, ⟨[], [], [], [], []⟩, [], [], [], []⟩
noncomputable def fi253 : FnI := mkFn Tryz.f253 h253
def h254 : Hint := ⟨3, ⟨[], [], [], [], []⟩, [], [], [], []⟩
noncomputable def fi254 : FnI := mkFn Tryz.f254 h254
def h255 : Hint := ⟨2, ⟨[], [], [], [], []⟩, [], [], [], []⟩
noncomputable def fi255 : FnI := mkFn Tryz.f255 h255
def h256 : Hint := ⟨2, ⟨[], [], [], [], []⟩, [], [], [], []⟩
noncomputable def fi256 : FnI := mkFn Tryz.f256 h256
def h257 : Hint := ⟨2, ⟨[], [], [], [], []⟩, [], [], [], [(5, [0, 1, 6, 7, 8])]⟩
noncomputable def fi257 : FnI := mkFn Tryz.f257 h257
def h258 : Hint := ⟨2, ⟨[], [], [], [], []⟩, [], [], [], []⟩
noncomputable def fi258 : FnI := mkFn Tryz.f258 h258
def h259 : Hint := ⟨1, ⟨[], [], [], [], []⟩, [], [], [], []⟩
noncomputable def fi259 : FnI := mkFn Tryz.f259 h259
def h260 : Hint := ⟨2, ⟨[], [], [], [], []⟩, [], [], [], [(3, [0, 1])]⟩
noncomputable def fi260 : FnI := mkFn Tryz.f260 h260
def h261 : Hint := ⟨4, ⟨[], [], [], [], []⟩, [], [], [], []⟩
noncomputable def fi261 : FnI := mkFn Tryz.f261 h261
def h262 : Hint := ⟨1, ⟨[], [], [], [], []⟩, [], [], [], []⟩
noncomputable def fi262 : FnI := mkFn Tryz.f262 h262
def h267 : Hint := ⟨5, ⟨[], [], [], [], []⟩, [], [], [], []⟩
noncomputable def fi267 : FnI := mkFn Tryz.f267 h267
def h268 : Hint := ⟨5, ⟨[0], [], [], [], []⟩, [(1, [0, 1, 2, 3, 10])], [(1, [])], [], []⟩
noncomputable def fi268 : FnI := mkFn Tryz.f268 h268
noncomputable def tab : List (Nat × FnI) := [(4, fi4), (5, fi5), (10, fi10), (11, fi11), (12, fi12), (13, fi13), (14, fi14), (15, fi15), (16, fi16), (17, fi17), (18, fi18), (19, fi19), (30, fi30), (31, fi31), (32, fi32), (33, fi33), (34, fi34), (35, fi35), (36, fi36), (37, fi37), (38, fi38), (39, fi39), (40, fi40), (41, fi41), (42, fi42), (43, fi43), (44, fi44), (45, fi45), (46, fi46), (47, fi47), (48, fi48), (49, fi49), (50, fi50), (51, fi51), (52, fi52), (53, fi53), (81, fi81), (82, fi82), (83, fi83), (84, fi84), (85, fi85), (86, fi86), (87, fi87), (88, fi88), (89, fi89), (90, fi90), (91, fi91), (92, fi92), (93, fi93), (94, fi94), (95, fi95), (96, fi96), (97, fi97), (99, fi99), (100, fi100), (101, fi101), (102, fi102), (103, fi103), (104, fi104), (105, fi105), (152, fi152), (154, fi154), (155, fi155), (156, fi156), (157, fi157), (158, fi158), (159, fi159), (161, fi161), (162, fi162), (163, fi163), (173, fi173), (174, fi174), (175, fi175), (204, fi204), (206, fi206), (207, fi207), (208, fi208), (209, fi209), (210, fi210), (211, fi211), (212, fi212), (213, fi213), (214, fi214), (215, fi215), (216, fi216), (217, fi217), (218, fi218), (219, fi219), (220, fi220), (221, fi221), (222, fi222), (223, fi223), (224, fi224), (225, fi225), (226, fi226), (227, fi227), (228, fi228), (229, fi229), (230, fi230), (231, fi231), (233, fi233), (234, fi234), (237, fi237), (249, fi249), (250, fi250), (251, fi251), (252, fi252), (253, fi253), (254, fi254), (255, fi255), (256, fi256), (257, fi257), (258, fi258), (259, fi259), (260, fi260), (261, fi261), (262, fi262), (267, fi267), (268, fi268)]
noncomputable def etab : List (Nat × ExtF) := [(38, cloneExt 0), (100, cloneExt 3), (45, sortExt), (46, compactExt), (174, len64Ext), (258, mul64Ext), (160, add64Ext)]
noncomputable def cfg : Cfg := ⟨ty, lookF tab, lookE etab⟩
instance gl0 : Gl := Gl.triv
theorem clone38 : CloneB cfg fi38 0 := fun call xs => ⟨by kernel_rfl, by kernel_rfl⟩
theorem clone100 : CloneB cfg fi100 3 := fun call xs => ⟨by kernel_rfl, by kernel_rfl⟩
theorem tys : tysB Tryz.prog cfg = true := by kernel_rfl
theorem fns : AllF Tryz.prog cfg tab := ⟨fnB_ok Tryz.func4 (by kernel_rfl), fnB_ok Tryz.func5 (by kernel_rfl), fnB_ok Tryz.func10 (by kernel_rfl), fnB_ok Tryz.func11 (by kernel_rfl), fnB_ok Tryz.func12 (by kernel_rfl), fnB_ok Tryz.func13 (by kernel_rfl), fnB_ok Tryz.func14 (by kernel_rfl), fnB_ok Tryz.func15 (by kernel_rfl), fnB_ok Tryz.func16 (by kernel_rfl), fnB_ok Tryz.func17 (by kernel_rfl), fnB_ok Tryz.func18 (by kernel_rfl), fnB_ok Tryz.func19 (by kernel_rfl), fnB_ok Tryz.func30 (by kernel_rfl), fnB_ok Tryz.func31 (by kernel_rfl), fnB_ok Tryz.func32 (by kernel_rfl), fnB_ok Tryz.func33 (by kernel_rfl), fnB_ok Tryz.func34 (by kernel_rfl), fnB_ok Tryz.func35 (by kernel_rfl), fnB_ok Tryz.func36 (by kernel_rfl), fnB_ok Tryz.func37 (by kernel_rfl), fnB_ok Tryz.func38 (by kernel_rfl), fnB_ok Tryz.func39 (by kernel_rfl), fnB_ok Tryz.func40 (by kernel_rfl), fnB_ok Tryz.func41 (by kernel_rfl), fnB_ok Tryz.func42 (by kernel_rfl), fnB_ok Tryz.func43 (by kernel_rfl), fnB_ok Tryz.func44 (by kernel_rfl), fnB_ok Tryz.func45 (by kernel_rfl), fnB_ok Tryz.func46 (by kernel_rfl), fnB_ok Tryz.func47 (by kernel_rfl), fnB_ok Tryz.func48 (by kernel_rfl), fnB_ok Tryz.func49 (by kernel_rfl), fnB_ok Tryz.func50 (by kernel_rfl), fnB_ok Tryz.func51 (by kernel_rfl), fnB_ok Tryz.func52 (by kernel_rfl), fnB_ok Tryz.func53 (by kernel_rfl), fnB_ok Tryz.func81 (by kernel_rfl), fnB_ok Tryz.func82 (by kernel_rfl), fnB_ok Tryz.func83 (by kernel_rfl), fnB_ok Tryz.func84 (by kernel_rfl), fnB_ok Tryz.func85 (by kernel_rfl), fnB_ok Tryz.func86 (by kernel_rfl), fnB_ok Tryz.func87 (by kernel_rfl), fnB_ok Tryz.func88 (by kernel_rfl), fnB_ok Tryz.func89 (by kernel_rfl), fnB_ok Tryz.func90 (by kernel_rfl), fnB_ok Tryz.func91 (by kernel_rfl), fnB_ok Tryz.func92 (by kernel_rfl), fnB_ok Tryz.func93 (by kernel_rfl), fnB_ok Tryz.func94 (by kernel_rfl), fnB_ok Tryz.func95 (by kernel_rfl), fnB_ok Tryz.func96 (by kernel_rfl), fnB_ok Tryz.func97 (by kernel_rfl), fnB_ok Tryz.func99 (by kernel_rfl), fnB_ok Tryz.func100 (by kernel_rfl), fnB_ok Tryz.func101 (by kernel_rfl), fnB_ok Tryz.func102 (by kernel_rfl), fnB_ok Tryz.func103 (by kernel_rfl), fnB_ok Tryz.func104 (by kernel_rfl), fnB_ok Tryz.func105 (by kernel_rfl), fnB_ok Tryz.func152 (by kernel_rfl), fnB_ok Tryz.func154 (by kernel_rfl), fnB_ok Tryz.func155 (by kernel_rfl), fnB_ok Tryz.func156 (by kernel_rfl), fnB_ok Tryz.func157 (by kernel_rfl), fnB_ok Tryz.func158 (by kernel_rfl), fnB_ok Tryz.func159 (by kernel_rfl), fnB_ok Tryz.func161 (by kernel_rfl), fnB_ok Tryz.func162 (by kernel_rfl), fnB_ok Tryz.func163 (by kernel_rfl), fnB_ok Tryz.func173 (by kernel_rfl), fnB_ok Tryz.func174 (by kernel_rfl), fnB_ok Tryz.func175 (by kernel_rfl), fnB_ok Tryz.func204 (by kernel_rfl), fnB_ok Tryz.func206 (by kernel_rfl), fnB_ok Tryz.func207 (by kernel_rfl), fnB_ok Tryz.func208 (by kernel_rfl), fnB_ok Tryz.func209 (by kernel_rfl), fnB_ok Tryz.func210 (by kernel_rfl), fnB_ok Tryz.func211 (by kernel_rfl), fnB_ok Tryz.func212 (by kernel_rfl), fnB_ok Tryz.func213 (by kernel_rfl), fnB_ok Tryz.func214 (by kernel_rfl), fnB_ok Tryz.func215 (by kernel_rfl), fnB_ok Tryz.func216 (by kernel_rfl), fnB_ok Tryz.func217 (by kernel_rfl), fnB_ok Tryz.func218 (by kernel_rfl), fnB_ok Tryz.func219 (by kernel_rfl), fnB_ok Tryz.func220 (by kernel_rfl), fnB_ok Tryz.func221 (by kernel_rfl), fnB_ok Tryz.func222 (by kernel_rfl), fnB_ok Tryz.func223 (by kernel_rfl), fnB_ok Tryz.func224 (by kernel_rfl), fnB_ok Tryz.func225 (by kernel_rfl), fnB_ok Tryz.func226 (by kernel_rfl), fnB_ok Tryz.func227 (by kernel_rfl), fnB_ok Tryz.func228 (by kernel_rfl), fnB_ok Tryz.func229 (by kernel_rfl), fnB_ok Tryz.func230 (by kernel_rfl), fnB_ok Tryz.func231 (by kernel_rfl), fnB_ok Tryz.func233 (by kernel_rfl), fnB_ok Tryz.func234 (by kernel_rfl), fnB_ok Tryz.func237 (by kernel_rfl), fnB_ok Tryz.func249 (by kernel_rfl), fnB_ok Tryz.func250 (by kernel_rfl), fnB_ok Tryz.func251 (by kernel_rfl), fnB_ok Tryz.func252 (by kernel_rfl), fnB_ok Tryz.func253 (by kernel_rfl), fnB_ok Tryz.func254 (by kernel_rfl), fnB_ok Tryz.func255 (by kernel_rfl), fnB_ok Tryz.func256 (by kernel_rfl), fnB_ok Tryz.func257 (by kernel_rfl), fnB_ok Tryz.func258 (by kernel_rfl), fnB_ok Tryz.func259 (by kernel_rfl), fnB_ok Tryz.func260 (by kernel_rfl), fnB_ok Tryz.func261 (by kernel_rfl), fnB_ok Tryz.func262 (by kernel_rfl), fnB_ok Tryz.func267 (by kernel_rfl), fnB_ok Tryz.func268 (by kernel_rfl), trivial⟩
theorem exts : ∀ f g, cfg.ext f = some g → ExtOK Tryz.prog f g := allE_look (tab := etab) ⟨clone_ok (tysB_ok tys) (fnB_ok Tryz.func38 (by kernel_rfl)) clone38, clone_ok (tysB_ok tys) (fnB_ok Tryz.func100 (by kernel_rfl)) clone100, sort_ok ⟨⟨Tryz.f45, Tryz.func45, by kernel_rfl, by kernel_rfl⟩, fun b o c z w h1 h2 h3 => Tryz.slices_Sort_int b o c z w h1 h2 h3, fun p c w => Tryz.slices_Sort_int_none p c w⟩, compact_ok ⟨⟨Tryz.f46, Tryz.func46, by kernel_rfl, by kernel_rfl⟩, fun b o c z w h1 h2 h3 => Tryz.slices_Compact_int b o c z w h1 h2 h3, fun p c w => Tryz.slices_Compact_int_empty p c w⟩, len64_ok ⟨⟨Tryz.f174, Tryz.func174, by kernel_rfl, by kernel_rfl⟩, fun x w h1 h2 => Tryz.bits_Len64 x w h1 h2⟩, mul64_ok ⟨⟨Tryz.f258, Tryz.func258, by kernel_rfl, by kernel_rfl⟩, fun x y h1 h2 w => Tryz.bits_Mul64 x y h1 h2 w⟩, add64_ok (fun x y c h1 h2 h3 h4 w => by rw [run_callFunc_extern Tryz.func160 (by kernel_rfl) (by kernel_rfl) (by kernel_rfl) (e := Go.add64Entry) (by kernel_rfl), Go.run_add64 x y c h1 h2 h3 h4 w]; rfl), trivial⟩
theorem cfg_ext38 : cfg.ext 38 = some (cloneExt 0) := by kernel_rfl
theorem cfg_ext100 : cfg.ext 100 = some (cloneExt 3) := by kernel_rfl
theorem cfg_ext45 : cfg.ext 45 = some sortExt := by kernel_rfl
theorem cfg_ext46 : cfg.ext 46 = some compactExt := by kernel_rfl
theorem cfg_ext174 : cfg.ext 174 = some len64Ext := by kernel_rfl
theorem cfg_ext258 : cfg.ext 258 = some mul64Ext := by kernel_rfl
theorem cfg_ext160 : cfg.ext 160 = some add64Ext := by kernel_rfl
end Go.Cf

namespace Go.Cf
open Go Go.Ab
set_option linter.unusedVariables false
set_option maxRecDepth 100000
def n_main_main : Nat := 0
def n_gosem_cut : Nat := 1
def n_gosem_cut_init : Nat := 2
def n_roadbooklaw12_RunWays : Nat := 3
def n_roadbooklaw03_BagPicks : Nat := 4
def n_roadbooklaw03_BagKeeps : Nat := 5
def n_roadbooklaw12_RunTells : Nat := 6
def n_roadbooklaw12_awake : Nat := 7
def n_roadbooklaw12_fits : Nat := 8
def n_run_Rows : Nat := 9
def n_roadbookref03_Like : Nat := 10
def n_roadbooklaw03_awake : Nat := 11
def n_roadbooklaw03_few : Nat := 12
def n_roadbooklaw03_light : Nat := 13
def n_bag_Pick : Nat := 14
def n_bag_May : Nat := 15
def n_expr_Cols : Nat := 16
def n_roadbookref03_Place : Nat := 17
def n_bag_Keep : Nat := 18
def n_bag_Cross : Nat := 19
def n_roadbookref12_Rows : Nat := 20
def n_run_Do : Nat := 21
def n_roadbookref12_Do : Nat := 22
def n_roadbooklaw04_Two : Nat := 23
def n_roadbooklaw07_Far : Nat := 24
def n_roadbooklaw07_Light : Nat := 25
def n_roadbookref11_Size : Nat := 26
def n_plan_May : Nat := 27
def n_data_Fits : Nat := 28
def n_run_maker_rows : Nat := 29
def n_roadbookref02_Ints : Nat := 30
def n_roadbookref03_Row : Nat := 31
def n_bag_Group : Nat := 32
def n_roadbooklaw03_Three : Nat := 33
def n_bag_Sorted : Nat := 34
def n_bag_Sort : Nat := 35
def n_roadbookref02_Few : Nat := 36
def n_slices_Index_int_int : Nat := 37
def n_slices_Clone_int_int : Nat := 38
def n_bag_May_1 : Nat := 39
def n_val_May : Nat := 40
def n_slices_ContainsFunc_api_Val_api_Val_c5fc : Nat := 41
def n_expr_May : Nat := 42
def n_expr_each : Nat := 43
def n_expr_Cols_1 : Nat := 44
def n_slices_Sort_int_int : Nat := 45
def n_slices_Compact_int_int : Nat := 46
def n_bag_some : Nat := 47
def n_bag_Keep_1 : Nat := 48
def n_slices_ContainsFunc_api_Expr_api_Expr : Nat := 49
def n_bag_Keep_1_1 : Nat := 50
def n_expr_Keeps : Nat := 51
def n_slices_Concat_int_int : Nat := 52
def n_slices_Concat_api_Val_api_Val : Nat := 53
def n_roadbookref11_May : Nat := 54
def n_roadbookref04_Fits : Nat := 55
def n_roadbookref12_rows : Nat := 56
def n_plan_Fine : Nat := 57
def n_means_Finish : Nat := 58
def n_roadbookref11_Fine : Nat := 59
def n_roadbookref07_Finish : Nat := 60
def n_roadbookref03_Sort : Nat := 61
def n_roadbooklaw07_few : Nat := 62
def n_plan_Tree : Nat := 63
def n_query_May : Nat := 64
def n_tree_Set : Nat := 65
def n_plan_each : Nat := 66
def n_plan_May_1 : Nat := 67
def n_plan_part_fits : Nat := 68
def n_data_May : Nat := 69
def n_data_Fits_1 : Nat := 70
def n_data_row : Nat := 71
def n_slices_ContainsFunc_api_Val_api_Val_3020 : Nat := 72
def n_data_Of : Nat := 73
def n_run_maker_of : Nat := 74
def n_query_Own : Nat := 75
def n_run_set : Nat := 76
def n_run_maker_nest : Nat := 77
def n_run_maker_hash : Nat := 78
def n_run_maker_merge : Nat := 79
def n_query_New : Nat := 80
def n_bag_Group_1 : Nat := 81
def n_slices_Contains_int_int : Nat := 82
def n_slices_ContainsFunc_int_int : Nat := 83
def n_bag_of : Nat := 84
def n_slices_SortFunc_bag_key_bag_key : Nat := 85
def n_bag_compare : Nat := 86
def n_val_Of : Nat := 87
def n_val_Sum : Nat := 88
def n_slices_IsSortedFunc_api_Val_api_Val : Nat := 89
def n_bag_Sorted_1 : Nat := 90
def n_bag_Sort_1 : Nat := 91
def n_slices_SortStableFunc_api_Val_api_Val : Nat := 92
def n_bag_Sort_2 : Nat := 93
def n_roadbookref02_size : Nat := 94
def n_slices_IndexFunc_api_Val_api_Val_b1f6 : Nat := 95
def n_expr_May_1 : Nat := 96
def n_expr_part : Nat := 97
def n_slices_pdqsortOrdered_int : Nat := 98
def n_bits_Len : Nat := 99
def n_slices_Clone_api_Val_api_Val : Nat := 100
def n_slices_IndexFunc_api_Expr_api_Expr : Nat := 101
def n_val_True : Nat := 102
def n_expr_Eval : Nat := 103
def n_slices_Grow_int_int : Nat := 104
def n_slices_Grow_api_Val_api_Val : Nat := 105
def n_roadbookref11_Tree : Nat := 106
def n_roadbookref05_May : Nat := 107
def n_roadbookref06_Leaves : Nat := 108
def n_roadbookref11_fits : Nat := 109
def n_roadbookref04_May : Nat := 110
def n_roadbookref01_May : Nat := 111
def n_roadbookref04_Of : Nat := 112
def n_roadbookref05_Own : Nat := 113
def n_roadbookref11_Set : Nat := 114
def n_roadbookref03_Keep : Nat := 115
def n_roadbookref12_some : Nat := 116
def n_roadbookref03_Cross : Nat := 117
def n_roadbookref05_New : Nat := 118
def n_plan_Order : Nat := 119
def n_roadbookref11_full : Nat := 120
def n_roadbookref11_Order : Nat := 121
def n_roadbookref03_Pick : Nat := 122
def n_roadbookref03_Group : Nat := 123
def n_roadbookref03_less : Nat := 124
def n_roadbooklaw05_Far : Nat := 125
def n_roadbooklaw04_Far : Nat := 126
def n_plan_Few : Nat := 127
def n_plan_treeOf : Nat := 128
def n_tree_May : Nat := 129
def n_query_May_1 : Nat := 130
def n_query_all : Nat := 131
def n_query_May_2 : Nat := 132
def n_query_within : Nat := 133
def n_query_once : Nat := 134
def n_tree_set : Nat := 135
def n_query_Cols : Nat := 136
def n_plan_part_set : Nat := 137
def n_slices_Contains_2_int_2_int : Nat := 138
def n_query_Pairs : Nat := 139
def n_data_in : Nat := 140
def n_slices_ContainsFunc_api_Def_api_Def : Nat := 141
def n_data_May_1 : Nat := 142
def n_data_one : Nat := 143
def n_data_row_1 : Nat := 144
def n_slices_IndexFunc_api_Val_api_Val_fa1b : Nat := 145
def n_data_Col : Nat := 146
def n_query_some : Nat := 147
def n_query_set_holds : Nat := 148
def n_run_keyOf : Nat := 149
def n_run_with : Nat := 150
def n_val_Less : Nat := 151
def n_val_Eq : Nat := 152
def n_query_New_1 : Nat := 153
def n_slices_IndexFunc_int_int : Nat := 154
def n_slices_pdqsortCmpFunc_bag_key : Nat := 155
def n_slices_Compare_int_int : Nat := 156
def n_val_some_api_Val : Nat := 157
def n_val_kind : Nat := 158
def n_val_bad : Nat := 159
def n_bits_Add64 : Nat := 160
def n_val_null : Nat := 161
def n_slices_stableCmpFunc_api_Val : Nat := 162
def n_expr_ways : Nat := 163
def n_slices_insertionSortOrdered_int : Nat := 164
def n_slices_heapSortOrdered_int : Nat := 165
def n_slices_breakPatternsOrdered_int : Nat := 166
def n_slices_choosePivotOrdered_int : Nat := 167
def n_slices_reverseRangeOrdered_int : Nat := 168
def n_slices_partialInsertionSortOrdered_int : Nat := 169
def n_cmp_Less_int : Nat := 170
def n_slices_partitionEqualOrdered_int : Nat := 171
def n_slices_partitionOrdered_int : Nat := 172
def n_bits_Len32 : Nat := 173
def n_bits_Len64 : Nat := 174
def n_expr_eval : Nat := 175
def n_roadbookref11_Few : Nat := 176
def n_roadbookref11_shape : Nat := 177
def n_roadbookref06_May : Nat := 178
def n_roadbookref02_Cols : Nat := 179
def n_roadbookref05_column : Nat := 180
def n_roadbookref06_leaves : Nat := 181
def n_roadbookref05_Cols : Nat := 182
def n_roadbookref05_Pairs : Nat := 183
def n_roadbookref05_part : Nat := 184
def n_roadbookref05_Of : Nat := 185
def n_roadbookref06_Set : Nat := 186
def n_roadbookref02_Keeps : Nat := 187
def n_roadbookref03_May : Nat := 188
def n_roadbookref01_Sum : Nat := 189
def n_roadbookref01_Less : Nat := 190
def n_roadbooklaw05_few : Nat := 191
def n_roadbooklaw04_few : Nat := 192
def n_plan_Few_1 : Nat := 193
def n_plan_part_form : Nat := 194
def n_tree_Leaf : Nat := 195
def n_tree_Join : Nat := 196
def n_query_within_1 : Nat := 197
def n_query_set_has : Nat := 198
def n_slices_Index_2_int_2_int : Nat := 199
def n_expr_Pair : Nat := 200
def n_query_of : Nat := 201
def n_slices_IndexFunc_api_Def_api_Def : Nat := 202
def n_query_Of : Nat := 203
def n_val_fine : Nat := 204
def n_cmp_Or_int : Nat := 205
def n_cmp_Compare_int : Nat := 206
def n_val_odd : Nat := 207
def n_val_of : Nat := 208
def n_slices_insertionSortCmpFunc_bag_key : Nat := 209
def n_slices_heapSortCmpFunc_bag_key : Nat := 210
def n_slices_breakPatternsCmpFunc_bag_key : Nat := 211
def n_slices_choosePivotCmpFunc_bag_key : Nat := 212
def n_slices_reverseRangeCmpFunc_bag_key : Nat := 213
def n_slices_partialInsertionSortCmpFunc_bag_key : Nat := 214
def n_slices_partitionEqualCmpFunc_bag_key : Nat := 215
def n_slices_partitionCmpFunc_bag_key : Nat := 216
def n_val_kind_1 : Nat := 217
def n_slices_insertionSortCmpFunc_api_Val : Nat := 218
def n_slices_symMergeCmpFunc_api_Val : Nat := 219
def n_expr_two : Nat := 220
def n_val_Add : Nat := 221
def n_val_Sub : Nat := 222
def n_val_Mul : Nat := 223
def n_val_Div : Nat := 224
def n_val_Lt : Nat := 225
def n_expr_ways_1 : Nat := 226
def n_val_And : Nat := 227
def n_expr_ways_2 : Nat := 228
def n_val_Or : Nat := 229
def n_expr_ways_3 : Nat := 230
def n_val_Not : Nat := 231
def n_slices_siftDownOrdered_int : Nat := 232
def n_slices_nextPowerOfTwo : Nat := 233
def n_slices_xorshift_Next : Nat := 234
def n_slices_medianAdjacentOrdered_int : Nat := 235
def n_slices_medianOrdered_int : Nat := 236
def n_cmp_isNaN_int : Nat := 237
def n_roadbookref11_form : Nat := 238
def n_roadbookref06_Join : Nat := 239
def n_roadbookref02_May : Nat := 240
def n_roadbookref02_Has : Nat := 241
def n_roadbookref05_Bit : Nat := 242
def n_roadbookref02_Pair : Nat := 243
def n_roadbookref02_Eval : Nat := 244
def n_roadbookref01_True : Nat := 245
def n_roadbookref01_fine : Nat := 246
def n_plan_part_plans : Nat := 247
def n_data_Split : Nat := 248
def n_slices_siftDownCmpFunc_bag_key : Nat := 249
def n_slices_medianAdjacentCmpFunc_bag_key : Nat := 250
def n_slices_medianCmpFunc_bag_key : Nat := 251
def n_slices_rotateCmpFunc_api_Val : Nat := 252
def n_expr_two_1 : Nat := 253
def n_val_reckon : Nat := 254
def n_val_Add_1 : Nat := 255
def n_val_Sub_1 : Nat := 256
def n_val_Mul_1 : Nat := 257
def n_bits_Mul64 : Nat := 258
def n_val_size : Nat := 259
def n_val_Div_1 : Nat := 260
def n_val_three : Nat := 261
def n_val_isFalse : Nat := 262
def n_slices_order2Ordered_int : Nat := 263
def n_roadbookref02_parts : Nat := 264
def n_roadbookref02_fine : Nat := 265
def n_roadbookref02_eval : Nat := 266
def n_slices_order2CmpFunc_bag_key : Nat := 267
def n_slices_swapRangeCmpFunc_api_Val : Nat := 268
def n_roadbookref02_many : Nat := 269
def n_roadbookref01_Add : Nat := 270
def n_roadbookref01_Sub : Nat := 271
def n_roadbookref01_Mul : Nat := 272
def n_roadbookref01_Div : Nat := 273
def n_roadbookref01_Eq : Nat := 274
def n_roadbookref01_Lt : Nat := 275
def n_roadbookref01_And : Nat := 276
def n_roadbookref01_Or : Nat := 277
def n_roadbookref01_Not : Nat := 278
def n_roadbookref01_odd : Nat := 279
def n_roadbookref01_two : Nat := 280
def n_roadbookref01_one : Nat := 281
def n_runtime_boundsError_Error : Nat := 282
def n_runtime_boundsError_RuntimeError : Nat := 283
def n_runtime_errorString_Error : Nat := 284
def n_runtime_errorString_RuntimeError : Nat := 285
def n_runtime_plainError_Error : Nat := 286
def n_runtime_plainError_RuntimeError : Nat := 287
def n_runtime_errorAddressString_Error : Nat := 288
def n_runtime_errorAddressString_RuntimeError : Nat := 289
def n_runtime_TypeAssertionError_Error : Nat := 290
def n_runtime_TypeAssertionError_RuntimeError : Nat := 291
def n_runtime_PanicNilError_Error : Nat := 292
def n_runtime_PanicNilError_RuntimeError : Nat := 293
def n_abi_Type_Align : Nat := 294
def n_maps_unhashableTypeError_Error : Nat := 295
def n_maps_unhashableTypeError_RuntimeError : Nat := 296
def n_abi_Kind_String : Nat := 297
def t_int64 : Nat := 2
def t_int : Nat := 3
def t_bool : Nat := 4
def t_uint8 : Nat := 5
def t_abi_BoundsErrorCode : Nat := 6
def t_struct_x_int64_y_int_signed_bool_code_abi_BoundsErrorCode : Nat := 7
def t_runtime_boundsError : Nat := 8
def t_string : Nat := 9
def t_runtime_errorString : Nat := 10
def t_runtime_plainError : Nat := 11
def t_uintptr : Nat := 12
def t_struct_msg_string_addr_uintptr : Nat := 13
def t_runtime_errorAddressString : Nat := 14
def t_runtime_TypeAssertionError : Nat := 15
def t_runtime_PanicNilError : Nat := 16
def t_abi_Type : Nat := 17
def t_struct_typ_abi_Type : Nat := 18
def t_maps_unhashableTypeError : Nat := 19
def t_int32 : Nat := 21
def t_s_api_Def : Nat := 22
def t_struct_T_s_api_Def : Nat := 23
def t_api_Cat : Nat := 24
def t_s_s_s_api_Val : Nat := 25
def t_struct_T_s_s_s_api_Val : Nat := 26
def t_api_Data : Nat := 27
def t_s_int : Nat := 28
def t_s_api_Expr : Nat := 29
def t_struct_Occ_s_int_P_s_api_Expr_By_int_Sums_s_int_Out_s_int_Ord_int : Nat := 30
def t_api_Query : Nat := 31
def t_a2_int : Nat := 32
def t_s_api_Plan : Nat := 33
def t_struct_Op_int_Occ_int_Pair_a2_int_L_s_api_Plan : Nat := 34
def t_api_Plan : Nat := 35
def t_s_s_api_Val : Nat := 38
def t_struct_Cols_s_int_Rows_s_s_api_Val : Nat := 39
def t_api_Bag : Nat := 40
def t_struct_K_int_N_int : Nat := 49
def t_api_Val : Nat := 50
def t_struct_Op_int_Col_int_V_api_Val_L_s_api_Expr : Nat := 51
def t_api_Expr : Nat := 52
def t_struct_P_api_Plan_End_int_Sort_bool : Nat := 58
def t_api_Whole : Nat := 59
def t_s_api_Val : Nat := 64
def t_struct_c_api_Cat_d_api_Data_q_api_Query : Nat := 70
def t_run_maker : Nat := 71
def t_a16_bool : Nat := 80
def t_struct_Cols_int_Rows_int : Nat := 95
def t_api_Def : Nat := 96
def t_s_api_Tree : Nat := 98
def t_struct_Occ_int_L_s_api_Tree : Nat := 99
def t_api_Tree : Nat := 100
def t_struct_api_Plan : Nat := 106
def t_plan_part : Nat := 107
def t_map_bag_key_s_s_api_Val : Nat := 121
def t_s_bag_key : Nat := 122
def t_bag_key : Nat := 123
def t_uint : Nat := 136
def t_s_s_int : Nat := 140
def t_s_a2_int : Nat := 159
def t_query_set : Nat := 168
def t_map_run_key_s_s_api_Val : Nat := 169
def t_run_key : Nat := 170
def t_uint64 : Nat := 181
def t_struct_low_int_high_int_of_func_s_api_Val_api_Val : Nat := 186
def t_expr_way : Nat := 187
def t_slices_sortedHint : Nat := 190
def t_uint32 : Nat := 198
def t_slices_xorshift : Nat := 225
def t_struct__interface_abi_Type_concrete_abi_Type_asserted_abi_Type_missingMethod_string : Nat := 246
def t_a0__runtime_PanicNilError : Nat := 248
def t_struct___a0__runtime_PanicNilError : Nat := 249
def t_abi_TFlag : Nat := 251
def t_abi_Kind : Nat := 252
def t_abi_NameOff : Nat := 255
def t_abi_TypeOff : Nat := 256
def t_struct_Size__uintptr_PtrBytes_uintptr_Hash_uint32_TFlag_abi_TFlag_Align__uint8_FieldAlign__uint8_Kind__abi_Kind_Equal_func_unsafe_Pointer_unsafe_Pointer_bool_GCData_uint8_Str_abi_NameOff_PtrToThis_abi_TypeOff : Nat := 257
def t_unsafe_Pointer : Nat := 259
theorem exW : ∃ W : Wf, W = evw cfg := ⟨_, rfl⟩
noncomputable def W : Wf := Classical.choose exW
theorem W_eq : W = evw cfg := Classical.choose_spec exW
theorem exT (fi : FnI) {R : Type} (fin : Ex → St → Option R) : ∃ jl : Jn R × Ln R, Tied cfg W fi fin jl.1 jl.2 := ⟨(_, _), tied cfg W fi fin⟩
theorem wq {f : FuncId} {fi : FnI} (he : cfg.ext f = none) (hf : cfg.fn f = some fi) (args : List PV) : wc W f args = body cfg W lpw fi args := by rw [W_eq]; exact evw_eq he hf args
theorem wqO {f : FuncId} {fi : FnI} (he : cfg.ext f = none) (hf : cfg.fn f = some fi) (raw : Bool) (args : List AV) (ow : List Ob) : W f raw args ow = bodyO cfg W lpw fi raw args ow := by rw [W_eq]; exact evw_eqO he hf raw args ow
theorem go {f : FuncId} {fi : FnI} {args : List PV} {r : Option PV} {jn : Jn PV} {ln : Ln PV} (he : cfg.ext f = none) (hf : cfg.fn f = some fi) (h : Tied cfg W fi (fin cfg fi) jn ln) (e : (bif args.length == fi.np then Gf cfg W fi jn ln fi.code [] ⟨args0 0 args, []⟩ (fin cfg fi) else none) = r) : wc W f args = r := (wq he hf args).trans ((h.body args).trans e)
theorem goO {f : FuncId} {fi : FnI} {raw : Bool} {n : Nat} {args : List AV} {ow : List Ob} {r : Option (AV × List Ob)} {jn : Jn (AV × List Ob)} {ln : Ln (AV × List Ob)} (he : cfg.ext f = none) (hf : cfg.fn f = some fi) (h : Tied cfg W fi (finO cfg fi raw n) jn ln) (hn : ow.length = n) (e : (bif args.length == fi.np then Gf cfg W fi jn ln fi.code [] ⟨args0A 0 args, ow⟩ (finO cfg fi raw n) else none) = r) : W f raw args ow = r := (wqO he hf raw args ow).trans ((h.bodyO args ow hn).trans e)
def c_b {R : Type} (p : PV) (K : Bool → Option R) : Option R := (PV.asBool p).bind fun zzx0 => K zzx0
@[simp] theorem c_b_mk (zzx0 : Bool) {R : Type} (K : Bool → Option R) : c_b (PV.bool zzx0) K = K zzx0 := rfl
def c_g_i64_i64 {R : Type} (p : PV) (K : Int → Int → Option R) : Option R := (PV.asAgg p).bind fun c0 => (c0[0]?).bind fun p1 => (PV.asIntK .i64 p1).bind fun zzx2 => (c0[1]?).bind fun p3 => (PV.asIntK .i64 p3).bind fun zzx4 => bif c0.length == 2 then (K zzx2 zzx4) else none
@[simp] theorem c_g_i64_i64_mk (zzx2 : Int) (zzx4 : Int) {R : Type} (K : Int → Int → Option R) : c_g_i64_i64 (PV.agg [(PV.int .i64 zzx2), (PV.int .i64 zzx4)]) K = K zzx2 zzx4 := rfl
def c_g_i64_i64_i64_i64_s6 {R : Type} (p : PV) (K : Int → Int → Int → Int → List PV → Option R) : Option R := (PV.asAgg p).bind fun c0 => (c0[0]?).bind fun p1 => (PV.asIntK .i64 p1).bind fun zzx2 => (c0[1]?).bind fun p3 => (PV.asIntK .i64 p3).bind fun zzx4 => (c0[2]?).bind fun p5 => (PV.asIntK .i64 p5).bind fun zzx6 => (c0[3]?).bind fun p7 => (PV.asIntK .i64 p7).bind fun zzx8 => (c0[4]?).bind fun p9 => (PV.asSlice 6 p9).bind fun zzx10 => bif c0.length == 5 then (K zzx2 zzx4 zzx6 zzx8 zzx10) else none
@[simp] theorem c_g_i64_i64_i64_i64_s6_mk (zzx2 : Int) (zzx4 : Int) (zzx6 : Int) (zzx8 : Int) (zzx10 : List PV) {R : Type} (K : Int → Int → Int → Int → List PV → Option R) : c_g_i64_i64_i64_i64_s6 (PV.agg [(PV.int .i64 zzx2), (PV.int .i64 zzx4), (PV.int .i64 zzx6), (PV.int .i64 zzx8), (PV.slice 6 zzx10)]) K = K zzx2 zzx4 zzx6 zzx8 zzx10 := rfl
def c_g_i64_i64_p {R : Type} (p : PV) (K : Int → Int → PV → Option R) : Option R := (PV.asAgg p).bind fun c0 => (c0[0]?).bind fun p1 => (PV.asIntK .i64 p1).bind fun zzx2 => (c0[1]?).bind fun p3 => (PV.asIntK .i64 p3).bind fun zzx4 => (c0[2]?).bind fun p5 => (some p5).bind fun zzx6 => bif c0.length == 3 then (K zzx2 zzx4 zzx6) else none
@[simp] theorem c_g_i64_i64_p_mk (zzx2 : Int) (zzx4 : Int) (zzx6 : PV) {R : Type} (K : Int → Int → PV → Option R) : c_g_i64_i64_p (PV.agg [(PV.int .i64 zzx2), (PV.int .i64 zzx4), zzx6]) K = K zzx2 zzx4 zzx6 := rfl
def c_g_s0_s0 {R : Type} (p : PV) (K : List PV → List PV → Option R) : Option R := (PV.asAgg p).bind fun c0 => (c0[0]?).bind fun p1 => (PV.asSlice 0 p1).bind fun zzx2 => (c0[1]?).bind fun p3 => (PV.asSlice 0 p3).bind fun zzx4 => bif c0.length == 2 then (K zzx2 zzx4) else none
@[simp] theorem c_g_s0_s0_mk (zzx2 : List PV) (zzx4 : List PV) {R : Type} (K : List PV → List PV → Option R) : c_g_s0_s0 (PV.agg [(PV.slice 0 zzx2), (PV.slice 0 zzx4)]) K = K zzx2 zzx4 := rfl
def c_i64 {R : Type} (p : PV) (K : Int → Option R) : Option R := (PV.asIntK .i64 p).bind fun zzx0 => K zzx0
@[simp] theorem c_i64_mk (zzx0 : Int) {R : Type} (K : Int → Option R) : c_i64 (PV.int .i64 zzx0) K = K zzx0 := rfl
def c_s0 {R : Type} (p : PV) (K : List PV → Option R) : Option R := (PV.asSlice 0 p).bind fun zzx0 => K zzx0
@[simp] theorem c_s0_mk (zzx0 : List PV) {R : Type} (K : List PV → Option R) : c_s0 (PV.slice 0 zzx0) K = K zzx0 := rfl
def c_s3 {R : Type} (p : PV) (K : List PV → Option R) : Option R := (PV.asSlice 3 p).bind fun zzx0 => K zzx0
@[simp] theorem c_s3_mk (zzx0 : List PV) {R : Type} (K : List PV → Option R) : c_s3 (PV.slice 3 zzx0) K = K zzx0 := rfl
def c_u64 {R : Type} (p : PV) (K : Int → Option R) : Option R := (PV.asIntK .u64 p).bind fun zzx0 => K zzx0
@[simp] theorem c_u64_mk (zzx0 : Int) {R : Type} (K : Int → Option R) : c_u64 (PV.int IntKind.u64 zzx0) K = K zzx0 := rfl
def k_5b106d {R : Type} (z : AV × List Ob) (K : PV → Int → Option R) : Option R := (AV.asPv z.1).bind fun q0 => (some q0).bind fun zzx1 => (z.2[0]?).bind fun p2 => (Ob.asVar false 0 p2).bind fun a3 => (AV.asPv a3).bind fun q4 => (PV.asIntK .i64 q4).bind fun zzx5 => bif z.2.length == 1 then (K zzx1 zzx5) else none
@[simp] theorem k_5b106d_mk (zzx1 : PV) (zzx5 : Int) {R : Type} (K : PV → Int → Option R) : k_5b106d ((AV.pv zzx1), [(Ob.var false 0 (AV.pv (PV.int .i64 zzx5)))]) K = K zzx1 zzx5 := rfl
def k_83ed81 {R : Type} (z : AV × List Ob) (K : List PV → Option R) : Option R := bif AV.isView 0 z.1 then ((z.2[0]?).bind fun p0 => (Ob.asRow false 0 3 p0).bind fun zzx1 => bif z.2.length == 1 then (K zzx1) else none) else none
@[simp] theorem k_83ed81_mk (zzx1 : List PV) {R : Type} (K : List PV → Option R) : k_83ed81 ((AV.view 0 0 none), [(Ob.row false 0 (3 : Nat) zzx1)]) K = K zzx1 := rfl
def k_b2223f {R : Type} (z : AV × List Ob) (K : PV → List PV → Option R) : Option R := (AV.asPv z.1).bind fun q0 => (some q0).bind fun zzx1 => (z.2[0]?).bind fun p2 => (Ob.asVar false 0 p2).bind fun a3 => bif AV.isView 1 a3 then ((z.2[1]?).bind fun p4 => (Ob.asRow false 0 0 p4).bind fun zzx5 => bif z.2.length == 2 then (K zzx1 zzx5) else none) else none
@[simp] theorem k_b2223f_mk (zzx1 : PV) (zzx5 : List PV) {R : Type} (K : PV → List PV → Option R) : k_b2223f ((AV.pv zzx1), [(Ob.var false 0 (AV.view 1 0 none)), (Ob.row false 0 0 zzx5)]) K = K zzx1 zzx5 := rfl
def k_b7636c {R : Type} (z : AV × List Ob) (K : PV → Option R) : Option R := (AV.asPv z.1).bind fun q0 => (some q0).bind fun zzx1 => (z.2[0]?).bind fun p2 => bif Ob.isDead p2 then (bif z.2.length == 1 then (K zzx1) else none) else none
@[simp] theorem k_b7636c_mk (zzx1 : PV) {R : Type} (K : PV → Option R) : k_b7636c ((AV.pv zzx1), [Ob.dead]) K = K zzx1 := rfl
def k_cad770 {R : Type} (z : AV × List Ob) (K : PV → List PV → Option R) : Option R := (AV.asPv z.1).bind fun q0 => (some q0).bind fun zzx1 => (z.2[0]?).bind fun p2 => (Ob.asFix 0 0 p2).bind fun zzx3 => bif z.2.length == 1 then (K zzx1 zzx3) else none
@[simp] theorem k_cad770_mk (zzx1 : PV) (zzx3 : List PV) {R : Type} (K : PV → List PV → Option R) : k_cad770 ((AV.pv zzx1), [(Ob.fix 0 0 zzx3)]) K = K zzx1 zzx3 := rfl
def k_d697de {R : Type} (z : AV × List Ob) (K : List PV → Option R) : Option R := bif AV.isView 0 z.1 then ((z.2[0]?).bind fun p0 => (Ob.asRow false 0 0 p0).bind fun zzx1 => bif z.2.length == 1 then (K zzx1) else none) else none
@[simp] theorem k_d697de_mk (zzx1 : List PV) {R : Type} (K : List PV → Option R) : k_d697de ((AV.view 0 0 none), [(Ob.row false 0 (0 : Nat) zzx1)]) K = K zzx1 := rfl
theorem x_slices_Clone_int_int (xs : List PV) (h : xs.length ≤ 4294967296) : wc W n_slices_Clone_int_int [PV.slice 0 xs] = some (PV.slice 0 xs) := by rw [W_eq]; exact clone_w cfg_ext38 xs h
theorem x_slices_Sort_int_int (raw : Bool) (ver : Nat) (zs : List Int) (hl : zs.length ≤ 4294967296) : W n_slices_Sort_int_int raw [.fx 0 0] [.fix ver 0 (zs.map (.int .i64))] = some (.pv (.tup []), [.fix ver 0 ((sortI zs).map (.int .i64))]) := by rw [W_eq]; exact sort_w cfg_ext45 raw ver zs hl
theorem x_slices_Compact_int_int (ver : Nat) (zs : List Int) (hl : zs.length ≤ 4294967296) : W n_slices_Compact_int_int false [.view 0 ver none] [.row false ver 0 (zs.map (.int .i64))] = some (.pv (.slice 0 ((Lib.compact zs).map (.int .i64))), [.dead]) := by rw [W_eq]; exact compact_w cfg_ext46 ver zs hl
theorem x_slices_Clone_api_Val_api_Val (xs : List PV) (h : xs.length ≤ 4294967296) : wc W n_slices_Clone_api_Val_api_Val [PV.slice 3 xs] = some (PV.slice 3 xs) := by rw [W_eq]; exact clone_w cfg_ext100 xs h
theorem x_bits_Mul64 (x y : Int) (h1 : 0 ≤ x) (h2 : x < 18446744073709551616) (h3 : 0 ≤ y) (h4 : y < 18446744073709551616) : wc W n_bits_Mul64 [.int .u64 x, .int .u64 y] = some (.tup [.int .u64 ((x.toNat * y.toNat / 18446744073709551616 : Nat) : Int), .int .u64 ((x.toNat * y.toNat % 18446744073709551616 : Nat) : Int)]) := by rw [W_eq]; exact mul64_w cfg_ext258 x y h1 h2 h3 h4
theorem x_bits_Add64 (x y z : Int) (h1 : 0 ≤ x) (h2 : 0 ≤ y) (h3 : 0 ≤ z) (h4 : z ≤ 1) : wc W n_bits_Add64 [.int .u64 x, .int .u64 y, .int .u64 z] = some (.tup [.int .u64 ((x + y + z) % 18446744073709551616), .int .u64 ((x + y + z) / 18446744073709551616)]) := by rw [W_eq]; exact add64_w cfg_ext160 x y z h1 h2 h3 h4
end Go.Cf

namespace Go.Cf
open Go Go.Ab
set_option linter.unusedVariables false
def I64 (n : Int) : Prop := -9223372036854775808 ≤ n ∧ n ≤ 9223372036854775807
theorem wrap64 {n : Int} (h1 : -9223372036854775808 ≤ n) (h2 : n ≤ 9223372036854775807) : IntKind.wrap .i64 n = n := by
  simp only [IntKind.wrap, IntKind.bits, IntKind.signed]
  simp
  omega
theorem wrapI {n : Int} (h : I64 n) : IntKind.wrap .i64 n = n := wrap64 h.1 h.2
theorem wrap_nat {n : Nat} (h : n ≤ 9223372036854775807) : IntKind.wrap .i64 (n : Int) = n := wrap64 (by omega) (by omega)
theorem wrap_succ {n : Nat} (h : n < 9223372036854775807) : IntKind.wrap .i64 ((n : Int) + 1) = ((n + 1 : Nat) : Int) := by rw [wrap64 (by omega) (by omega)]; omega
@[simp] theorem asTup_mk (l : List PV) : PV.asTup (.tup l) = some l := rfl
@[simp] theorem asFn_mk (f : Nat) (a b : List PV) : PV.asFn (.fn f a b) = some (f, a, b) := rfl
@[simp] theorem nat_le (n : Nat) : decide ((0 : Int) ≤ (n : Int)) = true := by simp
theorem wf_i64 {n : Int} (h : (Lit.int .i64 n).wf = true) : I64 n := by
  simp only [Lit.wf, Bool.and_eq_true, decide_eq_true_eq] at h
  exact h
theorem bif_t {α : Type} (a b : α) : (bif true then a else b) = a := rfl
theorem bif_f {α : Type} (a b : α) : (bif false then a else b) = b := rfl
theorem toList_beq (a b : ByteArray) : (a.toList == b.toList) = decide (a = b) := by
  by_cases h : a = b
  · subst h; simp
  · rw [decide_eq_false h]
    simp only [beq_eq_false_iff_ne, ne_eq]
    intro e
    apply h
    have : a.data.toList = b.data.toList := by
      have e1 : ∀ x : ByteArray, x.toList = x.data.toList := fun x => ByteArray.toList_eq x
      rw [← e1, ← e1, e]
    cases a; cases b; simp_all
theorem loop_all {R : Type} (L : Int → Option R) (n : Nat) (p : Nat → Bool) (r s : Option R) (hs : ∀ i : Nat, i < n → L (i : Int) = bif p i then L ((i : Int) + 1) else r) (he : L (n : Int) = s) :
    L 0 = bif (List.range n).all p then s else r := by
  have : ∀ k i : Nat, i + k = n → L (i : Int) = bif (List.range' i k).all p then s else r := by
    intro k
    induction k with
    | zero => intro i h; simp at h; subst h; simpa using he
    | succ k ih =>
      intro i h
      rw [hs i (by omega), show ((i : Int) + 1) = ((i + 1 : Nat) : Int) by omega, ih (i + 1) (by omega), List.range'_succ, List.all_cons]
      cases p i <;> simp
  have h0 := this n 0 (by omega)
  rw [List.range_eq_range']
  exact h0
theorem all_get {α : Type} (l : List α) (q : α → Bool) : ((List.range l.length).all fun i => (l[i]?).all q) = l.all q := by
  rw [Bool.eq_iff_iff, List.all_eq_true, List.all_eq_true]
  constructor
  · intro h x hx
    obtain ⟨i, hi, rfl⟩ := List.mem_iff_getElem.1 hx
    have := h i (by simpa using hi)
    simpa [List.getElem?_eq_getElem hi] using this
  · intro h i hi
    have hi' : i < l.length := by simpa using hi
    simpa [List.getElem?_eq_getElem hi'] using h _ (List.getElem_mem hi')
theorem lt_len {i n : Nat} (h : i < n) : decide ((i : Int) < (n : Int)) = true := by simpa using h
theorem ge_len {n : Nat} : decide ((n : Int) < (n : Int)) = false := by simp
theorem bne_t {α : Type} [BEq α] [LawfulBEq α] {a b : α} (h : a ≠ b) : (a != b) = true := by simpa using h
theorem bne_f {α : Type} [BEq α] [LawfulBEq α] {a b : α} (h : a = b) : (a != b) = false := by simpa using h
theorem beq_t {α : Type} [BEq α] [LawfulBEq α] {a b : α} (h : a = b) : (a == b) = true := by simpa using h
theorem beq_f {α : Type} [BEq α] [LawfulBEq α] {a b : α} (h : a ≠ b) : (a == b) = false := by simpa using h
theorem all_eq {α : Type} [DecidableEq α] (a b : List α) (e : a.length = b.length) : ((List.range a.length).all fun i => decide (a[i]? = b[i]?)) = decide (a = b) := by
  by_cases hab : a = b
  · subst hab; simp
  · rw [decide_eq_false hab, Bool.eq_false_iff]
    intro hall
    apply hab
    rw [List.all_eq_true] at hall
    apply List.ext_getElem?
    intro i
    by_cases hi : i < a.length
    · simpa using hall i (by simpa using hi)
    · rw [List.getElem?_eq_none (by omega), List.getElem?_eq_none (by omega)]
end Go.Cf
