/-
  The contracts of the library's Sort and Compact at this program, laid by the shelf's tools.
  No condition.
-/
import Derived.Shelf.Sort.Plain
import Derived.Shelf.Slices.CompactS
import Derived.Shelf.Slices.In.SortNone
import Derived.Test.YthbheejeloomjaaGreatProg
namespace Go.Proofs
open Go.Shelf
def Tryz.lays190_ren : Go.Shelf.Ren := ⟨fun | 190 => 145 | 125 => 162 | 258 => 161 | 128 => 176 | 129 => 177 | 302 => 167 | 303 => 168 | 304 => 169 | 305 => 170 | 306 => 171 | 307 => 172 | 308 => 173 | 309 => 174 | 310 => 175 | 333 => 179 | 329 => 180 | 330 => 181 | 334 => 182 | 335 => 183 | 336 => 151 | 344 => 184 | n => n, fun | 31 => 22 | 9 => 9 | 3 => 3 | 46 => 188 | 0 => 0 | 51 => 209 | 53 => 211 | 4 => 4 | 183 => 203 | 182 => 202 | 131 => 121 | 5 => 5 | 218 => 212 | 222 => 216 | 228 => 218 | 229 => 219 | n => n, fun | n => n⟩
theorem Tryz.lays190 : Go.Proofs.Lays.n190 Tryz.prog Tryz.lays190_ren := {
  mixed := by kernel_rfl
  f125 := Tryz.func162.trans (congrArg some (by kernel_rfl))
  f128 := Tryz.func176.trans (congrArg some (by kernel_rfl))
  f129 := Tryz.func177.trans (congrArg some (by kernel_rfl))
  f190 := Tryz.func145.trans (congrArg some (by kernel_rfl))
  f258 := Tryz.func161.trans (congrArg some (by kernel_rfl))
  f302 := Tryz.func167.trans (congrArg some (by kernel_rfl))
  f303 := Tryz.func168.trans (congrArg some (by kernel_rfl))
  f304 := Tryz.func169.trans (congrArg some (by kernel_rfl))
  f305 := Tryz.func170.trans (congrArg some (by kernel_rfl))
  f306 := Tryz.func171.trans (congrArg some (by kernel_rfl))
  f307 := Tryz.func172.trans (congrArg some (by kernel_rfl))
  f308 := Tryz.func173.trans (congrArg some (by kernel_rfl))
  f309 := Tryz.func174.trans (congrArg some (by kernel_rfl))
  f310 := Tryz.func175.trans (congrArg some (by kernel_rfl))
  f329 := Tryz.func180.trans (congrArg some (by kernel_rfl))
  f330 := Tryz.func181.trans (congrArg some (by kernel_rfl))
  f333 := Tryz.func179.trans (congrArg some (by kernel_rfl))
  f334 := Tryz.func182.trans (congrArg some (by kernel_rfl))
  f335 := Tryz.func183.trans (congrArg some (by kernel_rfl))
  f336 := Tryz.func151.trans (congrArg some (by kernel_rfl))
  f344 := Tryz.func184.trans (congrArg some (by kernel_rfl))
  t0 := Tryz.underlying0
  a0 := Tryz.isAgg0
  z0 := Tryz.sizeOf0
  v0 := Tryz.zeroValue0
  t3 := Tryz.underlying3
  a3 := Tryz.isAgg3
  z3 := Tryz.sizeOf3
  v3 := Tryz.zeroValue3
  t4 := Tryz.underlying4
  a4 := Tryz.isAgg4
  z4 := Tryz.sizeOf4
  v4 := Tryz.zeroValue4
  t5 := Tryz.underlying5
  a5 := Tryz.isAgg5
  z5 := Tryz.sizeOf5
  v5 := Tryz.zeroValue5
  t9 := Tryz.underlying9
  a9 := Tryz.isAgg9
  z9 := Tryz.sizeOf9
  v9 := Tryz.zeroValue9
  t31 := Tryz.underlying22
  a31 := Tryz.isAgg22
  z31 := Tryz.sizeOf22
  v31 := Tryz.zeroValue22
  t46 := Tryz.underlying188
  a46 := Tryz.isAgg188
  z46 := Tryz.sizeOf188
  v46 := Tryz.zeroValue188
  t51 := Tryz.underlying209
  a51 := Tryz.isAgg209
  z51 := Tryz.sizeOf209
  v51 := Tryz.zeroValue209
  t53 := Tryz.underlying211
  a53 := Tryz.isAgg211
  z53 := Tryz.sizeOf211
  v53 := Tryz.zeroValue211
  t131 := Tryz.underlying121
  a131 := Tryz.isAgg121
  z131 := Tryz.sizeOf121
  v131 := Tryz.zeroValue121
  t182 := Tryz.underlying202
  a182 := Tryz.isAgg202
  z182 := Tryz.sizeOf202
  v182 := Tryz.zeroValue202
  t183 := Tryz.underlying203
  a183 := Tryz.isAgg203
  z183 := Tryz.sizeOf203
  v183 := Tryz.zeroValue203
  t218 := Tryz.underlying212
  a218 := Tryz.isAgg212
  z218 := Tryz.sizeOf212
  v218 := Tryz.zeroValue212
  t222 := Tryz.underlying216
  a222 := Tryz.isAgg216
  z222 := Tryz.sizeOf216
  v222 := Tryz.zeroValue216
  t228 := Tryz.underlying218
  a228 := Tryz.isAgg218
  z228 := Tryz.sizeOf218
  v228 := Tryz.zeroValue218
  t229 := Tryz.underlying219
  a229 := Tryz.isAgg219
  z229 := Tryz.sizeOf219
  v229 := Tryz.zeroValue219 }
open Go.Sort Go.RowKit in
theorem Tryz.slices_Sort_string (blk off cap : Nat) (ss : List (List UInt8)) (w : World) (hH : Holds encStr w blk off ss.toArray) (hblk : blk < w.heap.size) (hsz : ss.length < 4611686018427387904) :
    Calls Tryz.prog 145 #[.slice (some ⟨blk, off, none⟩) ss.length cap] w fun e w' =>
      e = .returned (.tuple #[]) ∧ ∃ n os, w' = grow (putRow encStr (Sort.ahead w n) blk off (ss.mergeSort fun x y => decide (x ≤ y)).toArray) os := Any.slices_Sort_string Tryz.lays190 blk off cap ss w hH hblk hsz
def Tryz.lays194_ren : Go.Shelf.Ren := ⟨fun | 194 => 146 | n => n, fun | 31 => 22 | 9 => 9 | 3 => 3 | 4 => 4 | 0 => 0 | n => n, fun | n => n⟩
theorem Tryz.lays194 : Go.Proofs.Lays.n194 Tryz.prog Tryz.lays194_ren := {
  mixed := by kernel_rfl
  f194 := Tryz.func146.trans (congrArg some (by kernel_rfl))
  t0 := Tryz.underlying0
  a0 := Tryz.isAgg0
  z0 := Tryz.sizeOf0
  v0 := Tryz.zeroValue0
  t3 := Tryz.underlying3
  a3 := Tryz.isAgg3
  z3 := Tryz.sizeOf3
  v3 := Tryz.zeroValue3
  t4 := Tryz.underlying4
  a4 := Tryz.isAgg4
  z4 := Tryz.sizeOf4
  v4 := Tryz.zeroValue4
  t9 := Tryz.underlying9
  a9 := Tryz.isAgg9
  z9 := Tryz.sizeOf9
  v9 := Tryz.zeroValue9
  t31 := Tryz.underlying22
  a31 := Tryz.isAgg22
  z31 := Tryz.sizeOf22
  v31 := Tryz.zeroValue22 }
open Go.RowKit Go.Lib Go.Sort in
theorem Tryz.slices_Compact_string_arr (blk off cap : Nat) (d : Array (List UInt8)) (w : World) (hH : Holds encStr w blk off d) (hsz : d.size ≤ 9223372036854775807) (hcap : d.size ≤ cap) :
    Calls Tryz.prog 146 #[.slice (some ⟨blk, off, none⟩) d.size cap] w fun e w' => e = .returned (.slice (some ⟨blk, off, none⟩) (compactUpTo d d.size).length cap) ∧ ∃ q, w' = putRow encStr (Sort.ahead w q) blk off (compactUpTo d d.size ++ List.replicate (d.size - (compactUpTo d d.size).length) []).toArray := Any.slices_Compact_string_arr Tryz.lays194 blk off cap d w hH hsz hcap
open Go.RowKit Go.Lib Go.Sort in
theorem Tryz.slices_Compact_string (blk off cap : Nat) (zs : List (List UInt8)) (w : World) (hH : Holds encStr w blk off zs.toArray) (hsz : zs.length ≤ 9223372036854775807) (hcap : zs.length ≤ cap) :
    Calls Tryz.prog 146 #[.slice (some ⟨blk, off, none⟩) zs.length cap] w fun e w' => e = .returned (.slice (some ⟨blk, off, none⟩) (Lib.compact zs).length cap) ∧ ∃ q, w' = putRow encStr (Sort.ahead w q) blk off (Lib.compact zs ++ List.replicate (zs.length - (Lib.compact zs).length) []).toArray := Any.slices_Compact_string Tryz.lays194 blk off cap zs w hH hsz hcap
open Go.RowKit Go.Lib Go.Sort in
theorem Tryz.slices_Compact_string_empty (a : Option Addr) (cap : Nat) (w : World) :
    Calls Tryz.prog 146 #[.slice a 0 cap] w fun e w' => e = .returned (.slice a 0 cap) ∧ w' = w := Any.slices_Compact_string_empty Tryz.lays194 a cap w
open Go.RowKit Go.Sort in
theorem Tryz.slices_Sort_string_none (p : Option Addr) (cap : Nat) (w : World) :
    Calls Tryz.prog 145 #[.slice p 0 cap] w fun e w' => e = .returned (.tuple #[]) ∧ w' = w := Any.slices_Sort_string_none Tryz.lays190 p cap w
end Go.Proofs
