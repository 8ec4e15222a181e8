/-
  The contracts of the library's Sort and Compact at this program, laid by the shelf's tools.
  No condition.
-/
import Derived.Shelf.Sort.Plain
import Derived.Shelf.Slices.CompactS
import Derived.Shelf.Slices.In.SortNone
import Derived.Test.YtcdlapjpnenkdaaGreatProg
namespace Go.Proofs
open Go.Shelf
def Tryz.lays190_ren : Go.Shelf.Ren := ⟨fun | 190 => 98 | 125 => 127 | 258 => 126 | 128 => 148 | 129 => 149 | 302 => 139 | 303 => 140 | 304 => 141 | 305 => 142 | 306 => 143 | 307 => 144 | 308 => 145 | 309 => 146 | 310 => 147 | 333 => 151 | 329 => 152 | 330 => 153 | 334 => 154 | 335 => 155 | 336 => 128 | 344 => 157 | n => n, fun | 31 => 80 | 9 => 9 | 3 => 3 | 46 => 134 | 0 => 0 | 51 => 168 | 53 => 170 | 4 => 4 | 183 => 162 | 182 => 161 | 131 => 37 | 5 => 5 | 218 => 171 | 222 => 175 | 228 => 177 | 229 => 178 | n => n, fun | n => n⟩
theorem Tryz.lays190 : Go.Proofs.Lays.n190 Tryz.prog Tryz.lays190_ren := {
  mixed := by kernel_rfl
  f125 := Tryz.func127.trans (congrArg some (by kernel_rfl))
  f128 := Tryz.func148.trans (congrArg some (by kernel_rfl))
  f129 := Tryz.func149.trans (congrArg some (by kernel_rfl))
  f190 := Tryz.func98.trans (congrArg some (by kernel_rfl))
  f258 := Tryz.func126.trans (congrArg some (by kernel_rfl))
  f302 := Tryz.func139.trans (congrArg some (by kernel_rfl))
  f303 := Tryz.func140.trans (congrArg some (by kernel_rfl))
  f304 := Tryz.func141.trans (congrArg some (by kernel_rfl))
  f305 := Tryz.func142.trans (congrArg some (by kernel_rfl))
  f306 := Tryz.func143.trans (congrArg some (by kernel_rfl))
  f307 := Tryz.func144.trans (congrArg some (by kernel_rfl))
  f308 := Tryz.func145.trans (congrArg some (by kernel_rfl))
  f309 := Tryz.func146.trans (congrArg some (by kernel_rfl))
  f310 := Tryz.func147.trans (congrArg some (by kernel_rfl))
  f329 := Tryz.func152.trans (congrArg some (by kernel_rfl))
  f330 := Tryz.func153.trans (congrArg some (by kernel_rfl))
  f333 := Tryz.func151.trans (congrArg some (by kernel_rfl))
  f334 := Tryz.func154.trans (congrArg some (by kernel_rfl))
  f335 := Tryz.func155.trans (congrArg some (by kernel_rfl))
  f336 := Tryz.func128.trans (congrArg some (by kernel_rfl))
  f344 := Tryz.func157.trans (congrArg some (by kernel_rfl))
  t0 := Tryz.underlying0
  a0 := Tryz.isAgg0
  z0 := Tryz.sizeOf0
  v0 := Tryz.zeroValue0
  t3 := Tryz.underlying3
  a3 := Tryz.isAgg3
  z3 := Tryz.sizeOf3
  v3 := Tryz.zeroValue3
  t4 := Tryz.underlying4
  a4 := Tryz.isAgg4
  z4 := Tryz.sizeOf4
  v4 := Tryz.zeroValue4
  t5 := Tryz.underlying5
  a5 := Tryz.isAgg5
  z5 := Tryz.sizeOf5
  v5 := Tryz.zeroValue5
  t9 := Tryz.underlying9
  a9 := Tryz.isAgg9
  z9 := Tryz.sizeOf9
  v9 := Tryz.zeroValue9
  t31 := Tryz.underlying80
  a31 := Tryz.isAgg80
  z31 := Tryz.sizeOf80
  v31 := Tryz.zeroValue80
  t46 := Tryz.underlying134
  a46 := Tryz.isAgg134
  z46 := Tryz.sizeOf134
  v46 := Tryz.zeroValue134
  t51 := Tryz.underlying168
  a51 := Tryz.isAgg168
  z51 := Tryz.sizeOf168
  v51 := Tryz.zeroValue168
  t53 := Tryz.underlying170
  a53 := Tryz.isAgg170
  z53 := Tryz.sizeOf170
  v53 := Tryz.zeroValue170
  t131 := Tryz.underlying37
  a131 := Tryz.isAgg37
  z131 := Tryz.sizeOf37
  v131 := Tryz.zeroValue37
  t182 := Tryz.underlying161
  a182 := Tryz.isAgg161
  z182 := Tryz.sizeOf161
  v182 := Tryz.zeroValue161
  t183 := Tryz.underlying162
  a183 := Tryz.isAgg162
  z183 := Tryz.sizeOf162
  v183 := Tryz.zeroValue162
  t218 := Tryz.underlying171
  a218 := Tryz.isAgg171
  z218 := Tryz.sizeOf171
  v218 := Tryz.zeroValue171
  t222 := Tryz.underlying175
  a222 := Tryz.isAgg175
  z222 := Tryz.sizeOf175
  v222 := Tryz.zeroValue175
  t228 := Tryz.underlying177
  a228 := Tryz.isAgg177
  z228 := Tryz.sizeOf177
  v228 := Tryz.zeroValue177
  t229 := Tryz.underlying178
  a229 := Tryz.isAgg178
  z229 := Tryz.sizeOf178
  v229 := Tryz.zeroValue178 }
open Go.Sort Go.RowKit in
theorem Tryz.slices_Sort_string (blk off cap : Nat) (ss : List (List UInt8)) (w : World) (hH : Holds encStr w blk off ss.toArray) (hblk : blk < w.heap.size) (hsz : ss.length < 4611686018427387904) :
    Calls Tryz.prog 98 #[.slice (some ⟨blk, off, none⟩) ss.length cap] w fun e w' =>
      e = .returned (.tuple #[]) ∧ ∃ n os, w' = grow (putRow encStr (Sort.ahead w n) blk off (ss.mergeSort fun x y => decide (x ≤ y)).toArray) os := Any.slices_Sort_string Tryz.lays190 blk off cap ss w hH hblk hsz
def Tryz.lays194_ren : Go.Shelf.Ren := ⟨fun | 194 => 99 | n => n, fun | 31 => 80 | 9 => 9 | 3 => 3 | 4 => 4 | 0 => 0 | n => n, fun | n => n⟩
theorem Tryz.lays194 : Go.Proofs.Lays.n194 Tryz.prog Tryz.lays194_ren := {
  mixed := by kernel_rfl
  f194 := Tryz.func99.trans (congrArg some (by kernel_rfl))
  t0 := Tryz.underlying0
  a0 := Tryz.isAgg0
  z0 := Tryz.sizeOf0
  v0 := Tryz.zeroValue0
  t3 := Tryz.underlying3
  a3 := Tryz.isAgg3
  z3 := Tryz.sizeOf3
  v3 := Tryz.zeroValue3
  t4 := Tryz.underlying4
  a4 := Tryz.isAgg4
  z4 := Tryz.sizeOf4
  v4 := Tryz.zeroValue4
  t9 := Tryz.underlying9
  a9 := Tryz.isAgg9
  z9 := Tryz.sizeOf9
  v9 := Tryz.zeroValue9
  t31 := Tryz.underlying80
  a31 := Tryz.isAgg80
  z31 := Tryz.sizeOf80
  v31 := Tryz.zeroValue80 }
open Go.RowKit Go.Lib Go.Sort in
theorem Tryz.slices_Compact_string_arr (blk off cap : Nat) (d : Array (List UInt8)) (w : World) (hH : Holds encStr w blk off d) (hsz : d.size ≤ 9223372036854775807) (hcap : d.size ≤ cap) :
    Calls Tryz.prog 99 #[.slice (some ⟨blk, off, none⟩) d.size cap] w fun e w' => e = .returned (.slice (some ⟨blk, off, none⟩) (compactUpTo d d.size).length cap) ∧ ∃ q, w' = putRow encStr (Sort.ahead w q) blk off (compactUpTo d d.size ++ List.replicate (d.size - (compactUpTo d d.size).length) []).toArray := Any.slices_Compact_string_arr Tryz.lays194 blk off cap d w hH hsz hcap
open Go.RowKit Go.Lib Go.Sort in
theorem Tryz.slices_Compact_string (blk off cap : Nat) (zs : List (List UInt8)) (w : World) (hH : Holds encStr w blk off zs.toArray) (hsz : zs.length ≤ 9223372036854775807) (hcap : zs.length ≤ cap) :
    Calls Tryz.prog 99 #[.slice (some ⟨blk, off, none⟩) zs.length cap] w fun e w' => e = .returned (.slice (some ⟨blk, off, none⟩) (Lib.compact zs).length cap) ∧ ∃ q, w' = putRow encStr (Sort.ahead w q) blk off (Lib.compact zs ++ List.replicate (zs.length - (Lib.compact zs).length) []).toArray := Any.slices_Compact_string Tryz.lays194 blk off cap zs w hH hsz hcap
open Go.RowKit Go.Lib Go.Sort in
theorem Tryz.slices_Compact_string_empty (a : Option Addr) (cap : Nat) (w : World) :
    Calls Tryz.prog 99 #[.slice a 0 cap] w fun e w' => e = .returned (.slice a 0 cap) ∧ w' = w := Any.slices_Compact_string_empty Tryz.lays194 a cap w
open Go.RowKit Go.Sort in
theorem Tryz.slices_Sort_string_none (p : Option Addr) (cap : Nat) (w : World) :
    Calls Tryz.prog 98 #[.slice p 0 cap] w fun e w' => e = .returned (.tuple #[]) ∧ w' = w := Any.slices_Sort_string_none Tryz.lays190 p cap w
end Go.Proofs
