/- Contracts of Go's library at this seat's numbers: each is one application of the kit's own theorem (laid by the kit's shelf, in plain words; pruned). -/
import Derived.Shelf.Sort.Plain
import Derived.Shelf.Slices.In.SortNone
import Derived.Shelf.Slices.CompactS
import Derived.Shelf.Slices.Clone
import Derived.Test.YtagbpjegdfhmpaaDoorProg
namespace Go.Proofs
open Go.Shelf
def Tryd.lays190_ren : Go.Shelf.Ren := ⟨fun | 190 => 94 | 125 => 118 | 258 => 117 | 128 => 143 | 129 => 144 | 302 => 134 | 303 => 135 | 304 => 136 | 305 => 137 | 306 => 138 | 307 => 139 | 308 => 140 | 309 => 141 | 310 => 142 | 333 => 157 | 329 => 158 | 330 => 159 | 334 => 160 | 335 => 161 | 336 => 162 | 344 => 167 | n => n, fun | 31 => 37 | 9 => 9 | 3 => 3 | 46 => 183 | 0 => 0 | 51 => 208 | 53 => 34 | 4 => 4 | 183 => 201 | 182 => 200 | 131 => 205 | 5 => 5 | 218 => 224 | 222 => 228 | 228 => 232 | 229 => 233 | n => n, fun | n => n⟩
theorem Tryd.lays190 : Go.Proofs.Lays.n190 Tryd.prog Tryd.lays190_ren := {
  mixed := by kernel_rfl
  f125 := Tryd.func118.trans (congrArg some (by kernel_rfl))
  f128 := Tryd.func143.trans (congrArg some (by kernel_rfl))
  f129 := Tryd.func144.trans (congrArg some (by kernel_rfl))
  f190 := Tryd.func94.trans (congrArg some (by kernel_rfl))
  f258 := Tryd.func117.trans (congrArg some (by kernel_rfl))
  f302 := Tryd.func134.trans (congrArg some (by kernel_rfl))
  f303 := Tryd.func135.trans (congrArg some (by kernel_rfl))
  f304 := Tryd.func136.trans (congrArg some (by kernel_rfl))
  f305 := Tryd.func137.trans (congrArg some (by kernel_rfl))
  f306 := Tryd.func138.trans (congrArg some (by kernel_rfl))
  f307 := Tryd.func139.trans (congrArg some (by kernel_rfl))
  f308 := Tryd.func140.trans (congrArg some (by kernel_rfl))
  f309 := Tryd.func141.trans (congrArg some (by kernel_rfl))
  f310 := Tryd.func142.trans (congrArg some (by kernel_rfl))
  f329 := Tryd.func158.trans (congrArg some (by kernel_rfl))
  f330 := Tryd.func159.trans (congrArg some (by kernel_rfl))
  f333 := Tryd.func157.trans (congrArg some (by kernel_rfl))
  f334 := Tryd.func160.trans (congrArg some (by kernel_rfl))
  f335 := Tryd.func161.trans (congrArg some (by kernel_rfl))
  f336 := Tryd.func162.trans (congrArg some (by kernel_rfl))
  f344 := Tryd.func167.trans (congrArg some (by kernel_rfl))
  t0 := Tryd.underlying0
  a0 := Tryd.isAgg0
  z0 := Tryd.sizeOf0
  v0 := Tryd.zeroValue0
  t3 := Tryd.underlying3
  a3 := Tryd.isAgg3
  z3 := Tryd.sizeOf3
  v3 := Tryd.zeroValue3
  t4 := Tryd.underlying4
  a4 := Tryd.isAgg4
  z4 := Tryd.sizeOf4
  v4 := Tryd.zeroValue4
  t5 := Tryd.underlying5
  a5 := Tryd.isAgg5
  z5 := Tryd.sizeOf5
  v5 := Tryd.zeroValue5
  t9 := Tryd.underlying9
  a9 := Tryd.isAgg9
  z9 := Tryd.sizeOf9
  v9 := Tryd.zeroValue9
  t31 := Tryd.underlying37
  a31 := Tryd.isAgg37
  z31 := Tryd.sizeOf37
  v31 := Tryd.zeroValue37
  t46 := Tryd.underlying183
  a46 := Tryd.isAgg183
  z46 := Tryd.sizeOf183
  v46 := Tryd.zeroValue183
  t51 := Tryd.underlying208
  a51 := Tryd.isAgg208
  z51 := Tryd.sizeOf208
  v51 := Tryd.zeroValue208
  t53 := Tryd.underlying34
  a53 := Tryd.isAgg34
  z53 := Tryd.sizeOf34
  v53 := Tryd.zeroValue34
  t131 := Tryd.underlying205
  a131 := Tryd.isAgg205
  z131 := Tryd.sizeOf205
  v131 := Tryd.zeroValue205
  t182 := Tryd.underlying200
  a182 := Tryd.isAgg200
  z182 := Tryd.sizeOf200
  v182 := Tryd.zeroValue200
  t183 := Tryd.underlying201
  a183 := Tryd.isAgg201
  z183 := Tryd.sizeOf201
  v183 := Tryd.zeroValue201
  t218 := Tryd.underlying224
  a218 := Tryd.isAgg224
  z218 := Tryd.sizeOf224
  v218 := Tryd.zeroValue224
  t222 := Tryd.underlying228
  a222 := Tryd.isAgg228
  z222 := Tryd.sizeOf228
  v222 := Tryd.zeroValue228
  t228 := Tryd.underlying232
  a228 := Tryd.isAgg232
  z228 := Tryd.sizeOf232
  v228 := Tryd.zeroValue232
  t229 := Tryd.underlying233
  a229 := Tryd.isAgg233
  z229 := Tryd.sizeOf233
  v229 := Tryd.zeroValue233 }
open Go.Sort Go.RowKit in
theorem Tryd.slices_Sort_string (blk off cap : Nat) (ss : List (List UInt8)) (w : World) (hH : Holds encStr w blk off ss.toArray) (hblk : blk < w.heap.size) (hsz : ss.length < 4611686018427387904) :
    Calls Tryd.prog 94 #[.slice (some ⟨blk, off, none⟩) ss.length cap] w fun e w' =>
      e = .returned (.tuple #[]) ∧ ∃ n os, w' = grow (putRow encStr (Sort.ahead w n) blk off (ss.mergeSort fun x y => decide (x ≤ y)).toArray) os := Any.slices_Sort_string Tryd.lays190 blk off cap ss w hH hblk hsz
def Tryd.laysNm216_ren : Go.Shelf.Ren := ⟨fun | 16 => 43 | n => n, fun | 24 => 37 | 9 => 9 | 4 => 4 | n => n, fun | n => n⟩
theorem Tryd.laysNm216 : Go.Proofs.Lays2.n16 Tryd.prog Tryd.laysNm216_ren := {
  mixed := by kernel_rfl
  f16 := Tryd.func43.trans (congrArg some (by kernel_rfl))
  t4 := Tryd.underlying4
  a4 := Tryd.isAgg4
  z4 := Tryd.sizeOf4
  v4 := Tryd.zeroValue4
  t9 := Tryd.underlying9
  a9 := Tryd.isAgg9
  z9 := Tryd.sizeOf9
  v9 := Tryd.zeroValue9
  t24 := Tryd.underlying37
  a24 := Tryd.isAgg37
  z24 := Tryd.sizeOf37
  v24 := Tryd.zeroValue37
  i9 := by kernel_rfl }
open Go.RowKit Go.Lib in
theorem Tryd.slices_Clone_string (b off n c : Nat) (zs : List ByteArray) (w : World) (hz : n ≤ zs.length) (hbig : n * 16 ≤ 140737488355328) (hc : ∀ j, j < zs.length → w.cell? ⟨b, off + j, none⟩ = some (.string (zs.getD j ByteArray.empty))) :
    Calls Tryd.prog 43 #[.slice (some ⟨b, off, none⟩) n c] w fun e w' => ∃ v', e = .returned v' ∧ w'.ownsRow w.heap.size 9 1 v' n ((zs.take n).map (Value.string)) ∧ v' ≠ .slice none 0 0 ∧ Below w.heap.size w w' := Any.slices_Clone_string Tryd.laysNm216 b off n c zs w hz hbig hc
open Go.RowKit Go.Lib in
theorem Tryd.slices_Clone_string_nil (n c : Nat) (w : World) :
    Calls Tryd.prog 43 #[.slice none n c] w fun e w' => e = .returned (.slice none 0 0) ∧ w' = w := Any.slices_Clone_string_nil Tryd.laysNm216 n c w
open Go.RowKit Go.Lib in
theorem Tryd.slices_Clone_string_zero (a : Addr) (c : Nat) (w : World) :
    Calls Tryd.prog 43 #[.slice (some a) 0 c] w fun e w' => ∃ v', e = .returned v' ∧ w'.ownsRow w.heap.size 9 1 v' 0 [] ∧ v' ≠ .slice none 0 0 ∧ Below w.heap.size w w' := Any.slices_Clone_string_zero Tryd.laysNm216 a c w
def Tryd.lays194_ren : Go.Shelf.Ren := ⟨fun | 194 => 87 | n => n, fun | 31 => 37 | 9 => 9 | 3 => 3 | 4 => 4 | 0 => 0 | n => n, fun | n => n⟩
theorem Tryd.lays194 : Go.Proofs.Lays.n194 Tryd.prog Tryd.lays194_ren := {
  mixed := by kernel_rfl
  f194 := Tryd.func87.trans (congrArg some (by kernel_rfl))
  t0 := Tryd.underlying0
  a0 := Tryd.isAgg0
  z0 := Tryd.sizeOf0
  v0 := Tryd.zeroValue0
  t3 := Tryd.underlying3
  a3 := Tryd.isAgg3
  z3 := Tryd.sizeOf3
  v3 := Tryd.zeroValue3
  t4 := Tryd.underlying4
  a4 := Tryd.isAgg4
  z4 := Tryd.sizeOf4
  v4 := Tryd.zeroValue4
  t9 := Tryd.underlying9
  a9 := Tryd.isAgg9
  z9 := Tryd.sizeOf9
  v9 := Tryd.zeroValue9
  t31 := Tryd.underlying37
  a31 := Tryd.isAgg37
  z31 := Tryd.sizeOf37
  v31 := Tryd.zeroValue37 }
open Go.RowKit Go.Lib Go.Sort in
theorem Tryd.slices_Compact_string (blk off cap : Nat) (zs : List (List UInt8)) (w : World) (hH : Holds encStr w blk off zs.toArray) (hsz : zs.length ≤ 9223372036854775807) (hcap : zs.length ≤ cap) :
    Calls Tryd.prog 87 #[.slice (some ⟨blk, off, none⟩) zs.length cap] w fun e w' => e = .returned (.slice (some ⟨blk, off, none⟩) (Lib.compact zs).length cap) ∧ ∃ q, w' = putRow encStr (Sort.ahead w q) blk off (Lib.compact zs ++ List.replicate (zs.length - (Lib.compact zs).length) []).toArray := Any.slices_Compact_string Tryd.lays194 blk off cap zs w hH hsz hcap
open Go.RowKit Go.Lib Go.Sort in
theorem Tryd.slices_Compact_string_empty (a : Option Addr) (cap : Nat) (w : World) :
    Calls Tryd.prog 87 #[.slice a 0 cap] w fun e w' => e = .returned (.slice a 0 cap) ∧ w' = w := Any.slices_Compact_string_empty Tryd.lays194 a cap w
open Go.RowKit Go.Sort in
theorem Tryd.slices_Sort_string_none (p : Option Addr) (cap : Nat) (w : World) :
    Calls Tryd.prog 94 #[.slice p 0 cap] w fun e w' => e = .returned (.tuple #[]) ∧ w' = w := Any.slices_Sort_string_none Tryd.lays190 p cap w
end Go.Proofs
