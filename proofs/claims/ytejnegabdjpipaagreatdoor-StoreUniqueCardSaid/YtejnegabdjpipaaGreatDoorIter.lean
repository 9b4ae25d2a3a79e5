/- The library's contracts on the sorted keys of a map, at this program's numbers. -/
import Derived.Shelf.SlIter.Nil
import Derived.Shelf.SortM.Plain
import Derived.Shelf.SortM.SortNone
import Derived.Test.YtejnegabdjpipaaGreatDoorProg
namespace Go.Proofs
open Go.RowKit Go.Maps Go.Sort Go.Shelf


def Tryz.keys117_ren : Go.Shelf.Ren := ⟨fun | 7 => 117 | 10 => 155 | n => n, fun | 23 => 64 | 26 => 9 | 3 => 3 | 28 => 124 | 0 => 0 | 27 => 123 | 33 => 173 | 4 => 4 | n => n, fun | n => n⟩
theorem Tryz.keys117 : Go.Proofs.SlLaysZ.n7 Tryz.prog Tryz.keys117_ren := {
  mixed := by kernel_rfl
  f7 := ⟨Tryz.f117.name, by decide, Tryz.func117.trans (congrArg some (by kernel_rfl))⟩
  f10 := ⟨Tryz.f155.name, by decide, Tryz.func155.trans (congrArg some (by kernel_rfl))⟩
  t0 := Tryz.underlying0
  a0 := Tryz.isAgg0
  z0 := Tryz.sizeOf0
  v0 := Tryz.zeroValue0
  t4 := Tryz.underlying4
  a4 := Tryz.isAgg4
  z4 := Tryz.sizeOf4
  v4 := Tryz.zeroValue4
  t23 := Tryz.underlying64
  a23 := Tryz.isAgg64
  z23 := Tryz.sizeOf64
  v23 := Tryz.zeroValue64
  t26 := Tryz.underlying9
  a26 := Tryz.isAgg9
  z26 := Tryz.sizeOf9
  v26 := Tryz.zeroValue9
  t27 := Tryz.underlying123
  a27 := Tryz.isAgg123
  z27 := Tryz.sizeOf123
  v27 := Tryz.zeroValue123
  t28 := Tryz.underlying124
  a28 := Tryz.isAgg124
  z28 := Tryz.sizeOf124
  v28 := Tryz.zeroValue124
  t33 := Tryz.underlying173
  a33 := Tryz.isAgg173
  z33 := Tryz.sizeOf173
  v33 := Tryz.zeroValue173 }
def Tryz.sorted89_ren : Go.Shelf.Ren := ⟨fun | 6 => 89 | 8 => 133 | 9 => 100 | 11 => 166 | 13 => 145 | 12 => 144 | 23 => 181 | 24 => 182 | 14 => 172 | 15 => 173 | 16 => 174 | 17 => 175 | 18 => 176 | 19 => 177 | 20 => 178 | 21 => 179 | 22 => 180 | 25 => 201 | 26 => 202 | 27 => 203 | 28 => 204 | 29 => 205 | 30 => 206 | 31 => 214 | n => n, fun | 26 => 9 | 28 => 124 | 24 => 31 | 0 => 0 | 3 => 3 | 37 => 247 | 48 => 106 | 50 => 22 | 4 => 4 | 40 => 272 | 39 => 271 | 45 => 142 | 5 => 5 | 9 => 9 | 51 => 301 | 55 => 304 | 57 => 311 | 58 => 312 | 33 => 173 | n => n, fun | n => n⟩
theorem Tryz.sorted89 : Go.Proofs.SlLaysZ.n6 Tryz.prog Tryz.sorted89_ren := {
  mixed := by kernel_rfl
  f6 := ⟨Tryz.f89.name, by decide, Tryz.func89.trans (congrArg some (by kernel_rfl))⟩
  f8 := ⟨Tryz.f133.name, by decide, Tryz.func133.trans (congrArg some (by kernel_rfl))⟩
  f11 := ⟨Tryz.f166.name, by decide, Tryz.func166.trans (congrArg some (by kernel_rfl))⟩
  t0 := Tryz.underlying0
  a0 := Tryz.isAgg0
  z0 := Tryz.sizeOf0
  v0 := Tryz.zeroValue0
  t24 := Tryz.underlying31
  a24 := Tryz.isAgg31
  z24 := Tryz.sizeOf31
  v24 := Tryz.zeroValue31
  t26 := Tryz.underlying9
  a26 := Tryz.isAgg9
  z26 := Tryz.sizeOf9
  v26 := Tryz.zeroValue9
  t28 := Tryz.underlying124
  a28 := Tryz.isAgg124
  z28 := Tryz.sizeOf124
  v28 := Tryz.zeroValue124
  i26 := by kernel_rfl }
def Tryz.sort100_ren : Go.Shelf.Ren := ⟨fun | 6 => 100 | 8 => 145 | 9 => 144 | 19 => 181 | 20 => 182 | 21 => 172 | 22 => 173 | 23 => 174 | 24 => 175 | 25 => 176 | 26 => 177 | 27 => 178 | 28 => 179 | 29 => 180 | 36 => 201 | 31 => 202 | 32 => 203 | 37 => 204 | 38 => 205 | 39 => 206 | 41 => 214 | n => n, fun | 27 => 31 | 29 => 9 | 3 => 3 | 32 => 247 | 26 => 31 | 0 => 0 | 44 => 106 | 46 => 22 | 4 => 4 | 36 => 272 | 35 => 271 | 41 => 142 | 5 => 5 | 9 => 9 | 53 => 301 | 57 => 304 | 63 => 311 | 64 => 312 | n => n, fun | n => n⟩
theorem Tryz.sort100 : Go.Proofs.SlLaysM.n6 Tryz.prog Tryz.sort100_ren := {
  mixed := by kernel_rfl
  f6 := ⟨Tryz.f100.name, by decide, Tryz.func100.trans (congrArg some (by kernel_rfl))⟩
  f8 := Tryz.func145.trans (congrArg some (by kernel_rfl))
  f9 := ⟨Tryz.f144.name, by decide, Tryz.func144.trans (congrArg some (by kernel_rfl))⟩
  f19 := Tryz.func181.trans (congrArg some (by kernel_rfl))
  f20 := Tryz.func182.trans (congrArg some (by kernel_rfl))
  f21 := ⟨Tryz.f172.name, by decide, Tryz.func172.trans (congrArg some (by kernel_rfl))⟩
  f22 := ⟨Tryz.f173.name, by decide, Tryz.func173.trans (congrArg some (by kernel_rfl))⟩
  f23 := ⟨Tryz.f174.name, by decide, Tryz.func174.trans (congrArg some (by kernel_rfl))⟩
  f24 := ⟨Tryz.f175.name, by decide, Tryz.func175.trans (congrArg some (by kernel_rfl))⟩
  f25 := ⟨Tryz.f176.name, by decide, Tryz.func176.trans (congrArg some (by kernel_rfl))⟩
  f26 := ⟨Tryz.f177.name, by decide, Tryz.func177.trans (congrArg some (by kernel_rfl))⟩
  f27 := ⟨Tryz.f178.name, by decide, Tryz.func178.trans (congrArg some (by kernel_rfl))⟩
  f28 := ⟨Tryz.f179.name, by decide, Tryz.func179.trans (congrArg some (by kernel_rfl))⟩
  f29 := ⟨Tryz.f180.name, by decide, Tryz.func180.trans (congrArg some (by kernel_rfl))⟩
  f31 := Tryz.func202.trans (congrArg some (by kernel_rfl))
  f32 := Tryz.func203.trans (congrArg some (by kernel_rfl))
  f36 := ⟨Tryz.f201.name, by decide, Tryz.func201.trans (congrArg some (by kernel_rfl))⟩
  f37 := ⟨Tryz.f204.name, by decide, Tryz.func204.trans (congrArg some (by kernel_rfl))⟩
  f38 := ⟨Tryz.f205.name, by decide, Tryz.func205.trans (congrArg some (by kernel_rfl))⟩
  f39 := ⟨Tryz.f206.name, by decide, Tryz.func206.trans (congrArg some (by kernel_rfl))⟩
  f41 := ⟨Tryz.f214.name, by decide, Tryz.func214.trans (congrArg some (by kernel_rfl))⟩
  t0 := Tryz.underlying0
  a0 := Tryz.isAgg0
  z0 := Tryz.sizeOf0
  v0 := Tryz.zeroValue0
  t3 := Tryz.underlying3
  a3 := Tryz.isAgg3
  z3 := Tryz.sizeOf3
  v3 := Tryz.zeroValue3
  t4 := Tryz.underlying4
  a4 := Tryz.isAgg4
  z4 := Tryz.sizeOf4
  v4 := Tryz.zeroValue4
  t5 := Tryz.underlying5
  a5 := Tryz.isAgg5
  z5 := Tryz.sizeOf5
  v5 := Tryz.zeroValue5
  t9 := Tryz.underlying9
  a9 := Tryz.isAgg9
  z9 := Tryz.sizeOf9
  v9 := Tryz.zeroValue9
  t26 := Tryz.underlying31
  a26 := Tryz.isAgg31
  z26 := Tryz.sizeOf31
  v26 := Tryz.zeroValue31
  t27 := Tryz.underlying31
  a27 := Tryz.isAgg31
  z27 := Tryz.sizeOf31
  v27 := Tryz.zeroValue31
  t29 := Tryz.underlying9
  a29 := Tryz.isAgg9
  z29 := Tryz.sizeOf9
  v29 := Tryz.zeroValue9
  t32 := Tryz.underlying247
  a32 := Tryz.isAgg247
  z32 := Tryz.sizeOf247
  v32 := Tryz.zeroValue247
  t35 := Tryz.underlying271
  a35 := Tryz.isAgg271
  z35 := Tryz.sizeOf271
  v35 := Tryz.zeroValue271
  t36 := Tryz.underlying272
  a36 := Tryz.isAgg272
  z36 := Tryz.sizeOf272
  v36 := Tryz.zeroValue272
  t41 := Tryz.underlying142
  a41 := Tryz.isAgg142
  z41 := Tryz.sizeOf142
  v41 := Tryz.zeroValue142
  t44 := Tryz.underlying106
  a44 := Tryz.isAgg106
  z44 := Tryz.sizeOf106
  v44 := Tryz.zeroValue106
  t46 := Tryz.underlying22
  a46 := Tryz.isAgg22
  z46 := Tryz.sizeOf22
  v46 := Tryz.zeroValue22
  t53 := Tryz.underlying301
  a53 := Tryz.isAgg301
  z53 := Tryz.sizeOf301
  v53 := Tryz.zeroValue301
  t57 := Tryz.underlying304
  a57 := Tryz.isAgg304
  z57 := Tryz.sizeOf304
  v57 := Tryz.zeroValue304
  t63 := Tryz.underlying311
  a63 := Tryz.isAgg311
  z63 := Tryz.sizeOf311
  v63 := Tryz.zeroValue311
  t64 := Tryz.underlying312
  a64 := Tryz.isAgg312
  z64 := Tryz.sizeOf312
  v64 := Tryz.zeroValue312 }
end Go.Proofs
namespace Go.Proofs
open Go.RowKit Go.Maps Go.Sort Go.Shelf
/-- slices.Sort's two contracts at this dump, at the fence that asks nothing. -/
theorem Tryz.sorts89 (m : Nat) : AnyZ.SortsIn Tryz.prog Tryz.sorted89_ren Fence.wide m :=
  ⟨fun blk off cap ss W hH hblk hsz => callsIn_wide.2 (AnyM.slices_Sort_string Tryz.sort100 blk off cap ss W hH hblk hsz),
   fun p cap W => callsIn_wide.2 (AnyM.slices_Sort_string_none Tryz.sort100 p cap W)⟩

/-- **maps.Keys[map[string]int,string,int], at whatever map, the nil one too:** a function value over ONE NEW BLOCK, which holds the map. -/
theorem Tryz.maps_Keys_117 (mb : Option Nat) (W : World) : CallsIn Fence.wide 5 Tryz.prog 117 #[.map mb] W fun e w' => e = .returned (.func (.func 155) #[] #[.pointer (some ⟨W.heap.size, 0, none⟩)]) ∧ w' = W.alloc (.cells #[.map mb] 64) :=
  AnyZ.keys_in Tryz.keys117 Fence.wide 5 trivial rfl mb W

set_option maxHeartbeats 1000000 in
/-- **slices.Sorted[string] AT WHAT maps.Keys[map[string]int,string,int] HANDED BACK FOR A MAP THAT IS NOT nil** ('w': the world AHEAD of maps.Keys' call): A NEW SLICE THAT HOLDS THE MAP's KEYS, SORTED; nil just where it has none; nothing that lay before has turned. -/
theorem Tryz.slices_Sorted_keys_89_117 {H : Type} (b nn : Nat) (D0 : DataW H) (R : Value → Option (DataW H × List MemPlace)) (w : World) (hown : w.ownsMap Tryz.prog 9 R b nn D0) (hmax : Maps.size D0 ≤ maxLen) (hbytes : Maps.size D0 * 16 ≤ 140737488355328) :
    CallsIn Fence.wide 5 Tryz.prog 89 #[.func (.func 155) #[] #[.pointer (some ⟨w.heap.size, 0, none⟩)]] (w.alloc (.cells #[.map (some b)] 64)) fun e w' => ∃ (v : Value) (ss : List (List UInt8)), e = .returned v ∧ ss.Perm (strKeys D0) ∧
      w'.ownsRow (w.alloc (.cells #[.map (some b)] 64)).heap.size 9 1 v ss.length ((ss.mergeSort (fun x y => decide (x ≤ y))).map encStr) ∧ (v = .slice none 0 0 ↔ ss = []) ∧ Below (w.alloc (.cells #[.map (some b)] 64)).heap.size (w.alloc (.cells #[.map (some b)] 64)) w' := by
  have hbl := hown.lt
  have hseq : SeqGives Fence.wide 2 Tryz.prog 155 #[.pointer (some ⟨w.heap.size, 0, none⟩)] encStr (fun ss => ss.Perm (strKeys D0)) (Maps.size D0) (w.alloc (.cells #[.map (some b)] 64)) :=
    AnyZ.keys_gives (ρ := Tryz.keys117_ren) { Tryz.keys117 with } Fence.wide _ trivial rfl (by omega) w.heap.size b nn D0 _ (by simp) (by simp) (by
      obtain ⟨es, clock, hb, Ft, hs, hD⟩ := hown
      exact ⟨es, clock, (Below.heap_alloc _ _ b hbl).trans hb, Ft, hs, hD⟩)
  exact AnyZ.sorted_in Tryz.sorted89 Fence.wide 5 trivial trivial trivial trivial rfl (by omega) (Tryz.sorts89 _) (enters_of Tryz.func100 (by kernel_rfl) rfl) 155 #[.pointer (some ⟨w.heap.size, 0, none⟩)] trivial (enters_of Tryz.func155 (by kernel_rfl) rfl) _ _ hmax hbytes _ hseq

set_option maxHeartbeats 1000000 in
/-- **.. AND FOR THE nil MAP: nil.** -/
theorem Tryz.slices_Sorted_keys_nil_89_117 (w : World) :
    CallsIn Fence.wide 5 Tryz.prog 89 #[.func (.func 155) #[] #[.pointer (some ⟨w.heap.size, 0, none⟩)]] (w.alloc (.cells #[.map none] 64)) fun e w' => ∃ (v : Value) (ss : List (List UInt8)), e = .returned v ∧ ss = [] ∧
      w'.ownsRow (w.alloc (.cells #[.map none] 64)).heap.size 9 1 v ss.length ((ss.mergeSort (fun x y => decide (x ≤ y))).map encStr) ∧ (v = .slice none 0 0 ↔ ss = []) ∧ Below (w.alloc (.cells #[.map none] 64)).heap.size (w.alloc (.cells #[.map none] 64)) w' := by
  have hseq : SeqGives Fence.wide 2 Tryz.prog 155 #[.pointer (some ⟨w.heap.size, 0, none⟩)] encStr (fun ss : List (List UInt8) => ss = []) 0 (w.alloc (.cells #[.map none] 64)) :=
    AnyZ.keys_gives_nil (ρ := Tryz.keys117_ren) { Tryz.keys117 with } Fence.wide _ trivial rfl w.heap.size _ (by simp) (by simp)
  exact AnyZ.sorted_in Tryz.sorted89 Fence.wide 5 trivial trivial trivial trivial rfl (by omega) (Tryz.sorts89 _) (enters_of Tryz.func100 (by kernel_rfl) rfl) 155 #[.pointer (some ⟨w.heap.size, 0, none⟩)] trivial (enters_of Tryz.func155 (by kernel_rfl) rfl) _ 0 (Nat.zero_le _) (by omega) _ hseq

-- THE CALLER's WALK over 'slices.Sorted(maps.Keys(m))' (inside '(callsIn_wide (n := 6)).1'; 'have hfK : Fence.wide.fn 117 := trivial', 'have hfS : Fence.wide.fn 89 := trivial' ahead): THE TWO ARMS TO PASTE:
--   gi_wp2_with (first
--     | (gi_at_call 117; refine (Tryz.maps_Keys_117 _ _).mono ?_; rintro e w' ⟨rfl, rfl⟩)
--     | (gi_at_call 89; refine (Tryz.slices_Sorted_keys_89_117 b nn D0 R w hown hmax hbytes).mono ?_; rintro e w' ⟨v, ss, rfl, hS, hrow, hnil, hb⟩))


end Go.Proofs
