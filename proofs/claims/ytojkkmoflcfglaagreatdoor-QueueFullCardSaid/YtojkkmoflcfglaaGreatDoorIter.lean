/- The library's contracts on the sorted keys of a map, at this program's numbers. -/
import Derived.Shelf.SlIter.Nil
import Derived.Shelf.SortM.Plain
import Derived.Shelf.SortM.SortNone
import Derived.Test.YtojkkmoflcfglaaGreatDoorProg
namespace Go.Proofs
open Go.RowKit Go.Maps Go.Sort Go.Shelf


def Tryz.keys118_ren : Go.Shelf.Ren := ⟨fun | 7 => 118 | 10 => 180 | n => n, fun | 23 => 103 | 26 => 9 | 3 => 3 | 28 => 162 | 0 => 0 | 27 => 161 | 33 => 211 | 4 => 4 | n => n, fun | n => n⟩
theorem Tryz.keys118 : Go.Proofs.SlLaysZ.n7 Tryz.prog Tryz.keys118_ren := {
  mixed := by kernel_rfl
  f7 := ⟨Tryz.f118.name, by decide, Tryz.func118.trans (congrArg some (by kernel_rfl))⟩
  f10 := ⟨Tryz.f180.name, by decide, Tryz.func180.trans (congrArg some (by kernel_rfl))⟩
  t0 := Tryz.underlying0
  a0 := Tryz.isAgg0
  z0 := Tryz.sizeOf0
  v0 := Tryz.zeroValue0
  t4 := Tryz.underlying4
  a4 := Tryz.isAgg4
  z4 := Tryz.sizeOf4
  v4 := Tryz.zeroValue4
  t23 := Tryz.underlying103
  a23 := Tryz.isAgg103
  z23 := Tryz.sizeOf103
  v23 := Tryz.zeroValue103
  t26 := Tryz.underlying9
  a26 := Tryz.isAgg9
  z26 := Tryz.sizeOf9
  v26 := Tryz.zeroValue9
  t27 := Tryz.underlying161
  a27 := Tryz.isAgg161
  z27 := Tryz.sizeOf161
  v27 := Tryz.zeroValue161
  t28 := Tryz.underlying162
  a28 := Tryz.isAgg162
  z28 := Tryz.sizeOf162
  v28 := Tryz.zeroValue162
  t33 := Tryz.underlying211
  a33 := Tryz.isAgg211
  z33 := Tryz.sizeOf211
  v33 := Tryz.zeroValue211 }
def Tryz.sorted99_ren : Go.Shelf.Ren := ⟨fun | 6 => 99 | 8 => 161 | 9 => 112 | 11 => 208 | 13 => 172 | 12 => 171 | 23 => 222 | 24 => 223 | 14 => 213 | 15 => 214 | 16 => 215 | 17 => 216 | 18 => 217 | 19 => 218 | 20 => 219 | 21 => 220 | 22 => 221 | 25 => 247 | 26 => 248 | 27 => 249 | 28 => 250 | 29 => 251 | 30 => 252 | 31 => 268 | n => n, fun | 26 => 9 | 28 => 162 | 24 => 80 | 0 => 0 | 3 => 3 | 37 => 327 | 48 => 47 | 50 => 27 | 4 => 4 | 40 => 363 | 39 => 362 | 45 => 188 | 5 => 5 | 9 => 9 | 51 => 392 | 55 => 395 | 57 => 407 | 58 => 408 | 33 => 211 | n => n, fun | n => n⟩
theorem Tryz.sorted99 : Go.Proofs.SlLaysZ.n6 Tryz.prog Tryz.sorted99_ren := {
  mixed := by kernel_rfl
  f6 := ⟨Tryz.f99.name, by decide, Tryz.func99.trans (congrArg some (by kernel_rfl))⟩
  f8 := ⟨Tryz.f161.name, by decide, Tryz.func161.trans (congrArg some (by kernel_rfl))⟩
  f11 := ⟨Tryz.f208.name, by decide, Tryz.func208.trans (congrArg some (by kernel_rfl))⟩
  t0 := Tryz.underlying0
  a0 := Tryz.isAgg0
  z0 := Tryz.sizeOf0
  v0 := Tryz.zeroValue0
  t24 := Tryz.underlying80
  a24 := Tryz.isAgg80
  z24 := Tryz.sizeOf80
  v24 := Tryz.zeroValue80
  t26 := Tryz.underlying9
  a26 := Tryz.isAgg9
  z26 := Tryz.sizeOf9
  v26 := Tryz.zeroValue9
  t28 := Tryz.underlying162
  a28 := Tryz.isAgg162
  z28 := Tryz.sizeOf162
  v28 := Tryz.zeroValue162
  i26 := by kernel_rfl }
def Tryz.sort112_ren : Go.Shelf.Ren := ⟨fun | 6 => 112 | 8 => 172 | 9 => 171 | 19 => 222 | 20 => 223 | 21 => 213 | 22 => 214 | 23 => 215 | 24 => 216 | 25 => 217 | 26 => 218 | 27 => 219 | 28 => 220 | 29 => 221 | 36 => 247 | 31 => 248 | 32 => 249 | 37 => 250 | 38 => 251 | 39 => 252 | 41 => 268 | n => n, fun | 27 => 80 | 29 => 9 | 3 => 3 | 32 => 327 | 26 => 80 | 0 => 0 | 44 => 47 | 46 => 27 | 4 => 4 | 36 => 363 | 35 => 362 | 41 => 188 | 5 => 5 | 9 => 9 | 53 => 392 | 57 => 395 | 63 => 407 | 64 => 408 | n => n, fun | n => n⟩
theorem Tryz.sort112 : Go.Proofs.SlLaysM.n6 Tryz.prog Tryz.sort112_ren := {
  mixed := by kernel_rfl
  f6 := ⟨Tryz.f112.name, by decide, Tryz.func112.trans (congrArg some (by kernel_rfl))⟩
  f8 := Tryz.func172.trans (congrArg some (by kernel_rfl))
  f9 := ⟨Tryz.f171.name, by decide, Tryz.func171.trans (congrArg some (by kernel_rfl))⟩
  f19 := Tryz.func222.trans (congrArg some (by kernel_rfl))
  f20 := Tryz.func223.trans (congrArg some (by kernel_rfl))
  f21 := ⟨Tryz.f213.name, by decide, Tryz.func213.trans (congrArg some (by kernel_rfl))⟩
  f22 := ⟨Tryz.f214.name, by decide, Tryz.func214.trans (congrArg some (by kernel_rfl))⟩
  f23 := ⟨Tryz.f215.name, by decide, Tryz.func215.trans (congrArg some (by kernel_rfl))⟩
  f24 := ⟨Tryz.f216.name, by decide, Tryz.func216.trans (congrArg some (by kernel_rfl))⟩
  f25 := ⟨Tryz.f217.name, by decide, Tryz.func217.trans (congrArg some (by kernel_rfl))⟩
  f26 := ⟨Tryz.f218.name, by decide, Tryz.func218.trans (congrArg some (by kernel_rfl))⟩
  f27 := ⟨Tryz.f219.name, by decide, Tryz.func219.trans (congrArg some (by kernel_rfl))⟩
  f28 := ⟨Tryz.f220.name, by decide, Tryz.func220.trans (congrArg some (by kernel_rfl))⟩
  f29 := ⟨Tryz.f221.name, by decide, Tryz.func221.trans (congrArg some (by kernel_rfl))⟩
  f31 := Tryz.func248.trans (congrArg some (by kernel_rfl))
  f32 := Tryz.func249.trans (congrArg some (by kernel_rfl))
  f36 := ⟨Tryz.f247.name, by decide, Tryz.func247.trans (congrArg some (by kernel_rfl))⟩
  f37 := ⟨Tryz.f250.name, by decide, Tryz.func250.trans (congrArg some (by kernel_rfl))⟩
  f38 := ⟨Tryz.f251.name, by decide, Tryz.func251.trans (congrArg some (by kernel_rfl))⟩
  f39 := ⟨Tryz.f252.name, by decide, Tryz.func252.trans (congrArg some (by kernel_rfl))⟩
  f41 := ⟨Tryz.f268.name, by decide, Tryz.func268.trans (congrArg some (by kernel_rfl))⟩
  t0 := Tryz.underlying0
  a0 := Tryz.isAgg0
  z0 := Tryz.sizeOf0
  v0 := Tryz.zeroValue0
  t3 := Tryz.underlying3
  a3 := Tryz.isAgg3
  z3 := Tryz.sizeOf3
  v3 := Tryz.zeroValue3
  t4 := Tryz.underlying4
  a4 := Tryz.isAgg4
  z4 := Tryz.sizeOf4
  v4 := Tryz.zeroValue4
  t5 := Tryz.underlying5
  a5 := Tryz.isAgg5
  z5 := Tryz.sizeOf5
  v5 := Tryz.zeroValue5
  t9 := Tryz.underlying9
  a9 := Tryz.isAgg9
  z9 := Tryz.sizeOf9
  v9 := Tryz.zeroValue9
  t26 := Tryz.underlying80
  a26 := Tryz.isAgg80
  z26 := Tryz.sizeOf80
  v26 := Tryz.zeroValue80
  t27 := Tryz.underlying80
  a27 := Tryz.isAgg80
  z27 := Tryz.sizeOf80
  v27 := Tryz.zeroValue80
  t29 := Tryz.underlying9
  a29 := Tryz.isAgg9
  z29 := Tryz.sizeOf9
  v29 := Tryz.zeroValue9
  t32 := Tryz.underlying327
  a32 := Tryz.isAgg327
  z32 := Tryz.sizeOf327
  v32 := Tryz.zeroValue327
  t35 := Tryz.underlying362
  a35 := Tryz.isAgg362
  z35 := Tryz.sizeOf362
  v35 := Tryz.zeroValue362
  t36 := Tryz.underlying363
  a36 := Tryz.isAgg363
  z36 := Tryz.sizeOf363
  v36 := Tryz.zeroValue363
  t41 := Tryz.underlying188
  a41 := Tryz.isAgg188
  z41 := Tryz.sizeOf188
  v41 := Tryz.zeroValue188
  t44 := Tryz.underlying47
  a44 := Tryz.isAgg47
  z44 := Tryz.sizeOf47
  v44 := Tryz.zeroValue47
  t46 := Tryz.underlying27
  a46 := Tryz.isAgg27
  z46 := Tryz.sizeOf27
  v46 := Tryz.zeroValue27
  t53 := Tryz.underlying392
  a53 := Tryz.isAgg392
  z53 := Tryz.sizeOf392
  v53 := Tryz.zeroValue392
  t57 := Tryz.underlying395
  a57 := Tryz.isAgg395
  z57 := Tryz.sizeOf395
  v57 := Tryz.zeroValue395
  t63 := Tryz.underlying407
  a63 := Tryz.isAgg407
  z63 := Tryz.sizeOf407
  v63 := Tryz.zeroValue407
  t64 := Tryz.underlying408
  a64 := Tryz.isAgg408
  z64 := Tryz.sizeOf408
  v64 := Tryz.zeroValue408 }
end Go.Proofs
namespace Go.Proofs
open Go.RowKit Go.Maps Go.Sort Go.Shelf
/-- slices.Sort's two contracts at this dump, at the fence that asks nothing. -/
theorem Tryz.sorts99 (m : Nat) : AnyZ.SortsIn Tryz.prog Tryz.sorted99_ren Fence.wide m :=
  ⟨fun blk off cap ss W hH hblk hsz => callsIn_wide.2 (AnyM.slices_Sort_string Tryz.sort112 blk off cap ss W hH hblk hsz),
   fun p cap W => callsIn_wide.2 (AnyM.slices_Sort_string_none Tryz.sort112 p cap W)⟩

/-- **maps.Keys[map[string]int,string,int], at whatever map, the nil one too:** a function value over ONE NEW BLOCK, which holds the map. -/
theorem Tryz.maps_Keys_118 (mb : Option Nat) (W : World) : CallsIn Fence.wide 5 Tryz.prog 118 #[.map mb] W fun e w' => e = .returned (.func (.func 180) #[] #[.pointer (some ⟨W.heap.size, 0, none⟩)]) ∧ w' = W.alloc (.cells #[.map mb] 103) :=
  AnyZ.keys_in Tryz.keys118 Fence.wide 5 trivial rfl mb W

set_option maxHeartbeats 1000000 in
/-- **slices.Sorted[string] AT WHAT maps.Keys[map[string]int,string,int] HANDED BACK FOR A MAP THAT IS NOT nil** ('w': the world AHEAD of maps.Keys' call): A NEW SLICE THAT HOLDS THE MAP's KEYS, SORTED; nil just where it has none; nothing that lay before has turned. -/
theorem Tryz.slices_Sorted_keys_99_118 {H : Type} (b nn : Nat) (D0 : DataW H) (R : Value → Option (DataW H × List MemPlace)) (w : World) (hown : w.ownsMap Tryz.prog 9 R b nn D0) (hmax : Maps.size D0 ≤ maxLen) (hbytes : Maps.size D0 * 16 ≤ 140737488355328) :
    CallsIn Fence.wide 5 Tryz.prog 99 #[.func (.func 180) #[] #[.pointer (some ⟨w.heap.size, 0, none⟩)]] (w.alloc (.cells #[.map (some b)] 103)) fun e w' => ∃ (v : Value) (ss : List (List UInt8)), e = .returned v ∧ ss.Perm (strKeys D0) ∧
      w'.ownsRow (w.alloc (.cells #[.map (some b)] 103)).heap.size 9 1 v ss.length ((ss.mergeSort (fun x y => decide (x ≤ y))).map encStr) ∧ (v = .slice none 0 0 ↔ ss = []) ∧ Below (w.alloc (.cells #[.map (some b)] 103)).heap.size (w.alloc (.cells #[.map (some b)] 103)) w' := by
  have hbl := hown.lt
  have hseq : SeqGives Fence.wide 2 Tryz.prog 180 #[.pointer (some ⟨w.heap.size, 0, none⟩)] encStr (fun ss => ss.Perm (strKeys D0)) (Maps.size D0) (w.alloc (.cells #[.map (some b)] 103)) :=
    AnyZ.keys_gives (ρ := Tryz.keys118_ren) { Tryz.keys118 with } Fence.wide _ trivial rfl (by omega) w.heap.size b nn D0 _ (by simp) (by simp) (by
      obtain ⟨es, clock, hb, Ft, hs, hD⟩ := hown
      exact ⟨es, clock, (Below.heap_alloc _ _ b hbl).trans hb, Ft, hs, hD⟩)
  exact AnyZ.sorted_in Tryz.sorted99 Fence.wide 5 trivial trivial trivial trivial rfl (by omega) (Tryz.sorts99 _) (enters_of Tryz.func112 (by kernel_rfl) rfl) 180 #[.pointer (some ⟨w.heap.size, 0, none⟩)] trivial (enters_of Tryz.func180 (by kernel_rfl) rfl) _ _ hmax hbytes _ hseq

set_option maxHeartbeats 1000000 in
/-- **.. AND FOR THE nil MAP: nil.** -/
theorem Tryz.slices_Sorted_keys_nil_99_118 (w : World) :
    CallsIn Fence.wide 5 Tryz.prog 99 #[.func (.func 180) #[] #[.pointer (some ⟨w.heap.size, 0, none⟩)]] (w.alloc (.cells #[.map none] 103)) fun e w' => ∃ (v : Value) (ss : List (List UInt8)), e = .returned v ∧ ss = [] ∧
      w'.ownsRow (w.alloc (.cells #[.map none] 103)).heap.size 9 1 v ss.length ((ss.mergeSort (fun x y => decide (x ≤ y))).map encStr) ∧ (v = .slice none 0 0 ↔ ss = []) ∧ Below (w.alloc (.cells #[.map none] 103)).heap.size (w.alloc (.cells #[.map none] 103)) w' := by
  have hseq : SeqGives Fence.wide 2 Tryz.prog 180 #[.pointer (some ⟨w.heap.size, 0, none⟩)] encStr (fun ss : List (List UInt8) => ss = []) 0 (w.alloc (.cells #[.map none] 103)) :=
    AnyZ.keys_gives_nil (ρ := Tryz.keys118_ren) { Tryz.keys118 with } Fence.wide _ trivial rfl w.heap.size _ (by simp) (by simp)
  exact AnyZ.sorted_in Tryz.sorted99 Fence.wide 5 trivial trivial trivial trivial rfl (by omega) (Tryz.sorts99 _) (enters_of Tryz.func112 (by kernel_rfl) rfl) 180 #[.pointer (some ⟨w.heap.size, 0, none⟩)] trivial (enters_of Tryz.func180 (by kernel_rfl) rfl) _ 0 (Nat.zero_le _) (by omega) _ hseq

-- THE CALLER's WALK over 'slices.Sorted(maps.Keys(m))' (inside '(callsIn_wide (n := 6)).1'; 'have hfK : Fence.wide.fn 118 := trivial', 'have hfS : Fence.wide.fn 99 := trivial' ahead): THE TWO ARMS TO PASTE:
--   gi_wp2_with (first
--     | (gi_at_call 118; refine (Tryz.maps_Keys_118 _ _).mono ?_; rintro e w' ⟨rfl, rfl⟩)
--     | (gi_at_call 99; refine (Tryz.slices_Sorted_keys_99_118 b nn D0 R w hown hmax hbytes).mono ?_; rintro e w' ⟨v, ss, rfl, hS, hrow, hnil, hb⟩))


end Go.Proofs
