/- The library's contracts on the sorted keys of a map, at this program's numbers. -/
import Derived.Shelf.SlIter.Nil
import Derived.Shelf.SortM.Plain
import Derived.Shelf.SortM.SortNone
import Derived.Test.YtidbebeefkinaaaGreatDoorProg
namespace Go.Proofs
open Go.Shelf
def Tryz.keys234_ren : Go.Shelf.Ren := ⟨fun | 7 => 234 | 10 => 289 | n => n, fun | 23 => 187 | 26 => 9 | 3 => 3 | 28 => 66 | 0 => 0 | 27 => 65 | 33 => 153 | 4 => 4 | n => n, fun | n => n⟩
theorem Tryz.keys234 : Go.Proofs.SlLaysZ.n7 Tryz.prog Tryz.keys234_ren := {
  mixed := by kernel_rfl
  f7 := ⟨Tryz.f234.name, by decide, Tryz.func234.trans (congrArg some (by kernel_rfl))⟩
  f10 := ⟨Tryz.f289.name, by decide, Tryz.func289.trans (congrArg some (by kernel_rfl))⟩
  t0 := Tryz.underlying0
  a0 := Tryz.isAgg0
  z0 := Tryz.sizeOf0
  v0 := Tryz.zeroValue0
  t4 := Tryz.underlying4
  a4 := Tryz.isAgg4
  z4 := Tryz.sizeOf4
  v4 := Tryz.zeroValue4
  t23 := Tryz.underlying187
  a23 := Tryz.isAgg187
  z23 := Tryz.sizeOf187
  v23 := Tryz.zeroValue187
  t26 := Tryz.underlying9
  a26 := Tryz.isAgg9
  z26 := Tryz.sizeOf9
  v26 := Tryz.zeroValue9
  t27 := Tryz.underlying65
  a27 := Tryz.isAgg65
  z27 := Tryz.sizeOf65
  v27 := Tryz.zeroValue65
  t28 := Tryz.underlying66
  a28 := Tryz.isAgg66
  z28 := Tryz.sizeOf66
  v28 := Tryz.zeroValue66
  t33 := Tryz.underlying153
  a33 := Tryz.isAgg153
  z33 := Tryz.sizeOf153
  v33 := Tryz.zeroValue153 }
def Tryz.sorted88_ren : Go.Shelf.Ren := ⟨fun | 6 => 88 | 8 => 150 | 9 => 105 | 11 => 202 | 13 => 165 | 12 => 164 | 23 => 223 | 24 => 224 | 14 => 214 | 15 => 215 | 16 => 216 | 17 => 217 | 18 => 218 | 19 => 219 | 20 => 220 | 21 => 221 | 22 => 222 | 25 => 277 | 26 => 278 | 27 => 279 | 28 => 280 | 29 => 281 | 30 => 282 | 31 => 314 | n => n, fun | 26 => 9 | 28 => 66 | 24 => 34 | 0 => 0 | 3 => 3 | 37 => 290 | 48 => 220 | 50 => 35 | 4 => 4 | 40 => 348 | 39 => 347 | 45 => 303 | 5 => 5 | 9 => 9 | 51 => 409 | 55 => 412 | 57 => 438 | 58 => 439 | 33 => 153 | n => n, fun | n => n⟩
theorem Tryz.sorted88 : Go.Proofs.SlLaysZ.n6 Tryz.prog Tryz.sorted88_ren := {
  mixed := by kernel_rfl
  f6 := ⟨Tryz.f88.name, by decide, Tryz.func88.trans (congrArg some (by kernel_rfl))⟩
  f8 := ⟨Tryz.f150.name, by decide, Tryz.func150.trans (congrArg some (by kernel_rfl))⟩
  f11 := ⟨Tryz.f202.name, by decide, Tryz.func202.trans (congrArg some (by kernel_rfl))⟩
  t0 := Tryz.underlying0
  a0 := Tryz.isAgg0
  z0 := Tryz.sizeOf0
  v0 := Tryz.zeroValue0
  t24 := Tryz.underlying34
  a24 := Tryz.isAgg34
  z24 := Tryz.sizeOf34
  v24 := Tryz.zeroValue34
  t26 := Tryz.underlying9
  a26 := Tryz.isAgg9
  z26 := Tryz.sizeOf9
  v26 := Tryz.zeroValue9
  t28 := Tryz.underlying66
  a28 := Tryz.isAgg66
  z28 := Tryz.sizeOf66
  v28 := Tryz.zeroValue66
  i26 := by kernel_rfl }
def Tryz.sort105_ren : Go.Shelf.Ren := ⟨fun | 6 => 105 | 8 => 165 | 9 => 164 | 19 => 223 | 20 => 224 | 21 => 214 | 22 => 215 | 23 => 216 | 24 => 217 | 25 => 218 | 26 => 219 | 27 => 220 | 28 => 221 | 29 => 222 | 36 => 277 | 31 => 278 | 32 => 279 | 37 => 280 | 38 => 281 | 39 => 282 | 41 => 314 | n => n, fun | 27 => 34 | 29 => 9 | 3 => 3 | 32 => 290 | 26 => 34 | 0 => 0 | 44 => 220 | 46 => 35 | 4 => 4 | 36 => 348 | 35 => 347 | 41 => 303 | 5 => 5 | 9 => 9 | 53 => 409 | 57 => 412 | 63 => 438 | 64 => 439 | n => n, fun | n => n⟩
theorem Tryz.sort105 : Go.Proofs.SlLaysM.n6 Tryz.prog Tryz.sort105_ren := {
  mixed := by kernel_rfl
  f6 := ⟨Tryz.f105.name, by decide, Tryz.func105.trans (congrArg some (by kernel_rfl))⟩
  f8 := Tryz.func165.trans (congrArg some (by kernel_rfl))
  f9 := ⟨Tryz.f164.name, by decide, Tryz.func164.trans (congrArg some (by kernel_rfl))⟩
  f19 := Tryz.func223.trans (congrArg some (by kernel_rfl))
  f20 := Tryz.func224.trans (congrArg some (by kernel_rfl))
  f21 := ⟨Tryz.f214.name, by decide, Tryz.func214.trans (congrArg some (by kernel_rfl))⟩
  f22 := ⟨Tryz.f215.name, by decide, Tryz.func215.trans (congrArg some (by kernel_rfl))⟩
  f23 := ⟨Tryz.f216.name, by decide, Tryz.func216.trans (congrArg some (by kernel_rfl))⟩
  f24 := ⟨Tryz.f217.name, by decide, Tryz.func217.trans (congrArg some (by kernel_rfl))⟩
  f25 := ⟨Tryz.f218.name, by decide, Tryz.func218.trans (congrArg some (by kernel_rfl))⟩
  f26 := ⟨Tryz.f219.name, by decide, Tryz.func219.trans (congrArg some (by kernel_rfl))⟩
  f27 := ⟨Tryz.f220.name, by decide, Tryz.func220.trans (congrArg some (by kernel_rfl))⟩
  f28 := ⟨Tryz.f221.name, by decide, Tryz.func221.trans (congrArg some (by kernel_rfl))⟩
  f29 := ⟨Tryz.f222.name, by decide, Tryz.func222.trans (congrArg some (by kernel_rfl))⟩
  f31 := Tryz.func278.trans (congrArg some (by kernel_rfl))
  f32 := Tryz.func279.trans (congrArg some (by kernel_rfl))
  f36 := ⟨Tryz.f277.name, by decide, Tryz.func277.trans (congrArg some (by kernel_rfl))⟩
  f37 := ⟨Tryz.f280.name, by decide, Tryz.func280.trans (congrArg some (by kernel_rfl))⟩
  f38 := ⟨Tryz.f281.name, by decide, Tryz.func281.trans (congrArg some (by kernel_rfl))⟩
  f39 := ⟨Tryz.f282.name, by decide, Tryz.func282.trans (congrArg some (by kernel_rfl))⟩
  f41 := ⟨Tryz.f314.name, by decide, Tryz.func314.trans (congrArg some (by kernel_rfl))⟩
  t0 := Tryz.underlying0
  a0 := Tryz.isAgg0
  z0 := Tryz.sizeOf0
  v0 := Tryz.zeroValue0
  t3 := Tryz.underlying3
  a3 := Tryz.isAgg3
  z3 := Tryz.sizeOf3
  v3 := Tryz.zeroValue3
  t4 := Tryz.underlying4
  a4 := Tryz.isAgg4
  z4 := Tryz.sizeOf4
  v4 := Tryz.zeroValue4
  t5 := Tryz.underlying5
  a5 := Tryz.isAgg5
  z5 := Tryz.sizeOf5
  v5 := Tryz.zeroValue5
  t9 := Tryz.underlying9
  a9 := Tryz.isAgg9
  z9 := Tryz.sizeOf9
  v9 := Tryz.zeroValue9
  t26 := Tryz.underlying34
  a26 := Tryz.isAgg34
  z26 := Tryz.sizeOf34
  v26 := Tryz.zeroValue34
  t27 := Tryz.underlying34
  a27 := Tryz.isAgg34
  z27 := Tryz.sizeOf34
  v27 := Tryz.zeroValue34
  t29 := Tryz.underlying9
  a29 := Tryz.isAgg9
  z29 := Tryz.sizeOf9
  v29 := Tryz.zeroValue9
  t32 := Tryz.underlying290
  a32 := Tryz.isAgg290
  z32 := Tryz.sizeOf290
  v32 := Tryz.zeroValue290
  t35 := Tryz.underlying347
  a35 := Tryz.isAgg347
  z35 := Tryz.sizeOf347
  v35 := Tryz.zeroValue347
  t36 := Tryz.underlying348
  a36 := Tryz.isAgg348
  z36 := Tryz.sizeOf348
  v36 := Tryz.zeroValue348
  t41 := Tryz.underlying303
  a41 := Tryz.isAgg303
  z41 := Tryz.sizeOf303
  v41 := Tryz.zeroValue303
  t44 := Tryz.underlying220
  a44 := Tryz.isAgg220
  z44 := Tryz.sizeOf220
  v44 := Tryz.zeroValue220
  t46 := Tryz.underlying35
  a46 := Tryz.isAgg35
  z46 := Tryz.sizeOf35
  v46 := Tryz.zeroValue35
  t53 := Tryz.underlying409
  a53 := Tryz.isAgg409
  z53 := Tryz.sizeOf409
  v53 := Tryz.zeroValue409
  t57 := Tryz.underlying412
  a57 := Tryz.isAgg412
  z57 := Tryz.sizeOf412
  v57 := Tryz.zeroValue412
  t63 := Tryz.underlying438
  a63 := Tryz.isAgg438
  z63 := Tryz.sizeOf438
  v63 := Tryz.zeroValue438
  t64 := Tryz.underlying439
  a64 := Tryz.isAgg439
  z64 := Tryz.sizeOf439
  v64 := Tryz.zeroValue439 }
end Go.Proofs
namespace Go.Proofs
open Go.RowKit Go.Maps Go.Sort Go.Shelf
/-- slices.Sort's two contracts at this dump, at the fence that asks nothing. -/
theorem Tryz.sorts88 (m : Nat) : AnyZ.SortsIn Tryz.prog Tryz.sorted88_ren Fence.wide m :=
  ⟨fun blk off cap ss W hH hblk hsz => callsIn_wide.2 (AnyM.slices_Sort_string Tryz.sort105 blk off cap ss W hH hblk hsz),
   fun p cap W => callsIn_wide.2 (AnyM.slices_Sort_string_none Tryz.sort105 p cap W)⟩

/-- **maps.Keys[map[string]int,string,int], at whatever map, the nil one too:** a function value over ONE NEW BLOCK, which holds the map. -/
theorem Tryz.maps_Keys_234 (mb : Option Nat) (W : World) : CallsIn Fence.wide 5 Tryz.prog 234 #[.map mb] W fun e w' => e = .returned (.func (.func 289) #[] #[.pointer (some ⟨W.heap.size, 0, none⟩)]) ∧ w' = W.alloc (.cells #[.map mb] 187) :=
  AnyZ.keys_in Tryz.keys234 Fence.wide 5 trivial rfl mb W

set_option maxHeartbeats 1000000 in
/-- **slices.Sorted[string] AT WHAT maps.Keys[map[string]int,string,int] HANDED BACK FOR A MAP THAT IS NOT nil** ('w': the world AHEAD of maps.Keys' call): A NEW SLICE THAT HOLDS THE MAP's KEYS, SORTED; nil just where it has none; nothing that lay before has turned. -/
theorem Tryz.slices_Sorted_keys_88_234 {H : Type} (b nn : Nat) (D0 : DataW H) (R : Value → Option (DataW H × List MemPlace)) (w : World) (hown : w.ownsMap Tryz.prog 9 R b nn D0) (hmax : Maps.size D0 ≤ maxLen) (hbytes : Maps.size D0 * 16 ≤ 140737488355328) :
    CallsIn Fence.wide 5 Tryz.prog 88 #[.func (.func 289) #[] #[.pointer (some ⟨w.heap.size, 0, none⟩)]] (w.alloc (.cells #[.map (some b)] 187)) fun e w' => ∃ (v : Value) (ss : List (List UInt8)), e = .returned v ∧ ss.Perm (strKeys D0) ∧
      w'.ownsRow (w.alloc (.cells #[.map (some b)] 187)).heap.size 9 1 v ss.length ((ss.mergeSort (fun x y => decide (x ≤ y))).map encStr) ∧ (v = .slice none 0 0 ↔ ss = []) ∧ Below (w.alloc (.cells #[.map (some b)] 187)).heap.size (w.alloc (.cells #[.map (some b)] 187)) w' := by
  have hbl := hown.lt
  have hseq : SeqGives Fence.wide 2 Tryz.prog 289 #[.pointer (some ⟨w.heap.size, 0, none⟩)] encStr (fun ss => ss.Perm (strKeys D0)) (Maps.size D0) (w.alloc (.cells #[.map (some b)] 187)) :=
    AnyZ.keys_gives (ρ := Tryz.keys234_ren) { Tryz.keys234 with } Fence.wide _ trivial rfl (by omega) w.heap.size b nn D0 _ (by simp) (by simp) (by
      obtain ⟨es, clock, hb, Ft, hs, hD⟩ := hown
      exact ⟨es, clock, (Below.heap_alloc _ _ b hbl).trans hb, Ft, hs, hD⟩)
  exact AnyZ.sorted_in Tryz.sorted88 Fence.wide 5 trivial trivial trivial trivial rfl (by omega) (Tryz.sorts88 _) (enters_of Tryz.func105 (by kernel_rfl) rfl) 289 #[.pointer (some ⟨w.heap.size, 0, none⟩)] trivial (enters_of Tryz.func289 (by kernel_rfl) rfl) _ _ hmax hbytes _ hseq

set_option maxHeartbeats 1000000 in
/-- **.. AND FOR THE nil MAP: nil.** -/
theorem Tryz.slices_Sorted_keys_nil_88_234 (w : World) :
    CallsIn Fence.wide 5 Tryz.prog 88 #[.func (.func 289) #[] #[.pointer (some ⟨w.heap.size, 0, none⟩)]] (w.alloc (.cells #[.map none] 187)) fun e w' => ∃ (v : Value) (ss : List (List UInt8)), e = .returned v ∧ ss = [] ∧
      w'.ownsRow (w.alloc (.cells #[.map none] 187)).heap.size 9 1 v ss.length ((ss.mergeSort (fun x y => decide (x ≤ y))).map encStr) ∧ (v = .slice none 0 0 ↔ ss = []) ∧ Below (w.alloc (.cells #[.map none] 187)).heap.size (w.alloc (.cells #[.map none] 187)) w' := by
  have hseq : SeqGives Fence.wide 2 Tryz.prog 289 #[.pointer (some ⟨w.heap.size, 0, none⟩)] encStr (fun ss : List (List UInt8) => ss = []) 0 (w.alloc (.cells #[.map none] 187)) :=
    AnyZ.keys_gives_nil (ρ := Tryz.keys234_ren) { Tryz.keys234 with } Fence.wide _ trivial rfl w.heap.size _ (by simp) (by simp)
  exact AnyZ.sorted_in Tryz.sorted88 Fence.wide 5 trivial trivial trivial trivial rfl (by omega) (Tryz.sorts88 _) (enters_of Tryz.func105 (by kernel_rfl) rfl) 289 #[.pointer (some ⟨w.heap.size, 0, none⟩)] trivial (enters_of Tryz.func289 (by kernel_rfl) rfl) _ 0 (Nat.zero_le _) (by omega) _ hseq

end Go.Proofs
