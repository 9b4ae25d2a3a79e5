/- A transaction's sorted keys. -/
import Derived.Test.YtojkkmoflcfglaaGreatDoorIter
import Derived.WalkKit
import Derived.OwnWalkIn
import Derived.WalkSpells
import Derived.Test.YtojkkmoflcfglaaGreatDoorChecked

import Derived.KernelRfl
import Derived.Laws.Rows
namespace Go.Proofs
open Go.RowKit Go.Maps Go.Sort Go.Shelf
set_option maxHeartbeats 1000000 in
theorem Tryz.touched {H : Type} (b o mb n : Nat) (D0 : DataW H) (R : Value → Option (DataW H × List MemPlace)) (w : World) (h1 : w.cell? ⟨b, o + 3, none⟩ = some (.bool false)) (h2 : w.cell? ⟨b, o + 2, none⟩ = some (.map (some mb)))
    (hown : w.ownsMap Tryz.prog 9 R mb n D0) (hmax : Maps.size D0 ≤ maxLen) (hbytes : Maps.size D0 * 16 ≤ 140737488355328) :
    Calls Tryz.prog 75 #[.pointer (some ⟨b, o, none⟩)] w fun e w' => ∃ (v : Value) (ss : List (List UInt8)), e = .returned v ∧ ss.Perm (strKeys D0) ∧
      w'.ownsRow w.heap.size 9 1 v ss.length ((ss.mergeSort leB).map encStr) ∧ (v = .slice none 0 0 ↔ ss = []) ∧ Below w.heap.size w w' := by
  refine (callsIn_wide (n := 6)).1 ?_
  have hfK : Fence.wide.fn 118 := trivial
  have hfS : Fence.wide.fn 99 := trivial
  refine callsIn_of_wp Tryz.func75 rfl trivial ?_ rfl
  simp only [Tryz.ntmps75, List.size_toArray, List.length_cons, List.length_nil, Nat.reduceAdd, Nat.reduceSub, Array.replicate_succ, Array.replicate_zero, List.push_toArray, List.append_toArray, List.nil_append, List.cons_append]
  gi_wp2_with (first
    | (gi_at_call 118; refine (Tryz.maps_Keys_118 _ _).mono ?_; rintro e w' ⟨rfl, rfl⟩)
    | (gi_at_call 99; refine (Tryz.slices_Sorted_keys_99_118 mb n D0 R w hown hmax hbytes).mono ?_; rintro e w' ⟨v, ss, rfl, hS, hrow, hnil, hb⟩))
  go_ret
  exact ⟨v, ss, rfl, hS, ownsRow_base_a hrow (by simp), hnil, ((Below.refl _ w).alloc (Nat.le_refl _) _).trans (hb.mono (by simp))⟩
end Go.Proofs
