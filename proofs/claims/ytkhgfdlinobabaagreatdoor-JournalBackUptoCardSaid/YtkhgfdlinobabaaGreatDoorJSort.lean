/- slices.Sort and slices.Compact of texts that the call itself gathered. -/
import Derived.Test.YtkhgfdlinobabaaGreatDoorShelfB
import Derived.WalkKit
import Derived.Lib.SortBridge
namespace Go.Proofs.YtkhgfdlinobabaaGreatDoor.G
open Go.RowKit Go.Sort Go.Lib
set_option linter.unusedVariables false

theorem setCells_blk (g e : Nat) : ∀ (vs : List Value) (o : Nat) (w : World) (cur : Array Value), w.heap[g]? = some (.cells cur e (0, 0)) → ∃ cur', (w.setCells g o vs).heap[g]? = some (.cells cur' e (0, 0)) ∧ cur'.size = cur.size
  | [], o, w, cur, h => ⟨cur, h, rfl⟩
  | v :: vs, o, w, cur, h => by
    obtain ⟨cur', h1, h2⟩ := setCells_blk g e vs (o + 1) (w.setCell ⟨g, o, none⟩ v) (cur.set! o v) (by
      rw [World.setCell]
      simp [Array.getElem?_modify, h])
    exact ⟨cur', h1, by simpa using h2⟩
theorem setCells_size (g : Nat) : ∀ (vs : List Value) (o : Nat) (w : World), (w.setCells g o vs).heap.size = w.heap.size
  | [], _, _ => rfl
  | v :: vs, o, w => by
    show ((w.setCell ⟨g, o, none⟩ v).setCells g (o + 1) vs).heap.size = _
    rw [setCells_size g vs (o + 1)]
    simp [World.setCell]
theorem setCells_far (g : Nat) : ∀ (vs : List Value) (o : Nat) (w : World) (i : Nat), i ≠ g → (w.setCells g o vs).heap[i]? = w.heap[i]?
  | [], _, _, _, _ => rfl
  | v :: vs, o, w, i, h => by
    show ((w.setCell ⟨g, o, none⟩ v).setCells g (o + 1) vs).heap[i]? = _
    rw [setCells_far g vs (o + 1) _ i h]
    exact Below.heap_setCell _ _ _ _ h
theorem os_setCells (g : Nat) : ∀ (vs : List Value) (o : Nat) (w : World), (w.setCells g o vs).os = w.os
  | [], _, _ => rfl
  | v :: vs, o, w => by
    show ((w.setCell ⟨g, o, none⟩ v).setCells g (o + 1) vs).os = _
    rw [os_setCells g vs (o + 1)]
    rfl
theorem output_setCells (g : Nat) : ∀ (vs : List Value) (o : Nat) (w : World), (w.setCells g o vs).output = w.output
  | [], _, _ => rfl
  | v :: vs, o, w => by
    show ((w.setCell ⟨g, o, none⟩ v).setCells g (o + 1) vs).output = _
    rw [output_setCells g vs (o + 1)]
    rfl
theorem tape_setCells (g : Nat) : ∀ (vs : List Value) (o : Nat) (w : World), (w.setCells g o vs).tape = w.tape
  | [], _, _ => rfl
  | v :: vs, o, w => by
    show ((w.setCell ⟨g, o, none⟩ v).setCells g (o + 1) vs).tape = _
    rw [tape_setCells g vs (o + 1)]
    rfl
/-- A row of one's own, all of whose elements are written anew: it holds what was written. -/
theorem own_sets {w : World} {base e n cap g : Nat} {xs ys : List Value} (h : w.ownsRow base e 1 (.slice (some ⟨g, 0, none⟩) n cap) n xs) (hy : ys.length = n) :
    (w.setCells g 0 ys).ownsRow base e 1 (.slice (some ⟨g, 0, none⟩) n cap) n ys := by
  obtain ⟨h1, h2⟩ := h
  rcases h2 with ⟨h2, _⟩ | ⟨g', cap', cur, hv, hb, hh, hn, hm, hz, ht⟩
  · cases h2
  · cases hv
    obtain ⟨cur', k1, k2⟩ := setCells_blk g e ys 0 w cur hh
    refine ⟨by rw [hy, Nat.mul_one], .inr ⟨g, cap, cur', rfl, hb, k1, hn, hm, by rw [k2, hz], ?_⟩⟩
    apply List.ext_getElem?
    intro j
    rw [List.getElem?_take, Nat.mul_one]
    by_cases hj : j < n
    · rw [if_pos hj]
      have hc := World.cell?_setCells_in g ys 0 w (fun i hi => by
        rw [Nat.zero_add]
        have : i < cur.size := by omega
        simp [World.cell?, hh, this]) j (by omega)
      rw [Nat.zero_add] at hc
      simp only [World.cell?, k1] at hc
      simp only [Array.getElem?_toList]
      rw [List.getElem?_eq_getElem (by omega)]
      simpa using hc
    · rw [if_neg hj, List.getElem?_eq_none (by omega)]
/-- The texts as cells. -/
abbrev tx (l : List ByteArray) : List Value := l.map Value.string
theorem own_holds {w : World} {base g cap : Nat} {l : List ByteArray} (h : w.ownsRow base 9 1 (.slice (some ⟨g, 0, none⟩) l.length cap) l.length (tx l)) :
    Holds encStr w g 0 (l.map (·.data.toList)).toArray := by
  intro j hj
  have hj' : j < l.length := by simpa using hj
  rcases h.2 with ⟨h2, _⟩ | ⟨g', cap', cur, hv, hb, hh, hn, hm, hz, ht⟩
  · cases h2
  · cases hv
    have hc : cur[j]? = some (.string l[j]) := by
      have : (cur.toList.take (l.length * 1))[j]? = some (.string l[j]) := by rw [ht]; simp [hj']
      rw [List.getElem?_take, if_pos (by omega)] at this
      simpa using this
    rw [Nat.zero_add]
    refine ⟨?_, by simp [World.frozen?, hh]⟩
    simp [World.cell?, hh, hc, hj', encStr]
theorem grow_below (B : Nat) (w : World) (os : Array Obj) (hB : B ≤ w.heap.size) : Below B w (grow w os) :=
  ⟨rfl, rfl, rfl, by simp [grow], fun i hi => heap_grow_old w os (by omega)⟩
theorem own_grow {w : World} {base e sz n : Nat} {v : Value} {xs : List Value} (h : w.ownsRow base e sz v n xs) (os : Array Obj) : (grow w os).ownsRow base e sz v n xs := by
  refine ⟨h.1, ?_⟩
  rcases h.2 with h2 | ⟨g, cap, cur, hv, hb, hh, r⟩
  · exact .inl h2
  · exact .inr ⟨g, cap, cur, hv, hb, (heap_grow_old w os (Array.getElem?_eq_some_iff.1 hh).1).trans hh, r⟩
def toB (l : List UInt8) : ByteArray := ⟨l.toArray⟩
/-- The texts, rising. -/
def sortS (l : List ByteArray) : List ByteArray := ((l.map (·.data.toList)).mergeSort fun x y => decide (x ≤ y)).map toB
theorem sortS_length (l : List ByteArray) : (sortS l).length = l.length := by simp [sortS]
theorem enc_toB (ys : List (List UInt8)) : ys.map encStr = tx (ys.map toB) := by simp [tx, encStr, toB]
theorem own_form {w : World} {base e n : Nat} {v : Value} {xs : List Value} (h : w.ownsRow base e 1 v n xs) (h0 : 0 < n) : ∃ g cap, v = .slice (some ⟨g, 0, none⟩) n cap ∧ base ≤ g ∧ g < w.heap.size ∧ n ≤ cap ∧ cap ≤ maxLen := by
  rcases h.2 with ⟨_, h2⟩ | ⟨g, cap, cur, hv, hb, hh, hn, hm, _⟩
  · omega
  · exact ⟨g, cap, hv, hb, (Array.getElem?_eq_some_iff.1 hh).1, hn, hm⟩
theorem own_slice {w : World} {base e n : Nat} {v : Value} {xs : List Value} (h : w.ownsRow base e 1 v n xs) : ∃ A cap, v = .slice A n cap := by
  rcases h.2 with ⟨hv, h2⟩ | ⟨g, cap, cur, hv, _⟩
  · exact ⟨none, 0, by rw [hv, h2]⟩
  · exact ⟨_, cap, hv⟩
theorem below_setcells (base : Nat) (w : World) (g n : Nat) (ys : List Value) (hg : base ≤ g) : Below base w ((w.drewN n).setCells g 0 ys) :=
  ⟨os_setCells _ _ _ _, tape_setCells _ _ _ _, output_setCells _ _ _ _, by rw [setCells_size]; exact Nat.le_refl _, fun i hi => by rw [setCells_far _ _ _ _ _ (by omega)]; rfl⟩
theorem sort_calls (base : Nat) (v : Value) (l : List ByteArray) (w : World) (h : w.ownsRow base 9 1 v l.length (tx l)) (hl : l.length < 4611686018427387904) (hb : base ≤ w.heap.size) :
    Calls Tryz.prog 80 #[v] w fun e w' => e = .returned (.tuple #[]) ∧ w'.ownsRow base 9 1 v l.length (tx (sortS l)) ∧ Below base w w' := by
  rcases Nat.eq_zero_or_pos l.length with h0 | h0
  · obtain ⟨A, c, rfl⟩ := own_slice h
    have e0 : l = [] := List.eq_nil_of_length_eq_zero h0
    subst e0
    refine (Tryz.slices_Sort_string_none A c w).mono fun e w' ⟨he, hw⟩ => ?_
    subst hw
    exact ⟨he, by simpa [sortS] using h, Below.refl _ _⟩
  · obtain ⟨g, cap, rfl, hbase, hlt, _⟩ := own_form h h0
    have hH := own_holds h
    have hC := Tryz.slices_Sort_string g 0 cap (l.map (·.data.toList)) w hH hlt (by simpa using hl)
    rw [List.length_map] at hC
    refine hC.mono fun e w' ⟨he, n, os, hw⟩ => ⟨he, ?_⟩
    rw [Lib.sorted_world encStr w g 0 n _ _ os hH (by simp), enc_toB] at hw
    subst hw
    have hd : (w.drewN n).ownsRow base 9 1 (.slice (some ⟨g, 0, none⟩) l.length cap) l.length (tx l) := h
    have hs := own_sets hd (ys := tx (sortS l)) (by simp [sortS_length])
    exact ⟨own_grow hs os, (below_setcells base w g n _ hbase).trans (grow_below base _ os (by rw [setCells_size]; exact hb))⟩
def compactS (l : List ByteArray) : List ByteArray := (Lib.compact (l.map (·.data.toList))).map toB
theorem own_take {w : World} {base e n m : Nat} {g cap : Nat} {xs : List Value} (h : w.ownsRow base e 1 (.slice (some ⟨g, 0, none⟩) n cap) n xs) (hm : m ≤ n) : w.ownsRow base e 1 (.slice (some ⟨g, 0, none⟩) m cap) m (xs.take m) := by
  obtain ⟨h1, h2⟩ := h
  refine ⟨by rw [List.length_take]; omega, ?_⟩
  rcases h2 with ⟨h2, _⟩ | ⟨g', cap', cur, hv, hb, hh, hn, hmx, hz, ht⟩
  · cases h2
  · cases hv
    refine .inr ⟨g, cap, cur, rfl, hb, hh, by omega, hmx, hz, ?_⟩
    rw [← ht, List.take_take, Nat.mul_one, Nat.mul_one, Nat.min_eq_left hm]
theorem compact_calls (base : Nat) (v : Value) (l : List ByteArray) (w : World) (h : w.ownsRow base 9 1 v l.length (tx l)) (hl : l.length ≤ 9223372036854775807) :
    Calls Tryz.prog 81 #[v] w fun e w' => ∃ v', e = .returned v' ∧ w'.ownsRow base 9 1 v' (compactS l).length (tx (compactS l)) ∧ Below base w w' := by
  rcases Nat.eq_zero_or_pos l.length with h0 | h0
  · obtain ⟨A, c, rfl⟩ := own_slice h
    have e0 : l = [] := List.eq_nil_of_length_eq_zero h0
    subst e0
    refine (Tryz.slices_Compact_string_empty A c w).mono fun e w' ⟨he, hw⟩ => ?_
    subst hw
    exact ⟨_, he, h, Below.refl _ _⟩
  · obtain ⟨g, cap, rfl, hbase, hlt, hcap, _⟩ := own_form h h0
    have hH := own_holds h
    have hC := Tryz.slices_Compact_string g 0 cap (l.map (·.data.toList)) w hH (by simpa using hl) (by simpa using hcap)
    rw [List.length_map] at hC
    have hle := Lib.compact_length_le (l.map (·.data.toList))
    rw [List.length_map] at hle
    refine hC.mono fun e w' ⟨he, q, hw⟩ => ⟨_, he, ?_⟩
    rw [Lib.putRow_eq_setCells encStr w g 0 _ _ q hH (by simp; omega), enc_toB] at hw
    obtain ⟨zs, hzs⟩ : ∃ zs, zs = Lib.compact (l.map (·.data.toList)) := ⟨_, rfl⟩
    have hcs : compactS l = zs.map toB := by rw [hzs]; rfl
    rw [hcs]
    rw [← hzs] at hw hle ⊢
    subst hw
    have hd : (w.drewN q).ownsRow base 9 1 (.slice (some ⟨g, 0, none⟩) l.length cap) l.length (tx l) := h
    have hs := own_sets hd (ys := tx ((zs ++ List.replicate (l.length - zs.length) []).map toB)) (by simp; omega)
    have h2 := own_take hs (m := zs.length) hle
    refine ⟨?_, below_setcells base w g q _ hbase⟩
    rw [List.length_map]
    have e : (tx ((zs ++ List.replicate (l.length - zs.length) []).map toB)).take zs.length = tx (zs.map toB) := by
      simp [tx, List.map_append]
    rw [e] at h2
    exact h2
end Go.Proofs.YtkhgfdlinobabaaGreatDoor.G
