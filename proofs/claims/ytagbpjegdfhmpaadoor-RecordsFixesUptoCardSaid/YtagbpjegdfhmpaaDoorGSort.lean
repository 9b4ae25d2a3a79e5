/- slices.Sort and slices.Compact of texts, and slices.Clone: as the print tells such calls. -/
import Derived.Test.YtagbpjegdfhmpaaDoorWWords
import Derived.Test.YtagbpjegdfhmpaaDoorWKept
import Derived.Test.YtagbpjegdfhmpaaDoorProg
import Derived.Test.YtagbpjegdfhmpaaDoorShelfB
import Derived.Lib.SortBridge
namespace Go.Proofs.YtagbpjegdfhmpaaDoor.G
open Go.RowKit Go.Sort Go.Lib Go.Proofs.YtagbpjegdfhmpaaDoorW.PrintWords
set_option linter.unusedVariables false

theorem setCells_blk (g e : Nat) : ∀ (vs : List Value) (o : Nat) (w : World) (cur : Array Value), w.heap[g]? = some (.cells cur e (0, 0)) → ∃ cur', (w.setCells g o vs).heap[g]? = some (.cells cur' e (0, 0)) ∧ cur'.size = cur.size
  | [], o, w, cur, h => ⟨cur, h, rfl⟩
  | v :: vs, o, w, cur, h => by
    obtain ⟨cur', h1, h2⟩ := setCells_blk g e vs (o + 1) (w.setCell ⟨g, o, none⟩ v) (cur.set! o v) (by
      rw [World.setCell]
      simp [Array.getElem?_modify, h])
    exact ⟨cur', h1, by simpa using h2⟩
theorem setCells_size (g : Nat) : ∀ (vs : List Value) (o : Nat) (w : World), (w.setCells g o vs).heap.size = w.heap.size
  | [], _, _ => rfl
  | v :: vs, o, w => by
    show ((w.setCell ⟨g, o, none⟩ v).setCells g (o + 1) vs).heap.size = _
    rw [setCells_size g vs (o + 1)]
    simp [World.setCell]
theorem setCells_far (g : Nat) : ∀ (vs : List Value) (o : Nat) (w : World) (i : Nat), i ≠ g → (w.setCells g o vs).heap[i]? = w.heap[i]?
  | [], _, _, _, _ => rfl
  | v :: vs, o, w, i, h => by
    show ((w.setCell ⟨g, o, none⟩ v).setCells g (o + 1) vs).heap[i]? = _
    rw [setCells_far g vs (o + 1) _ i h]
    exact Below.heap_setCell _ _ _ _ h
theorem os_setCells (g : Nat) : ∀ (vs : List Value) (o : Nat) (w : World), (w.setCells g o vs).os = w.os
  | [], _, _ => rfl
  | v :: vs, o, w => by
    show ((w.setCell ⟨g, o, none⟩ v).setCells g (o + 1) vs).os = _
    rw [os_setCells g vs (o + 1)]
    rfl
theorem output_setCells (g : Nat) : ∀ (vs : List Value) (o : Nat) (w : World), (w.setCells g o vs).output = w.output
  | [], _, _ => rfl
  | v :: vs, o, w => by
    show ((w.setCell ⟨g, o, none⟩ v).setCells g (o + 1) vs).output = _
    rw [output_setCells g vs (o + 1)]
    rfl
theorem tape_setCells (g : Nat) : ∀ (vs : List Value) (o : Nat) (w : World), (w.setCells g o vs).tape = w.tape
  | [], _, _ => rfl
  | v :: vs, o, w => by
    show ((w.setCell ⟨g, o, none⟩ v).setCells g (o + 1) vs).tape = _
    rw [tape_setCells g vs (o + 1)]
    rfl
/-- A row of one's own, all of whose elements are written anew: it holds what was written. -/
theorem own_sets {w : World} {base e n cap g : Nat} {xs ys : List Value} (h : w.ownsRow base e 1 (.slice (some ⟨g, 0, none⟩) n cap) n xs) (hy : ys.length = n) :
    (w.setCells g 0 ys).ownsRow base e 1 (.slice (some ⟨g, 0, none⟩) n cap) n ys := by
  obtain ⟨h1, h2⟩ := h
  rcases h2 with ⟨h2, _⟩ | ⟨g', cap', cur, hv, hb, hh, hn, hm, hz, ht⟩
  · cases h2
  · cases hv
    obtain ⟨cur', k1, k2⟩ := setCells_blk g e ys 0 w cur hh
    refine ⟨by rw [hy, Nat.mul_one], .inr ⟨g, cap, cur', rfl, hb, k1, hn, hm, by rw [k2, hz], ?_⟩⟩
    apply List.ext_getElem?
    intro j
    rw [List.getElem?_take, Nat.mul_one]
    by_cases hj : j < n
    · rw [if_pos hj]
      have hc := World.cell?_setCells_in g ys 0 w (fun i hi => by
        rw [Nat.zero_add]
        have : i < cur.size := by omega
        simp [World.cell?, hh, this]) j (by omega)
      rw [Nat.zero_add] at hc
      simp only [World.cell?, k1] at hc
      simp only [Array.getElem?_toList]
      rw [List.getElem?_eq_getElem (by omega)]
      simpa using hc
    · rw [if_neg hj, List.getElem?_eq_none (by omega)]
theorem own_holds {w : World} {base e g cap : Nat} {l : List ByteArray} (h : w.ownsRow base e 1 (.slice (some ⟨g, 0, none⟩) l.length cap) l.length (encs Value.string l)) :
    Holds encStr w g 0 (l.map (·.data.toList)).toArray := by
  intro j hj
  have hj' : j < l.length := by simpa using hj
  obtain ⟨h1, h2⟩ := own_at_of (d := ByteArray.empty) h (j : Int) (by omega) (by omega)
  rw [Int.toNat_natCast] at h1 h2
  rw [Nat.zero_add]
  refine ⟨?_, h2⟩
  rw [h1]
  simp [rdOf, List.getD, hj', encStr]
theorem grow_below (w : World) (os : Array Obj) : Below w.heap.size w (grow w os) :=
  ⟨rfl, rfl, rfl, by simp [grow], fun i hi => heap_grow_old w os hi⟩

def toB (l : List UInt8) : ByteArray := ⟨l.toArray⟩
/-- The texts, rising. -/
def sortS (l : List ByteArray) : List ByteArray := ((l.map (·.data.toList)).mergeSort fun x y => decide (x ≤ y)).map toB
theorem sortS_length (l : List ByteArray) : (sortS l).length = l.length := by simp [sortS]
def slices_Sort_string.f (l0 : List ByteArray) : Option (List ByteArray) := if l0.length < 4611686018427387904 then some (sortS l0) else none
theorem encs_toB (ys : List (List UInt8)) : ys.map encStr = encs Value.string (ys.map toB) := by simp [encs, toB, Function.comp_def]
theorem sets_world {P0_ : Nat → Prop} {l0 ys : List ByteArray} {w0 w : World} {g cap : Nat} (hB : Below w0.heap.size w0 w) (ho0 : Kd.R Kd.string 9 w w0.heap.size P0_ (.slice (some ⟨g, 0, none⟩) l0.length cap) l0) (hbase : w0.heap.size ≤ g) (hy : ys.length = l0.length) (n : Nat) (os : Array Obj) :
    Kd.R Kd.string 9 (grow ((w.drewN n).setCells g 0 (encs Value.string ys)) os) w0.heap.size (fun k_ => (P0_ k_ ∨ w.heap.size ≤ k_)) (.slice (some ⟨g, 0, none⟩) ys.length cap) ys ∧
    Below w0.heap.size w0 (grow ((w.drewN n).setCells g 0 (encs Value.string ys)) os) ∧ Kept w (grow ((w.drewN n).setCells g 0 (encs Value.string ys)) os) (fun k_ => P0_ k_) := by
  have hok := ho0.1
  have hd : (w.drewN n).ownsRow w0.heap.size 9 1 (.slice (some ⟨g, 0, none⟩) l0.length cap) l0.length (encs Value.string l0) := Kd.own_of_R ho0
  have hs := own_sets hd (ys := encs Value.string ys) (by rw [encs_length, hy])
  have hR0 : Kd.R Kd.string 9 ((w.drewN n).setCells g 0 (encs Value.string ys)) w0.heap.size (fun k_ => (P0_ k_ ∨ w.heap.size ≤ k_)) (.slice (some ⟨g, 0, none⟩) ys.length cap) ys :=
    Kd.R_of_own (h1 := fun _ => rfl) (by rw [hy]; exact hs) (fun k hk => .inl (hok k hk))
  refine ⟨Kd.R_below hR0 (grow_below _ os), ?_, ?_⟩
  · refine below_then (w1 := (w.drewN n).setCells g 0 (encs Value.string ys)) ?_ ?_ (grow_below _ os)
    · refine hB.trans ⟨?_, ?_, ?_, ?_, ?_⟩
      · exact os_setCells _ _ _ _
      · exact tape_setCells _ _ _ _
      · exact output_setCells _ _ _ _
      · rw [setCells_size]; exact Nat.le_refl _
      · intro i hi
        rw [setCells_far _ _ _ _ _ (by omega)]
        rfl
    · rw [setCells_size]; exact hB.size
  · refine ⟨?_, fun i hi hn => ?_⟩
    · refine Nat.le_trans ?_ (grow_below _ os).size
      rw [setCells_size]; exact Nat.le_refl _
    · have hne : i ≠ g := fun e => hn (by rw [e]; exact hok g rfl)
      rw [(grow_below ((w.drewN n).setCells g 0 (encs Value.string ys)) os).block i (by rw [setCells_size]; exact hi), setCells_far _ _ _ _ _ hne]
      rfl
theorem slices_Sort_string.calls (P0_ : Nat → Prop) (u9000_ : Value) (l0 r : List ByteArray) (w0 w : World) (hB : Below w0.heap.size w0 w) (ho0 : Kd.R Kd.string 9 w w0.heap.size P0_ u9000_ l0) (h : slices_Sort_string.f l0 = some r) :
    Calls Tryd.prog 94 #[u9000_] w fun e w' => e = .returned (.tuple #[]) ∧ Kd.R Kd.string 9 w' w0.heap.size (fun k_ => (P0_ k_ ∨ w.heap.size ≤ k_)) u9000_ r ∧ Below w0.heap.size w0 w' ∧ Kept w w' (fun k_ => P0_ k_) := by
  unfold slices_Sort_string.f at h
  split at h
  · rename_i hl
    obtain rfl := Option.some.inj h
    rcases Nat.eq_zero_or_pos l0.length with h0 | h0
    · obtain ⟨A, c, rfl⟩ := Kd.R_slice ho0
      have e0 : l0 = [] := List.eq_nil_of_length_eq_zero h0
      subst e0
      refine (Tryd.slices_Sort_string_none A c w).mono fun e w' ⟨he, hw⟩ => ?_
      subst hw
      exact ⟨he, by simpa [sortS] using Kd.R_mono ho0 (fun k hk => .inl hk), hB, Kept.refl _ _⟩
    · obtain ⟨g, cap, rfl, hbase, hlt, _⟩ := Kd.R_form ho0 h0
      have hH := own_holds (Kd.own_of_R ho0)
      have hC := Tryd.slices_Sort_string g 0 cap (l0.map (·.data.toList)) w hH hlt (by simpa using hl)
      rw [List.length_map] at hC
      refine hC.mono fun e w' ⟨he, n, os, hw⟩ => ⟨he, ?_⟩
      rw [Lib.sorted_world encStr w g 0 n _ _ os hH (by simp), encs_toB] at hw
      subst hw
      have := sets_world (ys := sortS l0) hB ho0 hbase (sortS_length l0) n os
      rw [sortS_length] at this
      exact this
  · cases h
def compactS (l : List ByteArray) : List ByteArray := (Lib.compact (l.map (·.data.toList))).map toB
def slices_Compact_string.f (l0 : List ByteArray) : Option (List ByteArray) := if l0.length ≤ 9223372036854775807 then some (compactS l0) else none
theorem slices_Compact_string.calls (P0_ : Nat → Prop) (u9000_ : Value) (l0 r : List ByteArray) (w0 w : World) (hB : Below w0.heap.size w0 w) (ho0 : Kd.R Kd.string 9 w w0.heap.size P0_ u9000_ l0) (h : slices_Compact_string.f l0 = some r) :
    Calls Tryd.prog 87 #[u9000_] w fun e w' => ∃ v0_ : Value, e = .returned (v0_) ∧ Kd.R Kd.string 9 w' w0.heap.size (fun k_ => (P0_ k_ ∨ w.heap.size ≤ k_)) v0_ r ∧ Below w0.heap.size w0 w' ∧ Kept w w' (fun k_ => P0_ k_) := by
  unfold slices_Compact_string.f at h
  split at h
  · rename_i hl
    obtain rfl := Option.some.inj h
    rcases Nat.eq_zero_or_pos l0.length with h0 | h0
    · obtain ⟨A, c, rfl⟩ := Kd.R_slice ho0
      have e0 : l0 = [] := List.eq_nil_of_length_eq_zero h0
      subst e0
      refine (Tryd.slices_Compact_string_empty A c w).mono fun e w' ⟨he, hw⟩ => ?_
      subst hw
      exact ⟨_, he, Kd.R_mono ho0 (fun k hk => .inl hk), hB, Kept.refl _ _⟩
    · obtain ⟨g, cap, rfl, hbase, hlt, _⟩ := Kd.R_form ho0 h0
      have hcap : l0.length ≤ cap := (Kd.R_reads' ho0).2.1
      have hH := own_holds (Kd.own_of_R ho0)
      have hC := Tryd.slices_Compact_string g 0 cap (l0.map (·.data.toList)) w hH (by simpa using hl) (by simpa using hcap)
      rw [List.length_map] at hC
      have hle := Lib.compact_length_le (l0.map (·.data.toList))
      rw [List.length_map] at hle
      refine hC.mono fun e w' ⟨he, q, hw⟩ => ⟨_, he, ?_⟩
      rw [Lib.putRow_eq_setCells encStr w g 0 _ _ q hH (by simp; omega), encs_toB] at hw
      obtain ⟨zs, hzs⟩ : ∃ zs, zs = Lib.compact (l0.map (·.data.toList)) := ⟨_, rfl⟩
      have hcs : compactS l0 = zs.map toB := by rw [hzs]; rfl
      rw [hcs]
      rw [← hzs] at hw hle ⊢
      have hys : ((zs ++ List.replicate (l0.length - zs.length) []).map toB).length = l0.length := by simp; omega
      have := sets_world (ys := (zs ++ List.replicate (l0.length - zs.length) []).map toB) hB ho0 hbase hys q #[]
      rw [grow_empty] at this
      subst hw
      refine ⟨?_, this.2⟩
      have h2 := Kd.R_take (m := zs.length) this.1 (by rw [hys]; exact hle)
      rw [← List.map_take, List.take_left] at h2
      exact h2
  · cases h

def slices_Clone_string.f (l0 : List ByteArray) : Option (List ByteArray) := if l0.length < 8796093022208 then some l0 else none
theorem slices_Clone_string.calls (A0 : Option Addr) (c0 : Nat) (l0 r : List ByteArray) (w : World) (hr0 : Kd.C Kd.string w A0 l0.length l0) (hc0 : l0.length ≤ c0) (h : slices_Clone_string.f l0 = some r) :
    Calls Tryd.prog 43 #[.slice A0 l0.length c0] w fun e w' => ∃ v0_ : Value, e = .returned (v0_) ∧ Kd.R Kd.string 9 w' w.heap.size (fun _ => True) v0_ r ∧ Below w.heap.size w w' := by
  unfold slices_Clone_string.f at h
  split at h
  · rename_i hl
    obtain rfl := Option.some.inj h
    cases A0 with
    | none =>
      have h0 : l0 = [] := by
        rcases Nat.eq_zero_or_pos l0.length with h0 | h0
        · exact List.eq_nil_of_length_eq_zero h0
        · obtain ⟨ad, e, _⟩ := Kd.at_string hr0 0 (by omega) (by omega)
          cases e
      subst h0
      refine (Tryd.slices_Clone_string_nil 0 c0 w).mono fun e w' ⟨he, hw⟩ => ?_
      subst hw
      exact ⟨_, he, Kd.R_nil _ _ _ _ _, Below.refl _ _⟩
    | some ad =>
      rcases Nat.eq_zero_or_pos l0.length with h0 | h0
      · have e0 : l0 = [] := List.eq_nil_of_length_eq_zero h0
        subst e0
        refine (Tryd.slices_Clone_string_zero ad c0 w).mono fun e w' ⟨v, he, ho, _, hb⟩ => ?_
        exact ⟨v, he, Kd.R_of_own (h1 := fun _ => rfl) (xs := ([] : List ByteArray)) ho (fun _ _ => trivial), hb⟩
      · have hcell : ∀ j, j < l0.length → w.cell? (ad.add j) = some (.string (l0.getD j ByteArray.empty)) := by
          intro j hj
          obtain ⟨ad', e, hc⟩ := Kd.at_string hr0 (j : Int) (by omega) (by omega)
          cases e
          rw [Int.toNat_natCast] at hc
          rw [hc]
          simp [rdOf]
        obtain ⟨b, o, sp⟩ := ad
        obtain rfl : sp = none := by simpa [Addr.add] using World.cell?_spot (hcell 0 h0)
        refine (Tryd.slices_Clone_string b o l0.length c0 l0 w (Nat.le_refl _) (by omega) (fun j hj => by
          have := hcell j hj
          have e : (⟨b, o, none⟩ : Addr).add j = ⟨b, o + j, none⟩ := by unfold Addr.add; split <;> simp_all
          rw [e] at this
          exact this)).mono fun e w' ⟨v, he, ho, _, hb⟩ => ?_
        rw [List.take_length] at ho
        exact ⟨v, he, Kd.R_of_own (h1 := fun _ => rfl) ho (fun _ _ => trivial), hb⟩
  · cases h
end Go.Proofs.YtagbpjegdfhmpaaDoor.G
