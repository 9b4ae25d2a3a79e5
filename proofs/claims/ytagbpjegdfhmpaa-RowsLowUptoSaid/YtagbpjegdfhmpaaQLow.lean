/- Low twice is Low once, keeps the length, and is the document's Low: for every text of at most 1048576 bytes. -/
import Derived.Test.YtagbpjegdfhmpaaPx1
namespace Go.Proofs.Ytagbpjegdfhmpaa.Q
open Go.RowKit Go.Proofs.YtagbpjegdfhmpaaW.PrintWords Go.Proofs.YtagbpjegdfhmpaaW.PrintLast Go.Proofs.Ytagbpjegdfhmpaa.G Go.Proofs.Ytagbpjegdfhmpaa.P

theorem lowI_range {n : Int} (h : 0 ≤ n ∧ n ≤ 255) : 0 ≤ lowI n ∧ lowI n ≤ 255 := by unfold lowI; split <;> omega
theorem lowI_twice (n : Int) : lowI (lowI n) = lowI n := by unfold lowI; repeat' split <;> omega
theorem lowS_size (s : ByteArray) : (lowS s).size = s.size := by unfold lowS; rw [strOfNums_size]; simp
theorem byI_low (s : ByteArray) (j : Nat) (h : j < s.size) : byI (lowS s) j = lowI (byI s j) := by
  have hr := lowI_range (byI_range s j)
  unfold lowS
  show (((strOfNums _).data.toList.getD j 0).toNat : Int) = _
  rw [strOfNums_data]
  simp only [List.getD_eq_getElem?_getD, List.getElem?_map, List.getElem?_range h, Option.map_some, Option.getD_some]
  simp only [UInt8.toNat_ofNat']
  omega
theorem lowS_twice (s : ByteArray) : lowS (lowS s) = lowS s := by
  have e : (List.range (lowS s).size).map (fun j => lowI (byI (lowS s) j)) = (List.range s.size).map fun j => lowI (byI s j) := by
    rw [lowS_size]
    refine List.map_congr_left fun j hj => ?_
    rw [byI_low s j (List.mem_range.1 hj), lowI_twice]
  show strOfNums _ = strOfNums _
  rw [e]
theorem bt_byI (s : ByteArray) (i : Nat) (h : i < s.size) : bt s (i : Int) = byI s i := by
  unfold bt byI
  have h' : ((i : Int)).toNat < s.size := by simpa using h
  rw [dif_pos h']
  have hl : i < s.data.toList.length := by rw [Array.length_toList]; exact h
  rw [List.getD_eq_getElem?_getD, List.getElem?_eq_getElem hl, Option.getD_some]
  rfl
theorem ref_loop (s : ByteArray) (hs : s.size ≤ 1048576) (d : Nat) : ∀ (k i : Nat), i ≤ s.size → s.size - i = d → d < k → musterref07_Low.l0 k s ((List.range i).map fun j => lowI (byI s j)) (i : Int) = some (lowS s) := by
  induction d with
  | zero =>
    intro k i hi hd hk
    obtain ⟨k, rfl⟩ : ∃ m, k = m + 1 := ⟨k - 1, by omega⟩
    obtain rfl : i = s.size := by omega
    rw [musterref07_Low.l0, if_neg (by omega)]
    rfl
  | succ d ih =>
    intro k i hi hd hk
    obtain ⟨k, rfl⟩ : ∃ m, k = m + 1 := ⟨k - 1, by omega⟩
    have hlt : i < s.size := by omega
    have hb := bt_byI s i hlt
    have hr := byI_range s i
    have hw : wrap64 ((i : Int) + 1) = ((i + 1 : Nat) : Int) := by unfold wrap64; omega
    have step : ∀ n : Int, n = lowI (byI s i) → musterref07_Low.l0 k s (((List.range i).map fun j => lowI (byI s j)) ++ [n]) (wrap64 ((i : Int) + 1)) = some (lowS s) := fun n hn => by
      have := ih k (i + 1) (by omega) (by omega) (by omega)
      rw [List.range_succ, List.map_append] at this
      rw [hw, hn]
      exact this
    have hlen : ((List.range i).map fun j => lowI (byI s j)).length < 140737488355328 := by simp; omega
    rw [musterref07_Low.l0, if_pos (by omega), if_pos (by omega), hb]
    by_cases h1 : byI s i ≥ 65
    · rw [if_pos h1]
      by_cases h2 : byI s i ≤ 90
      · rw [if_pos h2, if_pos hlen]
        exact step _ (by unfold lowI; rw [if_pos ⟨h1, h2⟩]; omega)
      · rw [if_neg h2, if_pos hlen]
        exact step _ (by unfold lowI; rw [if_neg (by omega)])
    · rw [if_neg h1, if_pos hlen]
      exact step _ (by unfold lowI; rw [if_neg (by omega)])
theorem ref_low (s : ByteArray) (hs : s.size ≤ 1048576) (k : Nat) (hk : s.size < k) : musterref07_Low.f k s = some (lowS s) :=
  ref_loop s hs s.size k 0 (Nat.zero_le _) (by omega) hk
theorem low_law (s : ByteArray) (hs : s.size ≤ 1048576) : musterlaw07_RowsLow.f (s.size + 1) s = some true := by
  have h1 : ∀ t : ByteArray, t.size ≤ 1048576 → rows_Low.f t = some (lowS t) := fun t ht => by unfold rows_Low.f; rw [if_pos (by omega)]
  unfold musterlaw07_RowsLow.f musterlaw07_rowsFixed.f
  rw [h1 s hs, ref_low s hs _ (Nat.lt_succ_self _)]
  simp only [Option.bind_some, if_true]
  rw [h1 (lowS s) (by rw [lowS_size]; exact hs), lowS_twice, lowS_size]
  simp
end Go.Proofs.Ytagbpjegdfhmpaa.Q
