/- Cutting a text at its dots: the plain scan and the library's cutting come to the same parts. -/
import Derived.Test.YtagbpjegdfhmpaaDoorPx6
namespace Go.Proofs.YtagbpjegdfhmpaaDoor.Q
open Go.RowKit Go.Proofs.YtagbpjegdfhmpaaDoorW.PrintWords Go.Proofs.YtagbpjegdfhmpaaDoorW.PrintLast Go.Proofs.YtagbpjegdfhmpaaDoor.G Go.Proofs.YtagbpjegdfhmpaaDoor.P

theorem ba_ext {a b : ByteArray} (h : a.data.toList = b.data.toList) : a = b := by
  obtain ⟨⟨x⟩⟩ := a
  obtain ⟨⟨y⟩⟩ := b
  simp at h
  rw [h]
theorem wrap_succ {i : Int} (h0 : 0 ≤ i) (h : i < 9223372036854775807) : wrap64 (i + 1) = i + 1 := by
  unfold wrap64
  omega
theorem bt_nat (s : ByteArray) (i : Nat) (h : i < s.size) : bt s (i : Int) = ((s.data.toList.getD i 0).toNat : Int) := by
  unfold bt
  have h' : (i : Int).toNat < s.size := by simpa using h
  have h2 : i < s.data.size := h
  rw [dif_pos h']
  have h3 : s.data[i]? = some s.data[i] := Array.getElem?_eq_getElem h2
  simp [List.getD, h3]
  rfl
theorem occ_one (l : List UInt8) (j : Nat) : Lib.occAt l [46] j = (l[j]? == some 46) := by
  unfold Lib.occAt
  rw [← List.head?_drop]
  cases l.drop j with
  | nil => rfl
  | cons c r =>
    simp [List.isPrefixOf]
    exact BEq.comm
theorem ext_get (s : ByteArray) (a b j : Nat) : (s.extract a b).data.toList[j]? = if j < b - a then s.data.toList[a + j]? else none := by
  rw [Lib.extract_data, List.getElem?_take]
  split
  · rw [List.getElem?_drop]
  · rfl
theorem parts_none (t : ByteArray) (h : ∀ j : Nat, t.data.toList[j]? ≠ some 46) : parts t = [t] := by
  have hi : Lib.indexB t dot = -1 := Lib.index_none (fun j _ => by
    show Lib.occAt t.data.toList [46] j = false
    rw [occ_one]
    exact beq_eq_false_iff_ne.2 (h j))
  unfold parts
  rw [Lib.countB_miss t dot hi]
  rfl
theorem parts_hit (t : ByteArray) (i : Nat) (hi : t.data.toList[i]? = some 46) (h : ∀ j, j < i → t.data.toList[j]? ≠ some 46) :
    parts t = t.extract 0 i :: parts (t.extract (i + 1) t.size) := by
  have hx : Lib.indexB t dot = i := by
    refine Lib.index_first (s := t.data.toList) (sub := [46]) ?_ ?_ ?_
    · have := (List.getElem?_eq_some_iff.1 hi).1; omega
    · rw [occ_one, hi]; rfl
    · intro j hj
      rw [occ_one]
      exact beq_eq_false_iff_ne.2 (h j hj)
  unfold parts
  have hc := Lib.countB_hit t dot i (by decide) hx
  have hd : dot.size = 1 := rfl
  rw [hd] at hc
  rw [hc, Nat.add_comm 1, Lib.splitB_hit dot 0 _ t i hx, hd, Nat.add_zero]
theorem ext_left (s : ByteArray) (f i n : Nat) (hf : f ≤ i) (hi : i ≤ n) : (s.extract f n).extract 0 (i - f) = s.extract f i := by
  apply ba_ext
  rw [Lib.extract_data, Lib.extract_data, Lib.extract_data, List.drop_zero, List.take_take]
  congr 1
  omega
theorem ext_right (s : ByteArray) (f i : Nat) (hf : f ≤ i) (hi : i < s.size) : (s.extract f s.size).extract (i - f + 1) (s.extract f s.size).size = s.extract (i + 1) s.size := by
  apply ba_ext
  rw [Lib.extract_data, Lib.extract_data, Lib.extract_data, ByteArray.size_extract, List.drop_take, List.drop_drop, List.take_take]
  have e1 : f + (i - f + 1) = i + 1 := by omega
  have e2 : min (min s.size s.size - f - (i - f + 1)) (s.size - f - (i - f + 1)) = s.size - (i + 1) := by omega
  rw [e1, e2]
theorem parts_step (s : ByteArray) (f i : Nat) (hf : f ≤ i) (hlt : i < s.size) (hc : s.data.toList[i]? = some 46) (hn : ∀ j, f ≤ j → j < i → s.data.toList[j]? ≠ some 46) :
    parts (s.extract f s.size) = s.extract f i :: parts (s.extract (i + 1) s.size) := by
  have h1 : (s.extract f s.size).data.toList[i - f]? = some 46 := by
    rw [ext_get, if_pos (by omega), show f + (i - f) = i by omega, hc]
  rw [parts_hit (s.extract f s.size) (i - f) h1 (fun j hj => by
    rw [ext_get]
    split
    · exact hn _ (by omega) (by omega)
    · simp), ext_left s f i s.size hf (by omega), ext_right s f i hf hlt]
theorem scan (s : ByteArray) (hs : s.size ≤ 1048576) (d : Nat) : ∀ (k : Nat) (acc : List ByteArray) (f i : Nat), f ≤ i → i ≤ s.size → s.size - i = d → d + 2 ≤ k → acc.length ≤ i →
    (∀ j, f ≤ j → j < i → s.data.toList[j]? ≠ some 46) →
    musterref06_Split.l0 k s 46 acc f i = some (acc ++ parts (s.extract f s.size)) := by
  induction d with
  | zero =>
    intro k acc f i hf hi hd hk ha hn
    obtain rfl : i = s.size := by omega
    obtain ⟨k, rfl⟩ : ∃ m, k = m + 2 := ⟨k - 2, by omega⟩
    simp only [musterref06_Split.l0]
    rw [if_pos (by omega), if_pos trivial, if_pos (by omega), if_pos (by omega), if_pos (by omega), wrap_succ (by omega) (by omega), if_neg (by omega)]
    rw [Int.toNat_natCast, Int.toNat_natCast, parts_none]
    intro j
    rw [ext_get]
    split
    · exact hn _ (by omega) (by omega)
    · simp
  | succ d ih =>
    intro k acc f i hf hi hd hk ha hn
    obtain ⟨k, rfl⟩ : ∃ m, k = m + 1 := ⟨k - 1, by omega⟩
    have hlt : i < s.size := by omega
    have hget : s.data.toList[i]? = some (s.data.toList.getD i 0) := by
      have h2 : i < s.data.toList.length := by simpa using hlt
      simp [List.getD, List.getElem?_eq_getElem h2]
    simp only [musterref06_Split.l0]
    rw [if_pos (by omega), if_neg (by omega), if_pos (by omega), if_pos (by omega), bt_nat s i hlt]
    by_cases hc : ((s.data.toList.getD i 0).toNat : Int) = 46
    · have hc' : s.data.toList.getD i 0 = 46 := by
        apply UInt8.toNat_inj.1
        have : (46 : UInt8).toNat = 46 := rfl
        omega
      rw [if_pos hc, if_pos (by omega), if_pos (by omega), if_pos (by omega), wrap_succ (by omega) (by omega)]
      have := ih k (acc ++ [s.extract f i]) (i + 1) (i + 1) (Nat.le_refl _) (by omega) (by omega) (by omega) (by simp; omega) (fun j h1 h2 => by omega)
      rw [Int.toNat_natCast, Int.toNat_natCast]
      have e : ((i : Int) + 1) = ((i + 1 : Nat) : Int) := by omega
      rw [e, this, List.append_assoc]
      have hp : parts (s.extract f s.size) = s.extract f i :: parts (s.extract (i + 1) s.size) := by
        exact parts_step s f i hf hlt (by rw [hget, hc']) hn
      rw [hp]
      rfl
    · rw [if_neg hc, wrap_succ (by omega) (by omega)]
      have e : ((i : Int) + 1) = ((i + 1 : Nat) : Int) := by omega
      rw [e]
      refine ih k acc f (i + 1) (by omega) (by omega) (by omega) (by omega) (by omega) (fun j h1 h2 => ?_)
      by_cases hj : j = i
      · subst hj
        rw [hget]
        intro h
        injection h with h
        exact hc (by rw [h]; rfl)
      · exact hn j h1 (by omega)
theorem ext_whole (s : ByteArray) : s.extract 0 s.size = s := by
  apply ba_ext
  rw [Lib.extract_data, List.drop_zero, List.take_of_length_le]
  have : s.data.toList.length = s.size := by simp
  omega
theorem split_parts (s : ByteArray) (hs : s.size ≤ 1048576) (k : Nat) (hk : s.size + 2 ≤ k) : musterref06_Split.f k s 46 = some (parts s) := by
  have := scan s hs s.size k [] 0 0 (Nat.le_refl _) (Nat.zero_le _) (by omega) hk (Nat.le_refl _) (fun j _ h => by omega)
  unfold musterref06_Split.f
  rw [ext_whole] at this
  exact this
end Go.Proofs.YtagbpjegdfhmpaaDoor.Q
