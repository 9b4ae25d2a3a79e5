/- Labels and addresses: the document's answer and the program's are the same. -/
import Derived.Test.YtagbpjegdfhmpaaDoorQNum
namespace Go.Proofs.YtagbpjegdfhmpaaDoor.Q
open Go.RowKit Go.Proofs.YtagbpjegdfhmpaaDoorW.PrintWords Go.Proofs.YtagbpjegdfhmpaaDoorW.PrintLast Go.Proofs.YtagbpjegdfhmpaaDoor.G Go.Proofs.YtagbpjegdfhmpaaDoor.P

/-- The four numbers, by the plain reading. -/
theorem refLoop_bad (k : Nat) (hk : 12 ≤ k) : ∀ (l : List ByteArray) (acc : List Int), (∀ t ∈ l, t.size ≤ 1048576) → (∃ t ∈ l, num t.data.toList = none) → refLoop k l acc = some (0, 0, 0, 0, 91)
  | [], acc, _, h => by obtain ⟨t, ht, _⟩ := h; cases ht
  | t :: ts, acc, hs, h => by
    unfold refLoop
    rw [number_num t (hs t (List.mem_cons_self ..)) k hk]
    simp only [Option.bind_some, numI]
    cases hn : num t.data.toList with
    | none => rfl
    | some n =>
      simp only
      rw [if_neg (by omega)]
      refine refLoop_bad k hk ts _ (fun u hu => hs u (List.mem_cons_of_mem _ hu)) ?_
      obtain ⟨u, hu, hun⟩ := h
      rcases List.mem_cons.1 hu with rfl | hu
      · rw [hn] at hun; cases hun
      · exact ⟨u, hu, hun⟩
theorem refAddr (s : ByteArray) (hs : s.size ≤ 1048576) (k : Nat) (hk : s.size + 12 ≤ k) : musterref09_Addr.f k s = some (addrS s) := by
  unfold musterref09_Addr.f
  rw [split_parts s hs k (by omega)]
  simp only [Option.bind_some]
  have hsz : ∀ t ∈ parts s, t.size ≤ 1048576 := fun t ht => Nat.le_trans (splitB_size dot _ _ t ht) hs
  unfold addrS
  by_cases hl : (parts s).length = 4
  · rw [if_pos hl]
    match hp : parts s, hl with
    | [a, b, c, d], _ =>
      rw [hp] at hsz
      simp only [four, decB_num]
      cases ha : num a.data.toList with
      | none => exact refLoop_bad k (by omega) _ _ hsz ⟨a, by simp, ha⟩
      | some x =>
        cases hb : num b.data.toList with
        | none => exact refLoop_bad k (by omega) _ _ hsz ⟨b, by simp, hb⟩
        | some y =>
          cases hc : num c.data.toList with
          | none => exact refLoop_bad k (by omega) _ _ hsz ⟨c, by simp, hc⟩
          | some z =>
            cases hd : num d.data.toList with
            | none => exact refLoop_bad k (by omega) _ _ hsz ⟨d, by simp, hd⟩
            | some u =>
              have hx := (num_atoi ha).1
              have hy := (num_atoi hb).1
              have hz := (num_atoi hc).1
              have hu := (num_atoi hd).1
              simp only [refLoop]
              rw [number_num a (hsz a (by simp)) k (by omega), number_num b (hsz b (by simp)) k (by omega), number_num c (hsz c (by simp)) k (by omega), number_num d (hsz d (by simp)) k (by omega)]
              simp only [numI, ha, hb, hc, hd, Option.bind_some]
              rw [if_neg (by omega), if_neg (by omega), if_neg (by omega), if_neg (by omega)]
              simp
              omega
  · rw [if_neg hl]
    have : four (parts s) = none := by
      unfold four
      split
      · rename_i hp; rw [hp] at hl; simp at hl
      · rfl
    rw [this]

/-! Labels. -/
theorem lowS_size (s : ByteArray) : (lowS s).size = s.size := by
  unfold lowS
  rw [strOfNums_size]; simp
theorem lowI_range {n : Int} (h : 0 ≤ n ∧ n ≤ 255) : 0 ≤ lowI n ∧ lowI n ≤ 255 := by
  unfold lowI; split <;> omega
theorem bt_byI (s : ByteArray) (i : Nat) (h : i < s.size) : bt s i = byI s i := by rw [bt_nat s i h]; rfl
theorem bt_lowS (s : ByteArray) (i : Nat) (h : i < s.size) : bt (lowS s) i = lowI (byI s i) := by
  rw [bt_nat (lowS s) i (by rw [lowS_size]; exact h)]
  have hr := lowI_range (byI_range s i)
  unfold lowS
  rw [strOfNums_data]
  simp [List.getD, h]
  omega
theorem refLow_loop (s : ByteArray) (hs : s.size ≤ 1048576) (d : Nat) : ∀ (k i : Nat), i ≤ s.size → s.size - i = d → d < k →
    musterref07_Low.l0 k s ((List.range i).map fun j => lowI (byI s j)) i = some (lowS s) := by
  induction d with
  | zero =>
    intro k i hi hd hk
    obtain rfl : i = s.size := by omega
    obtain ⟨k, rfl⟩ : ∃ m, k = m + 1 := ⟨k - 1, by omega⟩
    simp only [musterref07_Low.l0]
    rw [if_neg (by omega)]
    rfl
  | succ d ih =>
    intro k i hi hd hk
    obtain ⟨k, rfl⟩ : ∃ m, k = m + 1 := ⟨k - 1, by omega⟩
    have hlt : i < s.size := by omega
    have h := ih k (i + 1) (by omega) (by omega) (by omega)
    have e : (List.range (i + 1)).map (fun j => lowI (byI s j)) = (List.range i).map (fun j => lowI (byI s j)) ++ [lowI (byI s i)] := by
      rw [List.range_succ, List.map_append]; rfl
    rw [e] at h
    have hr := byI_range s i
    have ei : ((i + 1 : Nat) : Int) = (i : Int) + 1 := by omega
    rw [ei] at h
    have hln : ((List.range i).map fun j => lowI (byI s j)).length < 140737488355328 := by simp; omega
    simp only [musterref07_Low.l0]
    rw [if_pos (by omega), if_pos (by omega), bt_byI s i hlt, wrap_succ (by omega) (by omega)]
    by_cases h1 : byI s i ≥ 65
    · rw [if_pos h1]
      by_cases h2 : byI s i ≤ 90
      · rw [if_pos h2, if_pos hln]
        have : (byI s i + 32) % 256 = lowI (byI s i) := by unfold lowI; rw [if_pos ⟨h1, h2⟩]; omega
        rw [this]; exact h
      · rw [if_neg h2, if_pos hln]
        have : lowI (byI s i) = byI s i := by unfold lowI; rw [if_neg (by omega)]
        rw [this] at h; exact h
    · rw [if_neg h1, if_pos hln]
      have : lowI (byI s i) = byI s i := by unfold lowI; rw [if_neg (by omega)]
      rw [this] at h; exact h
theorem refLow (s : ByteArray) (hs : s.size ≤ 1048576) (k : Nat) (hk : s.size < k) : musterref07_Low.f k s = some (lowS s) :=
  refLow_loop s hs s.size k 0 (Nat.zero_le _) (by omega) hk

/-- A sign that a label may have at place i of n. -/
def okAt (n i : Nat) (c : Int) : Bool := decide ((97 ≤ c ∧ c ≤ 122) ∨ (48 ≤ c ∧ c ≤ 57) ∨ (c = 45 ∧ i ≠ 0 ∧ i + 1 ≠ n))
/-- The last d signs are such. -/
def okFrom (s : ByteArray) : Nat → Bool
  | 0 => true
  | d + 1 => okAt s.size (s.size - (d + 1)) (lowI (byI s (s.size - (d + 1)))) && okFrom s d
theorem okFrom_at (s : ByteArray) : ∀ (d j : Nat), okFrom s d = true → s.size - d ≤ j → j < s.size → okAt s.size j (lowI (byI s j)) = true
  | 0, j, _, h1, h2 => by omega
  | d + 1, j, h, h1, h2 => by
    simp only [okFrom, Bool.and_eq_true] at h
    by_cases hj : j = s.size - (d + 1)
    · subst hj; exact h.1
    · exact okFrom_at s d j h.2 (by omega) h2
def isLabel (s : ByteArray) : Bool := decide (1 ≤ s.size) && (decide (s.size ≤ 63) && okFrom s s.size)
def labelS (s : ByteArray) : ByteArray × Int := if isLabel s = true then (lowS s, 0) else (⟨#[]⟩, 90)
theorem refLabel_loop (s : ByteArray) (hs : s.size ≤ 63) (d : Nat) : ∀ (k i : Nat), i ≤ s.size → s.size - i = d → d < k →
    musterref09_Label.l0 k (lowS s) i = some (if okFrom s d = true then (lowS s, 0) else (⟨#[]⟩, 90)) := by
  induction d with
  | zero =>
    intro k i hi hd hk
    obtain rfl : i = s.size := by omega
    obtain ⟨k, rfl⟩ : ∃ m, k = m + 1 := ⟨k - 1, by omega⟩
    simp only [musterref09_Label.l0]
    rw [if_neg (by rw [lowS_size]; omega)]
    rfl
  | succ d ih =>
    intro k i hi hd hk
    obtain ⟨k, rfl⟩ : ∃ m, k = m + 1 := ⟨k - 1, by omega⟩
    have hlt : i < s.size := by omega
    have h := ih k (i + 1) (by omega) (by omega) (by omega)
    have ei : ((i + 1 : Nat) : Int) = (i : Int) + 1 := by omega
    rw [ei] at h
    simp only [musterref09_Label.l0]
    rw [lowS_size, if_pos (by omega), if_pos (by omega), bt_lowS s i hlt, wrap_succ (by omega) (by omega), h]
    have hw : wrap64 ((s.size : Int) - 1) = (s.size : Int) - 1 := wrap_small (by omega) (by omega)
    rw [hw]
    have ed : s.size - (d + 1) = i := by omega
    simp only [okFrom, ed]
    by_cases ho : okAt s.size i (lowI (byI s i)) = true
    · rw [ho, Bool.true_and]
      unfold okAt at ho
      have ho := of_decide_eq_true ho
      generalize lowI (byI s i) = c at *
      generalize (if okFrom s d = true then (lowS s, (0 : Int)) else (⟨#[]⟩, 90)) = R
      repeat' split
      all_goals first | rfl | (exfalso; omega)
    · rw [Bool.eq_false_iff.2 ho, Bool.false_and, show (if (false : Bool) = true then (lowS s, (0 : Int)) else (⟨#[]⟩, 90)) = (⟨#[]⟩, 90) from rfl]
      unfold okAt at ho
      have ho := of_decide_eq_false (Bool.eq_false_iff.2 ho)
      generalize lowI (byI s i) = c at *
      generalize (if okFrom s d = true then (lowS s, (0 : Int)) else (⟨#[]⟩, 90)) = R
      repeat' split
      all_goals first | rfl | (exfalso; omega)
theorem isLabel_eq (s : ByteArray) (h1 : 1 ≤ s.size) (h2 : s.size ≤ 63) : isLabel s = okFrom s s.size := by
  unfold isLabel
  simp [h1, h2]
theorem isLabel_small (s : ByteArray) (h : isLabel s = true) : 1 ≤ s.size ∧ s.size ≤ 63 := by
  unfold isLabel at h
  simp at h
  omega
theorem refLabel (s : ByteArray) (hs : s.size ≤ 1048576) (k : Nat) (hk : s.size + 2 ≤ k) : musterref09_Label.f k s = some (labelS s) := by
  obtain ⟨k, rfl⟩ : ∃ m, k = m + 1 := ⟨k - 1, by omega⟩
  unfold musterref09_Label.f
  rw [refLow s hs _ (by omega)]
  simp only [Option.bind_some, musterref09_Label.j0]
  rw [lowS_size]
  unfold labelS
  by_cases h1 : 1 ≤ s.size
  · rw [if_neg (by omega)]
    by_cases h2 : s.size ≤ 63
    · rw [if_neg (by simp; omega)]
      have := refLabel_loop s h2 s.size k 0 (Nat.zero_le _) (by omega) (by omega)
      rw [show ((0 : Nat) : Int) = 0 from rfl] at this
      rw [this, isLabel_eq s h1 h2]
    · rw [if_pos (by simp; omega), if_neg (fun h => h2 (isLabel_small s h).2)]
  · rw [if_pos (by omega), if_pos trivial, if_neg (fun h => h1 (isLabel_small s h).1)]
theorem label_loop (s : ByteArray) (h1 : 1 ≤ s.size) (hs : s.size ≤ 63) (hf : lowI (byI s 0) ≠ 45) (hl : lowI (byI s (s.size - 1)) ≠ 45) (d : Nat) : ∀ (k i : Nat), i ≤ s.size → s.size - i = d → d < k →
    records_Label.l0 k (lowS s) (s.size : Int) i = some (if okFrom s d = true then (lowS s, 0) else (⟨#[]⟩, 90)) := by
  induction d with
  | zero =>
    intro k i hi hd hk
    obtain rfl : i = s.size := by omega
    obtain ⟨k, rfl⟩ : ∃ m, k = m + 1 := ⟨k - 1, by omega⟩
    simp only [records_Label.l0]
    rw [if_neg (by omega)]
    rfl
  | succ d ih =>
    intro k i hi hd hk
    obtain ⟨k, rfl⟩ : ∃ m, k = m + 1 := ⟨k - 1, by omega⟩
    have hlt : i < s.size := by omega
    have h := ih k (i + 1) (by omega) (by omega) (by omega)
    have ei : ((i + 1 : Nat) : Int) = (i : Int) + 1 := by omega
    rw [ei] at h
    simp only [records_Label.l0]
    rw [lowS_size, if_pos (by omega), if_pos (by omega), if_pos (by omega), bt_lowS s i hlt, wrap_succ (by omega) (by omega), h]
    have hi0 : lowI (byI s i) = 45 → i ≠ 0 ∧ i + 1 ≠ s.size := fun e => ⟨fun hz => hf (by rw [← hz]; exact e), fun hz => hl (by rw [show s.size - 1 = i by omega]; exact e)⟩
    have ed : s.size - (d + 1) = i := by omega
    simp only [okFrom, ed]
    by_cases ho : okAt s.size i (lowI (byI s i)) = true
    · rw [ho, Bool.true_and]
      unfold okAt at ho
      have ho := of_decide_eq_true ho
      generalize lowI (byI s i) = c at *
      generalize (if okFrom s d = true then (lowS s, (0 : Int)) else (⟨#[]⟩, 90)) = R
      repeat' split
      all_goals first | rfl | (exfalso; omega)
    · rw [Bool.eq_false_iff.2 ho, Bool.false_and, show (if (false : Bool) = true then (lowS s, (0 : Int)) else (⟨#[]⟩, 90)) = (⟨#[]⟩, 90) from rfl]
      unfold okAt at ho
      have ho := of_decide_eq_false (Bool.eq_false_iff.2 ho)
      generalize lowI (byI s i) = c at *
      generalize (if okFrom s d = true then (lowS s, (0 : Int)) else (⟨#[]⟩, 90)) = R
      repeat' split
      all_goals first | rfl | (exfalso; omega)
theorem lowI_45 (n : Int) : lowI n = 45 ↔ n = 45 := by unfold lowI; split <;> omega
theorem label (s : ByteArray) (hs : s.size ≤ 140737488355328) (k : Nat) (hk : 66 ≤ k) : records_Label.f k s = some (labelS s) := by
  obtain ⟨k, rfl⟩ : ∃ m, k = m + 1 := ⟨k - 1, by omega⟩
  unfold records_Label.f labelS
  have ht : ∀ x, records_Label.j0 (k + 1) x true = some ((⟨#[]⟩ : ByteArray), 90) := fun x => by simp [records_Label.j0]
  by_cases h1 : 1 ≤ s.size
  · rw [if_neg (by omega)]
    by_cases h2 : s.size ≤ 63
    · rw [if_neg (by omega), if_pos (by omega)]
      have hb0 : bt s 0 = byI s 0 := bt_byI s 0 (by omega)
      have hb1 : bt s (wrap64 ((s.size : Int) - 1)) = byI s (s.size - 1) := by
        rw [wrap_small (by omega) (by omega), show ((s.size : Int) - 1) = ((s.size - 1 : Nat) : Int) by omega]
        exact bt_byI s _ (by omega)
      rw [hb0]
      by_cases h3 : byI s 0 = 45
      · rw [if_pos h3, ht, if_neg]
        rw [isLabel_eq s h1 h2]
        intro h
        have := of_decide_eq_true (okFrom_at s s.size 0 h (by omega) (by omega))
        have := (lowI_45 _).2 h3
        omega
      · rw [if_neg h3, if_pos (by rw [wrap_small (by omega) (by omega)]; omega), if_pos (by rw [wrap_small (by omega) (by omega)]; omega), hb1]
        by_cases h4 : byI s (s.size - 1) = 45
        · rw [beq_iff_eq.2 h4, ht, if_neg]
          rw [isLabel_eq s h1 h2]
          intro h
          have := of_decide_eq_true (okFrom_at s s.size (s.size - 1) h (by omega) (by omega))
          have := (lowI_45 _).2 h4
          omega
        · rw [beq_eq_false_iff_ne.2 h4]
          simp only [records_Label.j0, rows_Low.f]
          rw [if_neg (by simp), if_pos hs]
          simp only [Option.bind_some]
          rw [lowS_size]
          have := label_loop s h1 h2 (fun e => h3 ((lowI_45 _).1 e)) (fun e => h4 ((lowI_45 _).1 e)) s.size k 0 (Nat.zero_le _) (by omega) (by omega)
          rw [show ((0 : Nat) : Int) = 0 from rfl] at this
          rw [this, isLabel_eq s h1 h2]
    · rw [if_pos (by omega), ht, if_neg (fun h => h2 (isLabel_small s h).2)]
  · rw [if_pos (by omega), ht, if_neg (fun h => h1 (isLabel_small s h).1)]
theorem addr (s : ByteArray) (hs : s.size ≤ 1048576) : records_Addr.f s = some (addrS s) := by
  unfold records_Addr.f
  rw [if_pos (by omega)]
end Go.Proofs.YtagbpjegdfhmpaaDoor.Q
