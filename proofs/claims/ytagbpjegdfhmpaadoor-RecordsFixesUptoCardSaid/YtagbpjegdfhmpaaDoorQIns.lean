/- Sorted lists of texts without doubles: what sorting and compacting gives is what putting one text after the other gives. -/
import Derived.Test.YtagbpjegdfhmpaaDoorGSort
namespace Go.Proofs.YtagbpjegdfhmpaaDoor.Q
open Go.RowKit Go.Proofs.YtagbpjegdfhmpaaDoor.G

abbrev key (b : ByteArray) : List UInt8 := b.data.toList
theorem key_toB (l : List UInt8) : key (toB l) = l := by simp [key, toB]
theorem toB_key (b : ByteArray) : toB (key b) = b := by cases b; simp [key, toB]
theorem map_key_toB (l : List (List UInt8)) : (l.map toB).map key = l := by simp [Function.comp_def, key_toB]
theorem map_toB_key (l : List ByteArray) : (l.map key).map toB = l := by simp [Function.comp_def, toB_key]

/-- x among the sorted texts, once. -/
def insU (x : List UInt8) : List (List UInt8) → List (List UInt8)
  | [] => [x]
  | y :: l => if y < x then y :: insU x l else x :: (y :: l).filter (fun z => decide (z ≠ x))
theorem insU_mem (x z : List UInt8) : ∀ l, z ∈ insU x l ↔ z = x ∨ z ∈ l
  | [] => by simp [insU]
  | y :: l => by
    unfold insU
    split
    · rw [List.mem_cons, insU_mem x z l, List.mem_cons]
      constructor
      · rintro (h | h | h) <;> simp [h]
      · rintro (h | h | h) <;> simp [h]
    · rw [List.mem_cons, List.mem_filter]
      by_cases hz : z = x <;> simp [hz]
theorem insU_sorted (x : List UInt8) : ∀ l, l.Pairwise (· < ·) → (insU x l).Pairwise (· < ·)
  | [], _ => by simp [insU]
  | y :: l, h => by
    unfold insU
    rw [List.pairwise_cons] at h
    split
    · rename_i hy
      rw [List.pairwise_cons]
      refine ⟨fun z hz => ?_, insU_sorted x l h.2⟩
      rcases (insU_mem x z l).1 hz with rfl | hz
      · exact hy
      · exact h.1 z hz
    · rename_i hy
      rw [List.pairwise_cons]
      refine ⟨fun z hz => ?_, ((List.pairwise_cons.2 h).filter _)⟩
      rw [List.mem_filter] at hz
      have hne : z ≠ x := by simpa using hz.2
      have hxy : x ≤ y := hy
      have hyz : x ≤ z := by
        rcases List.mem_cons.1 hz.1 with rfl | hm
        · exact hxy
        · exact List.le_trans hxy (List.le_of_lt (h.1 z hm))
      rcases Decidable.em (x < z) with h1 | h1
      · exact h1
      · exact absurd (List.le_antisymm h1 hyz) hne
theorem fold_mem (z : List UInt8) : ∀ (L o : List (List UInt8)), z ∈ L.foldl (fun o x => insU x o) o ↔ z ∈ o ∨ z ∈ L
  | [], o => by simp
  | x :: L, o => by
    rw [List.foldl_cons, fold_mem z L, insU_mem, List.mem_cons]
    constructor
    · rintro ((h | h) | h) <;> simp [h]
    · rintro (h | h | h) <;> simp [h]
theorem fold_sorted : ∀ (L o : List (List UInt8)), o.Pairwise (· < ·) → (L.foldl (fun o x => insU x o) o).Pairwise (· < ·)
  | [], o, h => h
  | x :: L, o, h => by rw [List.foldl_cons]; exact fold_sorted L _ (insU_sorted x o h)

theorem getb {d : Array (List UInt8)} {j : Nat} (h : j < d.size) : d[j]! = d[j] := getElem!_pos d j h
theorem comp_upto (d : Array (List UInt8)) (hs : ∀ i j, i ≤ j → j < d.size → d[i]! ≤ d[j]!) : ∀ m, m ≤ d.size →
    (Lib.compactUpTo d m).Pairwise (· < ·) ∧ ∀ z, z ∈ Lib.compactUpTo d m ↔ ∃ j, j < m ∧ d[j]! = z
  | 0, _ => by simp [Lib.compactUpTo]
  | m + 1, hm => by
    obtain ⟨h1, h2⟩ := comp_upto d hs m (by omega)
    rw [Lib.compactUpTo_succ]
    by_cases hk : Lib.keeps d m = true
    · rw [if_pos hk]
      refine ⟨?_, fun z => ?_⟩
      · rw [List.pairwise_append]
        refine ⟨h1, by simp, fun a ha b hb => ?_⟩
        rw [List.mem_singleton] at hb
        subst hb
        obtain ⟨j, hj, rfl⟩ := (h2 a).1 ha
        have hk' : m = 0 ∨ d[m]! ≠ d[m - 1]! := by simpa [Lib.keeps] using hk
        have hne : d[m]! ≠ d[m - 1]! := by rcases hk' with h | h; omega; exact h
        have ha1 := hs j (m - 1) (by omega) (by omega)
        have ha2 := hs (m - 1) m (by omega) (by omega)
        rcases Decidable.em (d[j]! < d[m]!) with h | h
        · exact h
        · have h3 : d[m]! ≤ d[j]! := h
          exact absurd (List.le_antisymm (List.le_trans h3 ha1) ha2) hne
      · rw [List.mem_append, h2, List.mem_singleton]
        constructor
        · rintro (⟨j, hj, rfl⟩ | rfl)
          · exact ⟨j, by omega, rfl⟩
          · exact ⟨m, by omega, rfl⟩
        · rintro ⟨j, hj, rfl⟩
          rcases Nat.lt_or_ge j m with h | h
          · exact Or.inl ⟨j, h, rfl⟩
          · have : j = m := by omega
            subst this
            exact Or.inr rfl
    · rw [if_neg hk, List.append_nil]
      refine ⟨h1, fun z => ?_⟩
      have hk' : ¬ (m = 0 ∨ d[m]! ≠ d[m - 1]!) := by simpa [Lib.keeps] using hk
      have hm0 : m ≠ 0 := fun h => hk' (Or.inl h)
      have heq : d[m]! = d[m - 1]! := Decidable.byContradiction fun h => hk' (Or.inr h)
      rw [h2]
      constructor
      · rintro ⟨j, hj, rfl⟩; exact ⟨j, by omega, rfl⟩
      · rintro ⟨j, hj, rfl⟩
        rcases Nat.lt_or_ge j m with h | h
        · exact ⟨j, h, rfl⟩
        · have : j = m := by omega
          subst this
          exact ⟨j - 1, by omega, heq.symm⟩
theorem sort_get (l : List (List UInt8)) (h : l.Pairwise (· ≤ ·)) : ∀ i j, i ≤ j → j < l.toArray.size → l.toArray[i]! ≤ l.toArray[j]! := by
  intro i j hij hj
  rw [getb (by omega), getb hj]
  rcases Nat.lt_or_ge i j with h' | h'
  · simpa using (List.pairwise_iff_getElem.1 h) i j (by simp at hj; omega) (by simpa using hj) h'
  · have : i = j := by omega
    subst this
    exact List.le_refl _
/-- What sorting and compacting gives. -/
theorem compact_sort (L : List (List UInt8)) : Lib.compact (L.mergeSort fun x y => decide (x ≤ y)) = L.foldl (fun o x => insU x o) [] := by
  have hs : (L.mergeSort fun x y => decide (x ≤ y)).Pairwise (· ≤ ·) := by
    have := List.pairwise_mergeSort (le := fun x y : List UInt8 => decide (x ≤ y)) (by intro a b c h g; simp only [decide_eq_true_eq] at *; exact List.le_trans h g) (by intro a b; simpa using List.le_total a b) L
    simpa using this
  obtain ⟨h1, h2⟩ := comp_upto _ (sort_get _ hs) (L.mergeSort fun x y => decide (x ≤ y)).length (by simp)
  have h3 := fold_sorted L [] (by simp)
  have nd : ∀ l : List (List UInt8), l.Pairwise (· < ·) → l.Nodup := fun l h => h.imp fun hab e => by subst e; exact List.lt_irrefl _ hab
  refine List.Perm.eq_of_pairwise (le := (· < ·)) (fun a b _ _ hab hba => absurd (List.lt_trans hab hba) (List.lt_irrefl a)) h1 h3 ((List.perm_ext_iff_of_nodup (nd _ h1) (nd _ h3)).2 fun z => ?_)
  rw [h2, fold_mem]
  simp only [List.not_mem_nil, false_or]
  rw [← List.mem_mergeSort (le := fun x y : List UInt8 => decide (x ≤ y)), List.mem_iff_getElem]
  constructor
  · rintro ⟨j, hj, rfl⟩
    exact ⟨j, hj, by rw [getb (by simpa using hj)]; simp⟩
  · rintro ⟨j, hj, rfl⟩
    exact ⟨j, hj, by rw [getb (by simpa using hj)]; simp⟩
theorem compactS_sortS (L : List ByteArray) : compactS (sortS L) = ((L.map key).foldl (fun o x => insU x o) []).map toB := by
  rw [← compact_sort]
  unfold compactS sortS
  rw [map_key_toB]
end Go.Proofs.YtagbpjegdfhmpaaDoor.Q
