/- What the tags in normal form are: by the program's sorting and by the document's putting one after the other. -/
import Derived.Test.YtagbpjegdfhmpaaDoorPx10
import Derived.Test.YtagbpjegdfhmpaaDoorPx8
import Derived.Test.YtagbpjegdfhmpaaDoorQLab
import Derived.Test.YtagbpjegdfhmpaaDoorQIns
namespace Go.Proofs.YtagbpjegdfhmpaaDoor.Q
open Go.RowKit Go.Proofs.YtagbpjegdfhmpaaDoorW.PrintWords Go.Proofs.YtagbpjegdfhmpaaDoorW.PrintLast Go.Proofs.YtagbpjegdfhmpaaDoor.G Go.Proofs.YtagbpjegdfhmpaaDoor.P

theorem drop_bt (s : ByteArray) (i : Nat) (h : i < s.size) : ∃ c : UInt8, (key s).drop i = c :: (key s).drop (i + 1) ∧ bt s i = (c.toNat : Int) := by
  have hl : i < (key s).length := by simpa [key] using h
  refine ⟨(key s)[i], List.drop_eq_getElem_cons hl, ?_⟩
  rw [bt_nat s i h]
  simp [List.getD, key, h]
theorem drop_end (s : ByteArray) (i : Nat) (h : s.size ≤ i) : (key s).drop i = [] := List.drop_eq_nil_of_le (by simpa [key] using h)
theorem less_loop (a b : ByteArray) (ha : a.size ≤ 1048576) (hb : b.size ≤ 1048576) (d : Nat) : ∀ (k i : Nat), i ≤ b.size → b.size - i = d → 2 * d + 1 ≤ k →
    musterref01_Less.l0 k a b i = some (decide ((key a).drop i < (key b).drop i)) := by
  induction d with
  | zero =>
    intro k i hi hd hk
    obtain ⟨k, rfl⟩ : ∃ m, k = m + 1 := ⟨k - 1, by omega⟩
    simp only [musterref01_Less.l0]
    rw [if_neg (by omega), drop_end b i (by omega)]
    simp
  | succ d ih =>
    intro k i hi hd hk
    obtain ⟨k, rfl⟩ : ∃ m, k = m + 2 := ⟨k - 2, by omega⟩
    have hlt : i < b.size := by omega
    obtain ⟨cb, eb, vb⟩ := drop_bt b i hlt
    simp only [musterref01_Less.l0]
    rw [if_pos (by omega)]
    by_cases h1 : a.size ≤ i
    · rw [if_pos (by omega)]
      simp only [musterref01_Less.j1]
      rw [if_pos trivial, drop_end a i h1, eb]
      simp
    · rw [if_neg (by omega), if_pos (by omega), if_pos (by omega)]
      obtain ⟨ca, ea, va⟩ := drop_bt a i (by omega)
      simp only [musterref01_Less.j1]
      rw [va, vb, ea, eb]
      by_cases h2 : ca < cb
      · have h2' : (ca.toNat : Int) < cb.toNat := by have := UInt8.lt_iff_toNat_lt.1 h2; omega
        rw [if_pos (by simpa using h2')]
        simp [List.cons_lt_cons_iff, h2]
      · have h2' : ¬ (ca.toNat : Int) < cb.toNat := by intro h; exact h2 (UInt8.lt_iff_toNat_lt.2 (by omega))
        rw [if_neg (by simpa using h2'), if_pos (by omega), if_pos (by omega), if_pos (by omega)]
        by_cases h3 : ca = cb
        · subst h3
          rw [if_neg (by omega), wrap_succ (by omega) (by omega)]
          have h := ih k (i + 1) (by omega) (by omega) (by omega)
          rw [show ((i + 1 : Nat) : Int) = (i : Int) + 1 by omega] at h
          rw [h]
          simp [List.cons_lt_cons_iff]
        · have h4 : ¬ ca.toNat = cb.toNat := fun h => h3 (UInt8.toNat_inj.1 h)
          rw [if_pos (by omega)]
          simp [List.cons_lt_cons_iff, h2, h3]
theorem less (a b : ByteArray) (ha : a.size ≤ 1048576) (hb : b.size ≤ 1048576) (k : Nat) (hk : 2 * b.size + 1 ≤ k) : musterref01_Less.f k a b = some (decide (key a < key b)) := by
  have := less_loop a b ha hb b.size k 0 (Nat.zero_le _) (by omega) hk
  simpa [musterref01_Less.f] using this

/-- x among the sorted texts, once. -/
def insB (x : ByteArray) : List ByteArray → List ByteArray
  | [] => [x]
  | y :: l => if key y < key x then y :: insB x l else x :: (y :: l).filter (fun z => decide (key z ≠ key x))
theorem insB_hit {x y : ByteArray} {l : List ByteArray} (h : ¬ key y < key x) : insB x (y :: l) = x :: (y :: l).filter (fun z => decide (key z ≠ key x)) := by rw [insB, if_neg h]
theorem insB_miss {x y : ByteArray} {l : List ByteArray} (h : key y < key x) : insB x (y :: l) = y :: insB x l := by rw [insB, if_pos h]
theorem insB_key (x : ByteArray) : ∀ l, (insB x l).map key = insU (key x) (l.map key)
  | [] => rfl
  | y :: l => by
    unfold insB
    rw [List.map_cons]
    unfold insU
    by_cases h : key y < key x
    · rw [if_pos h, if_pos h, List.map_cons, insB_key x l]
    · rw [if_neg h, if_neg h]
      show key x :: List.map key (List.filter (fun z => decide (key z ≠ key x)) (y :: l)) = key x :: List.filter (fun z => decide (z ≠ key x)) (List.map key (y :: l))
      rw [List.filter_map]
      rfl
theorem insB_len (x : ByteArray) : ∀ l, (insB x l).length ≤ l.length + 1
  | [] => by simp [insB]
  | y :: l => by
    unfold insB
    split
    · have := insB_len x l; simp; omega
    · have := List.length_filter_le (fun z => decide (key z ≠ key x)) (y :: l)
      simp at this ⊢; omega
theorem insB_size (x : ByteArray) (hx : x.size ≤ 63) : ∀ l, (∀ y ∈ l, y.size ≤ 63) → ∀ y ∈ insB x l, y.size ≤ 63
  | [], _, y, hy => by simp [insB] at hy; subst hy; exact hx
  | z :: l, h, y, hy => by
    unfold insB at hy
    split at hy
    · rcases List.mem_cons.1 hy with rfl | hy
      · exact h _ (by simp)
      · exact insB_size x hx l (fun y hy => h y (List.mem_cons_of_mem _ hy)) y hy
    · rcases List.mem_cons.1 hy with rfl | hy
      · exact hx
      · exact h y (List.mem_filter.1 hy).1

theorem rdOf_nat (l : List ByteArray) (j : Nat) (h : j < l.length) : rdOf ByteArray.empty l (j : Int) = l[j] := by
  simp [rdOf, List.getD, h]
theorem toList_key (a b : ByteArray) : a.toList = b.toList ↔ key a = key b := by rw [ByteArray.toList_eq, ByteArray.toList_eq]
/-- The inner loop: what is put ahead, then the rest. -/
theorem tags_inner (x : ByteArray) (hx : x.size ≤ 63) (L : List ByteArray) (n i : Int) (out : List ByteArray) (ho : out.length ≤ 1000) (hs : ∀ y ∈ out, y.size ≤ 63) (K : Nat) (hK : 200 ≤ K) (d : Nat) :
    ∀ (j : Nat) (acc : List ByteArray) (p : Bool), j ≤ out.length → out.length - j = d → acc.length ≤ j + p.toNat →
    musterref09_Tags.l1 (K + 2 * d + 1) x acc p L n i out (out.length : Int) j =
      musterref09_Tags.l0 K (acc ++ (if p = true then (out.drop j).filter (fun z => decide (key z ≠ key x)) else insB x (out.drop j))) L n (wrap64 (i + 1)) := by
  induction d with
  | zero =>
    intro j acc p hj hd ha
    have hp : p.toNat ≤ 1 := by cases p <;> simp
    simp only [musterref09_Tags.l1]
    rw [if_neg (by omega), List.drop_eq_nil_of_le (by omega : out.length ≤ j)]
    cases p
    · rw [if_neg (by decide), if_pos (by omega), if_neg (by decide)]
      rfl
    · rw [if_pos rfl, if_pos rfl]
      simp
  | succ d ih =>
    intro j acc p hj hd ha
    have hlt : j < out.length := by omega
    have hdr : out.drop j = out[j] :: out.drop (j + 1) := List.drop_eq_getElem_cons hlt
    have hy : out[j].size ≤ 63 := hs _ (List.getElem_mem hlt)
    rw [show K + 2 * (d + 1) + 1 = (K + 2 * d + 1) + 1 + 1 by omega]
    simp only [musterref09_Tags.l1]
    rw [if_pos (by omega), if_pos (by omega), if_pos (by omega), rdOf_nat out j hlt, hdr]
    have e1 : ((j : Int) + 1) = ((j + 1 : Nat) : Int) := by omega
    cases p <;> simp only [Bool.toNat_true, Bool.toNat_false] at ha
    · rw [if_neg (by decide), less _ _ (by omega) (by omega) _ (by omega), if_neg (by decide)]
      simp only [Option.bind_some, musterref09_Tags.j2]
      by_cases h1 : key out[j] < key x
      · have h2 : ¬ out[j].toList = x.toList := by rw [toList_key]; intro h; rw [h] at h1; exact List.lt_irrefl _ h1
        rw [if_neg (by simp [h1]), if_neg h2, if_pos (by omega), wrap_succ (by omega) (by omega), e1, ih (j + 1) _ _ (by omega) (by omega) (by simp; omega)]
        rw [if_neg (by decide), insB_miss h1, List.append_assoc]
        rfl
      · rw [if_pos (by simp [h1]), if_pos (by omega)]
        by_cases h2 : out[j].toList = x.toList
        · have h3 := (toList_key _ _).1 h2
          rw [if_pos h2, wrap_succ (by omega) (by omega), e1, ih (j + 1) _ _ (by omega) (by omega) (by simp; omega), if_pos rfl, insB_hit h1, List.filter_cons_of_neg (by simp [h3]), List.append_assoc]
          rfl
        · have h3 : ¬ key out[j] = key x := fun h => h2 ((toList_key _ _).2 h)
          rw [if_neg h2, if_pos (by simp; omega), wrap_succ (by omega) (by omega), e1, ih (j + 1) _ _ (by omega) (by omega) (by simp; omega), if_pos rfl, insB_hit h1, List.filter_cons_of_pos (by simp [h3]), List.append_assoc, List.append_assoc]
          rfl
    · rw [if_pos rfl, if_pos rfl]
      simp only [musterref09_Tags.j2]
      rw [if_neg (by decide)]
      by_cases h2 : out[j].toList = x.toList
      · have h3 := (toList_key _ _).1 h2
        rw [if_pos h2, wrap_succ (by omega) (by omega), e1, ih (j + 1) _ _ (by omega) (by omega) (by omega), if_pos rfl, List.filter_cons_of_neg (by simp [h3])]
      · have h3 : ¬ key out[j] = key x := fun h => h2 ((toList_key _ _).2 h)
        rw [if_neg h2, if_pos (by omega), wrap_succ (by omega) (by omega), e1, ih (j + 1) _ _ (by omega) (by omega) (by simp; omega), if_pos rfl, List.filter_cons_of_pos (by simp [h3]), List.append_assoc]
        rfl

/-- The tags' labels, all or none. -/
def labs : List ByteArray → Option (List ByteArray)
  | [] => some []
  | t :: l => if (labelS t).2 = 0 then (labs l).map ((labelS t).1 :: ·) else none
theorem lab_size (t : ByteArray) (h : (labelS t).2 = 0) : (labelS t).1.size ≤ 63 := by
  unfold labelS at h ⊢
  split
  · rename_i hl
    rw [lowS_size]; exact (isLabel_small t hl).2
  · decide
/-- What both answer. -/
def tagsS (L : List ByteArray) : List ByteArray × Int :=
  if L.length > 16 then ([], 93) else match labs L with
    | none => ([], 93)
    | some l => (((l.map key).foldl (fun o x => insU x o) []).map toB, 0)
theorem refTags_loop (L : List ByteArray) (hL : L.length ≤ 16) (hs : ∀ t ∈ L, t.size ≤ 1048576) (M : Nat) (hM : ∀ t ∈ L, t.size ≤ M) (d : Nat) : ∀ (k i : Nat) (out : List ByteArray), i ≤ L.length → L.length - i = d → out.length ≤ i → (∀ y ∈ out, y.size ≤ 63) → 40 * d + 300 + M ≤ k →
    musterref09_Tags.l0 k out L (L.length : Int) i = some (match labs (L.drop i) with
      | none => ([], 93)
      | some l => (((l.map key).foldl (fun o x => insU x o) (out.map key)).map toB, 0)) := by
  induction d with
  | zero =>
    intro k i out hi hd ho hz hk
    obtain ⟨k, rfl⟩ : ∃ m, k = m + 1 := ⟨k - 1, by omega⟩
    simp only [musterref09_Tags.l0]
    rw [if_neg (by omega), List.drop_eq_nil_of_le (by omega : L.length ≤ i)]
    simp [labs, Function.comp_def, toB_key]
  | succ d ih =>
    intro k i out hi hd ho hz hk
    have hlt : i < L.length := by omega
    obtain ⟨k, rfl⟩ : ∃ m, k = m + 2 * out.length + 2 := ⟨k - 2 * out.length - 2, by omega⟩
    have hdr : L.drop i = L[i] :: L.drop (i + 1) := List.drop_eq_getElem_cons hlt
    have hm := hM _ (List.getElem_mem hlt)
    rw [show k + 2 * out.length + 2 = (k + 2 * out.length + 1) + 1 by omega]
    simp only [musterref09_Tags.l0]
    rw [if_pos (by omega), if_pos (by omega), if_pos (by omega), rdOf_nat L i hlt, refLabel _ (hs _ (List.getElem_mem hlt)) _ (by omega), hdr]
    simp only [Option.bind_some, labs]
    by_cases h : (labelS L[i]).2 = 0
    · have hx := lab_size _ h
      rw [if_pos h, if_pos h, show ((0 : Int)) = ((0 : Nat) : Int) from rfl, tags_inner _ hx L _ i out (by omega) hz k (by omega) out.length 0 [] false (by omega) (by omega) (by simp)]
      rw [wrap_succ (by omega) (by omega), show ((i : Int) + 1) = ((i + 1 : Nat) : Int) by omega, if_neg (by decide), List.nil_append, List.drop_zero]
      rw [ih k (i + 1) _ (by omega) (by omega) (by have := insB_len (labelS L[i]).1 out; omega) (insB_size _ hx out hz) (by omega)]
      rw [insB_key]
      cases labs (L.drop (i + 1)) <;> simp
    · rw [if_neg h, if_neg h]
theorem refTags (L : List ByteArray) (M : Nat) (hM : ∀ t ∈ L, t.size ≤ M) (hM' : M ≤ 1048576) (k : Nat) (hk : 1000 + M ≤ k) : musterref09_Tags.f k L = some (tagsS L) := by
  unfold musterref09_Tags.f tagsS
  by_cases h : L.length > 16
  · rw [if_pos (by omega), if_pos h]
  · rw [if_neg (by omega), if_neg h, show ((0 : Int)) = ((0 : Nat) : Int) from rfl, refTags_loop L (by omega) (fun t ht => Nat.le_trans (hM t ht) hM') M hM L.length k 0 [] (by omega) (by omega) (by simp) (by simp) (by omega)]
    rw [List.drop_zero]
    cases labs L <;> simp
theorem tags_loop (L : List ByteArray) (hL : L.length ≤ 16) (hs : ∀ t ∈ L, t.size ≤ 1048576) (d : Nat) : ∀ (k i : Nat) (out : List ByteArray), i ≤ L.length → L.length - i = d → out.length ≤ i → d + 100 ≤ k →
    records_fixTags.l0 k out L (L.length : Int) i = some (match labs (L.drop i) with
      | none => ([], 93)
      | some l => ((((out ++ l).map key).foldl (fun o x => insU x o) []).map toB, 0)) := by
  induction d with
  | zero =>
    intro k i out hi hd ho hk
    obtain ⟨k, rfl⟩ : ∃ m, k = m + 1 := ⟨k - 1, by omega⟩
    simp only [records_fixTags.l0]
    rw [if_neg (by omega), List.drop_eq_nil_of_le (by omega : L.length ≤ i)]
    unfold slices_Sort_string.f slices_Compact_string.f
    rw [if_pos (by omega)]
    simp only [Option.bind_some, labs]
    rw [if_pos (by rw [sortS_length]; omega)]
    simp only [Option.bind_some, List.append_nil]
    rw [compactS_sortS]
  | succ d ih =>
    intro k i out hi hd ho hk
    have hlt : i < L.length := by omega
    obtain ⟨k, rfl⟩ : ∃ m, k = m + 1 := ⟨k - 1, by omega⟩
    have hdr : L.drop i = L[i] :: L.drop (i + 1) := List.drop_eq_getElem_cons hlt
    have hm := hs _ (List.getElem_mem hlt)
    simp only [records_fixTags.l0]
    rw [if_pos (by omega), if_pos (by omega), if_pos (by omega), rdOf_nat L i hlt, label _ (by omega) _ (by omega), hdr]
    simp only [Option.bind_some, labs]
    by_cases h : (labelS L[i]).2 = 0
    · rw [if_pos h, if_pos h, if_pos (by omega), wrap_succ (by omega) (by omega), show ((i : Int) + 1) = ((i + 1 : Nat) : Int) by omega, ih k (i + 1) _ (by omega) (by omega) (by simp; omega) (by omega)]
      cases labs (L.drop (i + 1)) <;> simp
    · rw [if_neg h, if_neg h]
theorem tags (L : List ByteArray) (hs : ∀ t ∈ L, t.size ≤ 1048576) (k : Nat) (hk : 200 ≤ k) : records_fixTags.f k L = some (tagsS L) := by
  unfold records_fixTags.f tagsS
  by_cases h : L.length > 16
  · rw [if_pos (by omega), if_pos h]
  · rw [if_neg (by omega), if_neg h, show ((0 : Int)) = ((0 : Nat) : Int) from rfl, tags_loop L (by omega) hs L.length k 0 [] (by omega) (by omega) (by simp) (by omega)]
    rw [List.drop_zero]
    cases labs L <;> simp
end Go.Proofs.YtagbpjegdfhmpaaDoor.Q
