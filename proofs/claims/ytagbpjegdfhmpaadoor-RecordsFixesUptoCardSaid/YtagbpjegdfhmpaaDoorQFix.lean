/- What FixNode, FixService and FixCheck answer: the program's and the document's alike. -/
import Derived.Test.YtagbpjegdfhmpaaDoorPx11
import Derived.Test.YtagbpjegdfhmpaaDoorPx9
import Derived.Test.YtagbpjegdfhmpaaDoorQTags
namespace Go.Proofs.YtagbpjegdfhmpaaDoor.Q
open Go.RowKit Go.Proofs.YtagbpjegdfhmpaaDoorW.PrintWords Go.Proofs.YtagbpjegdfhmpaaDoorW.PrintLast Go.Proofs.YtagbpjegdfhmpaaDoor.G Go.Proofs.YtagbpjegdfhmpaaDoor.P

def firstS : List Int → Int
  | [] => 0
  | e :: l => if e = 0 then firstS l else e
theorem first_loop (l : List Int) (hl : l.length ≤ 1000) (d : Nat) : ∀ (k i : Nat), i ≤ l.length → l.length - i = d → d < k → records_first.l0 k l (l.length : Int) i = some (firstS (l.drop i)) := by
  induction d with
  | zero =>
    intro k i hi hd hk
    obtain ⟨k, rfl⟩ : ∃ m, k = m + 1 := ⟨k - 1, by omega⟩
    simp only [records_first.l0]
    rw [if_neg (by omega), List.drop_eq_nil_of_le (by omega : l.length ≤ i)]
    rfl
  | succ d ih =>
    intro k i hi hd hk
    obtain ⟨k, rfl⟩ : ∃ m, k = m + 1 := ⟨k - 1, by omega⟩
    have hlt : i < l.length := by omega
    have hr : rd l (i : Int) = l[i] := by simp [rd, List.getD, hlt]
    simp only [records_first.l0]
    rw [if_pos (by omega), if_pos (by omega), if_pos (by omega), hr, wrap_succ (by omega) (by omega), show ((i : Int) + 1) = ((i + 1 : Nat) : Int) by omega, ih k (i + 1) (by omega) (by omega) (by omega), List.drop_eq_getElem_cons hlt]
    by_cases h : l[i] = 0
    · rw [if_pos h, firstS, if_pos h]
    · rw [if_neg h, firstS, if_neg h]
theorem first (l : List Int) (hl : l.length ≤ 1000) (k : Nat) (hk : l.length < k) : records_first.f k l = some (firstS l) :=
  first_loop l hl l.length k 0 (Nat.zero_le _) (by omega) hk

abbrev E : ByteArray := ⟨#[]⟩
theorem lab_bad (s : ByteArray) (h : (labelS s).2 ≠ 0) : labelS s = (E, 90) := by
  unfold labelS at h ⊢
  split
  · rename_i hl; rw [if_pos hl] at h; exact absurd rfl h
  · rfl
theorem addr_bad (s : ByteArray) : (addrS s).2.2.2.2 = 0 ∨ (addrS s).2.2.2.2 = 91 := by
  unfold addrS
  split <;> simp
def nodeS (n a : ByteArray) : ByteArray × ByteArray × Int × Int × Int :=
  if (labelS n).2 = 0 then if (addrS a).2.2.2.2 = 0 then ((labelS n).1, a, 0, 0, 0) else (E, E, 0, 0, 91) else (E, E, 0, 0, 90)
theorem refNode (n a : ByteArray) (c d : Int) (hn : n.size ≤ 1048576) (ha : a.size ≤ 1048576) (k : Nat) (hk : n.size + a.size + 100 ≤ k) : musterref09_FixNode.f k n a c d = some (nodeS n a) := by
  unfold musterref09_FixNode.f nodeS
  rw [refLabel n hn k (by omega)]
  simp only [Option.bind_some]
  by_cases h : (labelS n).2 = 0
  · rw [if_pos h, if_pos h, refAddr a ha k (by omega)]
    simp only [Option.bind_some]
    rcases addr_bad a with h' | h' <;> simp [h']
  · rw [if_neg h, if_neg h, lab_bad n h]
theorem node (n a : ByteArray) (c d : Int) (hn : n.size ≤ 1048576) (ha : a.size ≤ 1048576) (k : Nat) (hk : 100 ≤ k) : records_FixNode.f k n a c d = some (nodeS n a) := by
  unfold records_FixNode.f nodeS
  rw [label n (by omega) k (by omega), addr a ha]
  simp only [Option.bind_some]
  rw [first _ (by simp) k (by simp; omega)]
  simp only [Option.bind_some, firstS]
  by_cases h : (labelS n).2 = 0
  · rcases addr_bad a with h' | h' <;> simp [h, h']
  · rw [lab_bad n h]; simp

def threeS (a b c : ByteArray) : ByteArray × ByteArray × ByteArray × Int :=
  if (labelS a).2 = 0 ∧ (labelS b).2 = 0 ∧ (labelS c).2 = 0 then ((labelS a).1, (labelS b).1, (labelS c).1, 0) else (E, E, E, 90)
theorem three (a b c : ByteArray) (ha : a.size ≤ 1048576) (hb : b.size ≤ 1048576) (hc : c.size ≤ 1048576) (k : Nat) (hk : a.size + b.size + c.size + 2 ≤ k) : musterref09_Three.f k a b c = some (threeS a b c) := by
  unfold musterref09_Three.f threeS
  rw [refLabel a ha k (by omega), refLabel b hb k (by omega), refLabel c hc k (by omega)]
  simp only [Option.bind_some]
  by_cases h : (labelS a).2 = 0 <;> by_cases h' : (labelS b).2 = 0 <;> by_cases h'' : (labelS c).2 = 0 <;> simp [h, h', h'']
def serviceS (a b c : ByteArray) (p : Int) (L : List ByteArray) : ByteArray × ByteArray × ByteArray × Int × List ByteArray × Int × Int × Int :=
  if (labelS a).2 = 0 ∧ (labelS b).2 = 0 ∧ (labelS c).2 = 0 then
    if p < 1 ∨ p > 65535 then (E, E, E, 0, [], 0, 0, 92)
    else if (tagsS L).2 = 0 then ((labelS a).1, (labelS b).1, (labelS c).1, p, (tagsS L).1, 0, 0, 0) else (E, E, E, 0, [], 0, 0, 93)
  else (E, E, E, 0, [], 0, 0, 90)
theorem tags_bad (L : List ByteArray) : (tagsS L).2 = 0 ∨ (tagsS L).2 = 93 := by
  unfold tagsS
  split
  · exact Or.inr rfl
  · split
    · exact Or.inr rfl
    · exact Or.inl rfl
theorem refService (a b c : ByteArray) (p : Int) (L : List ByteArray) (u v : Int) (ha : a.size ≤ 1048576) (hb : b.size ≤ 1048576) (hc : c.size ≤ 1048576) (M : Nat) (hM : ∀ t ∈ L, t.size ≤ M) (hM' : M ≤ 1048576) (k : Nat) (hk : a.size + b.size + c.size + M + 1010 ≤ k) :
    musterref09_FixService.f k a b c p L u v = some (serviceS a b c p L) := by
  obtain ⟨k, rfl⟩ : ∃ m, k = m + 1 := ⟨k - 1, by omega⟩
  unfold musterref09_FixService.f serviceS
  rw [three a b c ha hb hc _ (by omega)]
  simp only [Option.bind_some]
  unfold threeS
  by_cases h : (labelS a).2 = 0 ∧ (labelS b).2 = 0 ∧ (labelS c).2 = 0
  · rw [if_pos h, if_pos h]
    simp only [musterref09_FixService.j0]
    rw [refTags L M hM hM' k (by omega)]
    simp only [Option.bind_some]
    by_cases h1 : p < 1
    · simp [h1]
    · by_cases h2 : p > 65535
      · simp [h1, h2]
      · rcases tags_bad L with h3 | h3 <;> simp [h1, h2, h3]
  · rw [if_neg h, if_neg h]
    simp
theorem service (a b c : ByteArray) (p : Int) (L : List ByteArray) (u v : Int) (ha : a.size ≤ 1048576) (hb : b.size ≤ 1048576) (hc : c.size ≤ 1048576) (hL : ∀ t ∈ L, t.size ≤ 1048576) (k : Nat) (hk : 210 ≤ k) :
    records_FixService.f k a b c p L u v = some (serviceS a b c p L) := by
  unfold records_FixService.f serviceS
  rw [label a (by omega) k (by omega), label b (by omega) k (by omega), label c (by omega) k (by omega), tags L hL k (by omega)]
  simp only [Option.bind_some, records_when.f]
  by_cases h : (labelS a).2 = 0
  · by_cases h' : (labelS b).2 = 0
    · by_cases h'' : (labelS c).2 = 0
      · rw [if_pos (show _ ∧ _ from ⟨h, h', h''⟩)]
        by_cases h1 : p < 1
        · rw [if_pos h1, if_pos (Or.inl h1)]
          simp only [if_true, Option.bind_some]
          rw [first _ (by simp) k (by simp; omega)]
          simp [firstS, h, h', h'']
        · rw [if_neg h1]
          by_cases h2 : p > 65535
          · rw [if_pos (Or.inr h2)]
            simp only [h2, decide_true, if_true, Option.bind_some]
            rw [first _ (by simp) k (by simp; omega)]
            simp [firstS, h, h', h'']
          · rw [if_neg (show ¬ (p < 1 ∨ p > 65535) by omega)]
            simp only [h2, decide_false, Bool.false_eq_true, if_false, Option.bind_some]
            rw [first _ (by simp) k (by simp; omega)]
            rcases tags_bad L with h3 | h3 <;> simp [firstS, h, h', h'', h3]
      · rw [if_neg (show ¬ ((labelS a).2 = 0 ∧ (labelS b).2 = 0 ∧ (labelS c).2 = 0) from fun q => h'' q.2.2), lab_bad c h'']
        by_cases h1 : p < 1 <;> by_cases h2 : p > 65535 <;> simp only [h1, h2, if_true, if_false, decide_true, decide_false, Bool.false_eq_true, Option.bind_some] <;> rw [first _ (by simp) k (by simp; omega)] <;> simp [firstS, h, h']
    · rw [if_neg (show ¬ ((labelS a).2 = 0 ∧ (labelS b).2 = 0 ∧ (labelS c).2 = 0) from fun q => h' q.2.1), lab_bad b h']
      by_cases h1 : p < 1 <;> by_cases h2 : p > 65535 <;> simp only [h1, h2, if_true, if_false, decide_true, decide_false, Bool.false_eq_true, Option.bind_some] <;> rw [first _ (by simp) k (by simp; omega)] <;> simp [firstS, h]
  · rw [if_neg (show ¬ ((labelS a).2 = 0 ∧ (labelS b).2 = 0 ∧ (labelS c).2 = 0) from fun q => h q.1), lab_bad a h]
    by_cases h1 : p < 1 <;> by_cases h2 : p > 65535 <;> simp only [h1, h2, if_true, if_false, decide_true, decide_false, Bool.false_eq_true, Option.bind_some] <;> rw [first _ (by simp) k (by simp; omega)] <;> simp [firstS]

/-- No bad sign in the last d bytes. -/
def noteFrom (s : ByteArray) : Nat → Bool
  | 0 => true
  | d + 1 => decide (32 ≤ byI s (s.size - (d + 1)) ∧ byI s (s.size - (d + 1)) ≤ 126) && noteFrom s d
abbrev Chk := ByteArray × ByteArray × ByteArray × Int × ByteArray × Int × Int × Int
def bad (e : Int) : Chk := (E, E, E, 0, E, 0, 0, e)
theorem refNote (x5 x6 x7 y0 y1 y2 s : ByteArray) (y3 y5 y6 : Int) (hs : s.size ≤ 1048576) (d : Nat) : ∀ (k i : Nat), i ≤ s.size → s.size - i = d → d < k →
    musterref09_FixCheck.l0 k x5 x6 x7 i y0 y1 y2 y3 s y5 y6 = some (if noteFrom s d = true then (x5, x6, x7, y3, s, 0, 0, 0) else bad 95) := by
  induction d with
  | zero =>
    intro k i hi hd hk
    obtain ⟨k, rfl⟩ : ∃ m, k = m + 1 := ⟨k - 1, by omega⟩
    simp only [musterref09_FixCheck.l0]
    rw [if_neg (by omega), if_pos (show noteFrom s 0 = true from rfl)]
  | succ d ih =>
    intro k i hi hd hk
    obtain ⟨k, rfl⟩ : ∃ m, k = m + 1 := ⟨k - 1, by omega⟩
    have hlt : i < s.size := by omega
    have e : s.size - (d + 1) = i := by omega
    have hN : noteFrom s (d + 1) = (decide (32 ≤ byI s i ∧ byI s i ≤ 126) && noteFrom s d) := by rw [noteFrom, e]
    simp only [musterref09_FixCheck.l0]
    rw [if_pos (by omega), if_pos (by omega), bt_byI s i hlt, hN, wrap_succ (by omega) (by omega), show ((i : Int) + 1) = ((i + 1 : Nat) : Int) by omega, ih k (i + 1) (by omega) (by omega) (by omega)]
    by_cases h1 : byI s i < 32
    · rw [if_pos h1, if_neg (by simp; intro h; omega)]; rfl
    · rw [if_neg h1]
      by_cases h2 : byI s i > 126
      · rw [if_pos h2, if_neg (by simp; intro _ h; omega)]; rfl
      · rw [if_neg h2]
        have : decide (32 ≤ byI s i ∧ byI s i ≤ 126) = true := by simp; omega
        rw [this, Bool.true_and]
def checkS (a b c : ByteArray) (p : Int) (s : ByteArray) : Chk :=
  if (labelS a).2 = 0 ∧ (labelS b).2 = 0 ∧ ((labelS c).2 = 0 ∨ c = E) then
    if p < 1 ∨ p > 3 then bad 94
    else if 200 < s.size then bad 95
    else if noteFrom s s.size = true then ((labelS a).1, (labelS b).1, (labelS c).1, p, s, 0, 0, 0) else bad 95
  else bad 90
theorem empty_of (c : ByteArray) (h : c.toList = ([] : List UInt8)) : c = E := by rw [ByteArray.toList_eq] at h; exact ba_ext (by rw [h])
theorem lab_empty : labelS E = (E, 90) := by decide +kernel
theorem lab_x : labelS ⟨#[120]⟩ = (⟨#[120]⟩, 0) := by decide +kernel
theorem refEnd (x5 x6 x7 y0 y1 y2 s : ByteArray) (p y5 y6 : Int) (hs : s.size ≤ 1048576) (k : Nat) (hk : s.size + 10 ≤ k) :
    musterref09_FixCheck.j1 k x5 x6 x7 y0 y1 y2 p s y5 y6 = some (if p < 1 ∨ p > 3 then bad 94 else if 200 < s.size then bad 95 else if noteFrom s s.size = true then (x5, x6, x7, p, s, 0, 0, 0) else bad 95) := by
  obtain ⟨k, rfl⟩ : ∃ m, k = m + 2 := ⟨k - 2, by omega⟩
  have hn := refNote x5 x6 x7 y0 y1 y2 s p y5 y6 hs s.size k 0 (Nat.zero_le _) (by omega) (by omega)
  rw [show ((0 : Nat) : Int) = 0 from rfl] at hn
  simp only [musterref09_FixCheck.j1, musterref09_FixCheck.j2]
  rw [hn]
  by_cases h : p < 1 ∨ p > 3
  · rw [if_pos h, if_neg (by omega), if_neg (by omega), if_pos (by simp; omega)]; rfl
  · rw [if_neg h]
    by_cases h2 : 200 < s.size
    · rw [if_pos h2, if_pos (show (s.size : Int) > 200 by omega)]
      by_cases h3 : p = 1
      · rw [if_pos h3, if_neg (by decide)]; rfl
      · rw [if_neg h3]
        by_cases h4 : p = 2
        · rw [if_pos h4, if_neg (by decide)]; rfl
        · rw [if_neg h4, if_neg (by simp; omega)]; rfl
    · rw [if_neg h2, if_neg (show ¬ (s.size : Int) > 200 by omega)]
      by_cases h3 : p = 1
      · rw [if_pos h3, if_neg (by decide)]
      · rw [if_neg h3]
        by_cases h4 : p = 2
        · rw [if_pos h4, if_neg (by decide)]
        · rw [if_neg h4, if_neg (by simp; omega)]
theorem refCheck (a b c s : ByteArray) (p u v : Int) (ha : a.size ≤ 1048576) (hb : b.size ≤ 1048576) (hc : c.size ≤ 1048576) (hs : s.size ≤ 1048576) (k : Nat) (hk : a.size + b.size + c.size + s.size + 100 ≤ k) :
    musterref09_FixCheck.f k a b c p s u v = some (checkS a b c p s) := by
  obtain ⟨k, rfl⟩ : ∃ m, k = m + 1 := ⟨k - 1, by omega⟩
  unfold musterref09_FixCheck.f checkS
  simp only [musterref09_FixCheck.j0]
  by_cases hE : c.toList = ([] : List UInt8)
  · obtain rfl := empty_of c hE
    rw [if_pos hE, three a b _ ha hb (by decide) _ (by have : (⟨#[120]⟩ : ByteArray).size = 1 := rfl
                                                       omega)]
    simp only [Option.bind_some]
    rw [if_pos hE, refEnd _ _ _ _ _ _ _ _ _ _ hs _ (by omega)]
    unfold threeS
    rw [lab_x, lab_empty]
    by_cases h : (labelS a).2 = 0 ∧ (labelS b).2 = 0
    · simp [h.1, h.2]
    · rw [if_neg (show ¬ ((labelS a).2 = 0 ∧ (labelS b).2 = 0 ∧ ((⟨#[120]⟩ : ByteArray), (0 : Int)).2 = 0) from fun q => h ⟨q.1, q.2.1⟩), if_neg (show ¬ ((labelS a).2 = 0 ∧ (labelS b).2 = 0 ∧ ((E, (90 : Int)).2 = 0 ∨ True)) from fun q => h ⟨q.1, q.2.1⟩), if_neg (by decide)]
      rfl
  · have hne : c ≠ E := fun h => hE (by rw [h, ByteArray.toList_eq])
    rw [if_neg hE, three a b c ha hb hc _ (by omega)]
    simp only [Option.bind_some]
    rw [if_neg hE, refEnd _ _ _ _ _ _ _ _ _ _ hs _ (by omega)]
    unfold threeS
    by_cases h : (labelS a).2 = 0 ∧ (labelS b).2 = 0 ∧ (labelS c).2 = 0
    · simp [h.1, h.2.1, h.2.2]
    · rw [if_neg h, if_neg (show ¬ ((labelS a).2 = 0 ∧ (labelS b).2 = 0 ∧ ((labelS c).2 = 0 ∨ c = E)) from fun q => h ⟨q.1, q.2.1, q.2.2.resolve_right hne⟩), if_neg (by decide)]
      rfl
def endS (x4 x6 x8 : ByteArray) (x5 x7 x9 p : Int) (s : ByteArray) (odd : Bool) : Chk :=
  let e := firstS [x5, x7, x9, if p < 1 ∨ p > 3 then 94 else 0, if odd = true then 95 else 0]
  if e = 0 then (x4, x6, x8, p, s, 0, 0, 0) else bad e
theorem chkEnd (x4 x6 x8 y0 y1 y2 s : ByteArray) (x5 x7 x9 p y5 y6 : Int) (odd : Bool) (k : Nat) (hk : 10 ≤ k) :
    records_FixCheck.j2 k x4 x5 x6 x7 x8 x9 odd y0 y1 y2 p s y5 y6 = some (endS x4 x6 x8 x5 x7 x9 p s odd) := by
  obtain ⟨k, rfl⟩ : ∃ m, k = m + 1 := ⟨k - 1, by omega⟩
  unfold endS
  simp only [records_FixCheck.j2, records_when.f]
  by_cases h1 : p < 1
  · simp only [h1, if_true, true_or, Option.bind_some]
    cases odd <;> simp only [if_true, Bool.false_eq_true, if_false, Option.bind_some] <;> rw [first _ (by simp) k (by simp; omega)] <;> simp only [Option.bind_some] <;> split <;> simp_all [bad]
  · by_cases h2 : p > 3
    · simp only [h1, h2, if_true, or_true, if_false, decide_true, Option.bind_some]
      cases odd <;> simp only [if_true, Bool.false_eq_true, if_false, Option.bind_some] <;> rw [first _ (by simp) k (by simp; omega)] <;> simp only [Option.bind_some] <;> split <;> simp_all [bad]
    · simp only [h1, h2, if_false, or_self, decide_false, Bool.false_eq_true, Option.bind_some]
      cases odd <;> simp only [if_true, Bool.false_eq_true, if_false, Option.bind_some] <;> rw [first _ (by simp) k (by simp; omega)] <;> simp only [Option.bind_some] <;> split <;> simp_all [bad]
theorem chkNote (x4 x6 x8 y0 y1 y2 s : ByteArray) (x5 x7 x9 p y5 y6 : Int) (hs : s.size ≤ 1048576) (d : Nat) : ∀ (k i : Nat), i ≤ s.size → s.size - i = d → d + 12 ≤ k →
    records_FixCheck.l0 k x4 x5 x6 x7 x8 x9 false i y0 y1 y2 p s y5 y6 = some (endS x4 x6 x8 x5 x7 x9 p s (!noteFrom s d)) := by
  have stop : ∀ (k j : Nat), 12 ≤ k → records_FixCheck.l0 k x4 x5 x6 x7 x8 x9 true j y0 y1 y2 p s y5 y6 = some (endS x4 x6 x8 x5 x7 x9 p s true) := by
    intro k j hk
    obtain ⟨k, rfl⟩ : ∃ m, k = m + 1 := ⟨k - 1, by omega⟩
    simp only [records_FixCheck.l0]
    rw [chkEnd _ _ _ _ _ _ _ _ _ _ _ _ _ _ _ (by omega)]
    simp
  induction d with
  | zero =>
    intro k i hi hd hk
    obtain ⟨k, rfl⟩ : ∃ m, k = m + 1 := ⟨k - 1, by omega⟩
    simp only [records_FixCheck.l0]
    rw [if_neg (by omega), chkEnd _ _ _ _ _ _ _ _ _ _ _ _ _ _ _ (by omega)]
    rfl
  | succ d ih =>
    intro k i hi hd hk
    obtain ⟨k, rfl⟩ : ∃ m, k = m + 1 := ⟨k - 1, by omega⟩
    have hlt : i < s.size := by omega
    have e : s.size - (d + 1) = i := by omega
    have hN : noteFrom s (d + 1) = (decide (32 ≤ byI s i ∧ byI s i ≤ 126) && noteFrom s d) := by rw [noteFrom, e]
    simp only [records_FixCheck.l0]
    rw [if_pos (by omega), if_neg (by decide), if_pos (by omega), bt_byI s i hlt, hN, wrap_succ (by omega) (by omega), show ((i : Int) + 1) = ((i + 1 : Nat) : Int) by omega]
    by_cases h1 : byI s i < 32
    · rw [if_pos h1, stop k _ (by omega)]
      have : decide (32 ≤ byI s i ∧ byI s i ≤ 126) = false := by simp; intro h; omega
      rw [this]; rfl
    · rw [if_neg h1]
      by_cases h2 : byI s i > 126
      · have : decide (32 ≤ byI s i ∧ byI s i ≤ 126) = false := by simp; intro _; omega
        rw [this, decide_eq_true h2, stop k _ (by omega)]; rfl
      · have : decide (32 ≤ byI s i ∧ byI s i ≤ 126) = true := by simp; omega
        rw [this, decide_eq_false h2, Bool.true_and]
        exact ih k (i + 1) (by omega) (by omega) (by omega)
theorem chkLong (x4 x6 x8 y0 y1 y2 s : ByteArray) (x5 x7 x9 p y5 y6 : Int) (k : Nat) (hk : 14 ≤ k) :
    records_FixCheck.l0 k x4 x5 x6 x7 x8 x9 true 0 y0 y1 y2 p s y5 y6 = some (endS x4 x6 x8 x5 x7 x9 p s true) := by
  obtain ⟨k, rfl⟩ : ∃ m, k = m + 1 := ⟨k - 1, by omega⟩
  simp only [records_FixCheck.l0]
  rw [chkEnd _ _ _ _ _ _ _ _ _ _ _ _ _ _ _ (by omega)]
  simp
theorem chkJ (x4 x6 x8 y0 y1 y2 s : ByteArray) (x5 x7 x9 p y5 y6 : Int) (hs : s.size ≤ 1048576) (k : Nat) (hk : s.size + 20 ≤ k) :
    records_FixCheck.j0 k x4 x5 x6 x7 x8 x9 y0 y1 y2 p s y5 y6 = some (endS x4 x6 x8 x5 x7 x9 p s (decide (200 < s.size) || !noteFrom s s.size)) := by
  obtain ⟨k, rfl⟩ : ∃ m, k = m + 1 := ⟨k - 1, by omega⟩
  simp only [records_FixCheck.j0]
  by_cases h : 200 < s.size
  · rw [decide_eq_true (show (s.size : Int) > 200 by omega), chkLong _ _ _ _ _ _ _ _ _ _ _ _ _ _ (by omega), decide_eq_true h, Bool.true_or]
  · have hn := chkNote x4 x6 x8 y0 y1 y2 s x5 x7 x9 p y5 y6 hs s.size k 0 (Nat.zero_le _) (by omega) (by omega)
    rw [show ((0 : Nat) : Int) = 0 from rfl] at hn
    rw [decide_eq_false (show ¬ (s.size : Int) > 200 by omega), hn, decide_eq_false h, Bool.false_or]
theorem endS_eq (a b c s : ByteArray) (p : Int) (c2 : Int) (hc2 : c2 = if c = E then 0 else (labelS c).2) (hc1 : (labelS c).1 = if c = E then E else (labelS c).1) :
    endS (labelS a).1 (labelS b).1 (labelS c).1 (labelS a).2 (labelS b).2 c2 p s (decide (200 < s.size) || !noteFrom s s.size) = checkS a b c p s := by
  unfold endS checkS
  have h3 : ((labelS c).2 = 0 ∨ c = E) ↔ c2 = 0 := by
    rw [hc2]
    by_cases h : c = E
    · simp [h]
    · simp [h]
  by_cases ha : (labelS a).2 = 0
  · by_cases hb : (labelS b).2 = 0
    · by_cases hc : c2 = 0
      · rw [if_pos (show (labelS a).2 = 0 ∧ (labelS b).2 = 0 ∧ ((labelS c).2 = 0 ∨ c = E) from ⟨ha, hb, h3.2 hc⟩)]
        simp only [firstS, ha, hb, hc, if_true]
        by_cases hp : p < 1 ∨ p > 3
        · simp [hp]
        · simp only [hp, if_false, if_true]
          by_cases hl : 200 < s.size
          · simp [hl]
          · simp only [hl, decide_false, Bool.false_or, if_false]
            cases noteFrom s s.size <;> simp
      · have hc' : ¬ ((labelS c).2 = 0 ∨ c = E) := fun h => hc (h3.1 h)
        have hv : c2 = 90 := by
          rw [hc2, if_neg (fun h => hc' (Or.inr h)), lab_bad c (fun h => hc' (Or.inl h))]
        rw [if_neg (show ¬ ((labelS a).2 = 0 ∧ (labelS b).2 = 0 ∧ ((labelS c).2 = 0 ∨ c = E)) from fun q => hc' q.2.2)]
        simp [firstS, ha, hb, hv]
    · rw [if_neg (show ¬ ((labelS a).2 = 0 ∧ (labelS b).2 = 0 ∧ ((labelS c).2 = 0 ∨ c = E)) from fun q => hb q.2.1), lab_bad b hb]
      simp [firstS, ha]
  · rw [if_neg (show ¬ ((labelS a).2 = 0 ∧ (labelS b).2 = 0 ∧ ((labelS c).2 = 0 ∨ c = E)) from fun q => ha q.1), lab_bad a ha]
    simp [firstS]
theorem check (a b c s : ByteArray) (p u v : Int) (ha : a.size ≤ 1048576) (hb : b.size ≤ 1048576) (hc : c.size ≤ 1048576) (hs : s.size ≤ 1048576) (k : Nat) (hk : s.size + 100 ≤ k) :
    records_FixCheck.f k a b c p s u v = some (checkS a b c p s) := by
  unfold records_FixCheck.f
  rw [label a (by omega) k (by omega), label b (by omega) k (by omega), label c (by omega) k (by omega)]
  simp only [Option.bind_some]
  by_cases hE : c.toList = ([] : List UInt8)
  · obtain rfl := empty_of c hE
    rw [if_pos hE, chkJ _ _ _ _ _ _ _ _ _ _ _ _ _ hs k (by omega)]
    exact congrArg some (endS_eq a b E s p 0 (by rw [if_pos rfl]) (by rw [if_pos rfl, lab_empty]))
  · have hne : c ≠ E := fun h => hE (by rw [h, ByteArray.toList_eq])
    rw [if_neg hE, chkJ _ _ _ _ _ _ _ _ _ _ _ _ _ hs k (by omega)]
    exact congrArg some (endS_eq a b c s p _ (by rw [if_neg hne]) (by rw [if_neg hne]))
end Go.Proofs.YtagbpjegdfhmpaaDoor.Q
