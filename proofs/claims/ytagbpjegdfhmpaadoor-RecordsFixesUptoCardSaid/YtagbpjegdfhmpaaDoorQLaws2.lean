/- What the law of the normal forms answers, for records whose texts and tags are of bulk at most 1048576. -/
import Derived.Test.YtagbpjegdfhmpaaDoorPx12
import Derived.Test.YtagbpjegdfhmpaaDoorQLaws1
import Derived.Test.YtagbpjegdfhmpaaDoorQFix
namespace Go.Proofs.YtagbpjegdfhmpaaDoor.Q
open Go.RowKit Go.Proofs.YtagbpjegdfhmpaaDoorW.PrintWords Go.Proofs.YtagbpjegdfhmpaaDoorW.PrintLast Go.Proofs.YtagbpjegdfhmpaaDoor.G Go.Proofs.YtagbpjegdfhmpaaDoor.P

theorem same_loop (L : List ByteArray) (hL : L.length ≤ 2000000) (d : Nat) : ∀ (k i : Nat), i ≤ L.length → L.length - i = d → d < k → musterref07_SameTexts.l0 k L L i = some true := by
  induction d with
  | zero =>
    intro k i hi hd hk
    obtain ⟨k, rfl⟩ : ∃ m, k = m + 1 := ⟨k - 1, by omega⟩
    simp only [musterref07_SameTexts.l0]
    rw [if_neg (by omega)]
  | succ d ih =>
    intro k i hi hd hk
    obtain ⟨k, rfl⟩ : ∃ m, k = m + 1 := ⟨k - 1, by omega⟩
    simp only [musterref07_SameTexts.l0]
    rw [if_pos (by omega), if_pos (by omega), if_pos (by omega), if_pos trivial, wrap_succ (by omega) (by omega), show ((i : Int) + 1) = ((i + 1 : Nat) : Int) by omega, ih k (i + 1) (by omega) (by omega) (by omega)]
theorem same (L : List ByteArray) (hL : L.length ≤ 2000000) (k : Nat) (hk : L.length < k) : musterref07_SameTexts.f k L L = some true := by
  unfold musterref07_SameTexts.f
  rw [if_pos rfl]
  exact same_loop L hL L.length k 0 (Nat.zero_le _) (by omega) hk
theorem sameService (a b c : ByteArray) (p : Int) (L : List ByteArray) (u v : Int) (hL : L.length ≤ 2000000) (k : Nat) (hk : L.length < k) : musterref09_SameService.f k a b c p L u v a b c p L u v = some true := by
  unfold musterref09_SameService.f
  rw [if_pos rfl, if_pos rfl, if_pos rfl, if_pos rfl, same L hL k hk]
  simp
theorem fold_len : ∀ (L o : List (List UInt8)), (L.foldl (fun o x => insU x o) o).length ≤ o.length + L.length
  | [], o => by simp
  | x :: L, o => by
    have h1 := fold_len L (insU x o)
    have h2 : (insU x o).length ≤ o.length + 1 := by
      have := insB_len (toB x) (o.map toB)
      have e := congrArg List.length (insB_key (toB x) (o.map toB))
      rw [map_key_toB, key_toB, List.length_map] at e
      rw [← e]; simpa using this
    simp only [List.foldl_cons, List.length_cons]; omega
theorem labs_len : ∀ (L l : List ByteArray), labs L = some l → l.length = L.length
  | [], l, h => by simp [labs] at h; subst h; rfl
  | t :: L, l, h => by
    unfold labs at h
    split at h
    · cases hl : labs L with
      | none => simp [hl] at h
      | some m => simp [hl] at h; subst h; simp [labs_len L m hl]
    · simp at h
theorem tags_len (L : List ByteArray) : (tagsS L).1.length ≤ 16 := by
  unfold tagsS
  split
  · simp
  · split
    · simp
    · rename_i h1 l h2
      have := labs_len L l h2
      have := fold_len (l.map key) []
      simp at this ⊢; omega
theorem service_len (a b c : ByteArray) (p : Int) (L : List ByteArray) : (serviceS a b c p L).2.2.2.2.1.length ≤ 16 := by
  unfold serviceS
  have := tags_len L
  split
  · split
    · simp
    · split
      · exact this
      · simp
  · simp
section
variable (a b c : ByteArray) (p : Int) (L : List ByteArray) (u v : Int) (e f g : ByteArray) (q : Int) (s : ByteArray) (u' v' : Int)
variable (hL : L.length ≤ 1048576) (he : e.size ≤ 1048576) (hf : f.size ≤ 1048576) (hg : g.size ≤ 1048576) (hs : s.size ≤ 1048576)
include hL he hf hg hs
theorem law_l1 (g1 g2 g3 : ByteArray) (g4 g6 g7 : Int) (d : Nat) : ∀ (k i : Nat) (T : List ByteArray), i ≤ 17 → 17 - i = d → T.length + d ≤ 1000 → 3000000 + d ≤ k →
    musterlaw09_RecordsFixes.l1 k (checkS e f g q s).2.2.2.2.2.2.2 i a b c p L u v e f g q s u' v' a b c p L u v (checkS e f g q s).1 (checkS e f g q s).2.1 (checkS e f g q s).2.2.1 (checkS e f g q s).2.2.2.1 (checkS e f g q s).2.2.2.2.1 (checkS e f g q s).2.2.2.2.2.1 (checkS e f g q s).2.2.2.2.2.2.1 g1 g2 g3 g4 T g6 g7 = some true := by
  induction d with
  | zero =>
    intro k i T hi hd hT hk
    obtain ⟨k, rfl⟩ : ∃ m, k = m + 1 := ⟨k - 1, by omega⟩
    simp only [musterlaw09_RecordsFixes.l1]
    rw [if_neg (by omega), sameService a b c p L u v (by omega) k (by omega)]
    simp only [Option.bind_some]
    rw [if_pos trivial, check e f g s q u' v' he hf hg hs k (by omega)]
    simp
  | succ d ih =>
    intro k i T hi hd hT hk
    obtain ⟨k, rfl⟩ : ∃ m, k = m + 1 := ⟨k - 1, by omega⟩
    simp only [musterlaw09_RecordsFixes.l1]
    rw [if_pos (by omega), if_pos (by omega), wrap_succ (by omega) (by omega), show ((i : Int) + 1) = ((i + 1 : Nat) : Int) by omega]
    exact ih k (i + 1) _ (by omega) (by omega) (by simp; omega) (by omega)
theorem law_l0 (g1 g2 g3 : ByteArray) (g4 g6 g7 : Int) (n d : Nat) : ∀ (k i : Nat) (T : List ByteArray), i ≤ n → n - i = d → T.length = n → n ≤ 900 → 3000100 + d ≤ k →
    musterlaw09_RecordsFixes.l0 k (checkS e f g q s).2.2.2.2.2.2.2 n i a b c p L u v e f g q s u' v' a b c p L u v (checkS e f g q s).1 (checkS e f g q s).2.1 (checkS e f g q s).2.2.1 (checkS e f g q s).2.2.2.1 (checkS e f g q s).2.2.2.2.1 (checkS e f g q s).2.2.2.2.2.1 (checkS e f g q s).2.2.2.2.2.2.1 g1 g2 g3 g4 T g6 g7 = some true := by
  induction d with
  | zero =>
    intro k i T hi hd hT hn hk
    obtain ⟨k, rfl⟩ : ∃ m, k = m + 1 := ⟨k - 1, by omega⟩
    have h := law_l1 a b c p L u v e f g q s u' v' hL he hf hg hs g1 g2 g3 g4 g6 g7 17 k 0 T (by omega) (by omega) (by omega) (by omega)
    rw [show ((0 : Nat) : Int) = 0 from rfl] at h
    simp only [musterlaw09_RecordsFixes.l0]
    rw [if_neg (by omega)]
    exact h
  | succ d ih =>
    intro k i T hi hd hT hn hk
    obtain ⟨k, rfl⟩ : ∃ m, k = m + 1 := ⟨k - 1, by omega⟩
    simp only [musterlaw09_RecordsFixes.l0]
    rw [if_pos (by omega), if_pos (by omega), if_pos (by omega), wrap_succ (by omega) (by omega), show ((i : Int) + 1) = ((i + 1 : Nat) : Int) by omega]
    exact ih k (i + 1) _ (by omega) (by omega) (by simp; omega) hn (by omega)
theorem law_j0 (ha : a.size ≤ 1048576) (hb : b.size ≤ 1048576) (hc : c.size ≤ 1048576) (ht : ∀ t ∈ L, t.size ≤ 1048576) (k : Nat) (hk : 4000000 ≤ k) :
    musterlaw09_RecordsFixes.j0 k (serviceS a b c p L).2.2.2.2.2.2.2 (checkS e f g q s).2.2.2.2.2.2.2 false a b c p L u v e f g q s u' v' a b c p L u v (serviceS a b c p L).1 (serviceS a b c p L).2.1 (serviceS a b c p L).2.2.1 (serviceS a b c p L).2.2.2.1 (serviceS a b c p L).2.2.2.2.1 (serviceS a b c p L).2.2.2.2.2.1 (serviceS a b c p L).2.2.2.2.2.2.1
      (checkS e f g q s).1 (checkS e f g q s).2.1 (checkS e f g q s).2.2.1 (checkS e f g q s).2.2.2.1 (checkS e f g q s).2.2.2.2.1 (checkS e f g q s).2.2.2.2.2.1 (checkS e f g q s).2.2.2.2.2.2.1 = some true := by
  obtain ⟨k, rfl⟩ : ∃ m, k = m + 2 := ⟨k - 2, by omega⟩
  have hl := service_len a b c p L
  have h := law_l0 a b c p L u v e f g q s u' v' hL he hf hg hs (serviceS a b c p L).1 (serviceS a b c p L).2.1 (serviceS a b c p L).2.2.1 (serviceS a b c p L).2.2.2.1 (serviceS a b c p L).2.2.2.2.2.1 (serviceS a b c p L).2.2.2.2.2.2.1 (serviceS a b c p L).2.2.2.2.1.length (serviceS a b c p L).2.2.2.2.1.length k 0 (serviceS a b c p L).2.2.2.2.1 (by omega) (by omega) rfl (by omega) (by omega)
  rw [show ((0 : Nat) : Int) = 0 from rfl] at h
  simp only [musterlaw09_RecordsFixes.j0]
  rw [if_neg (by decide), service a b c p L u v ha hb hc ht _ (by omega)]
  simp only [Option.bind_some]
  rw [sameService _ _ _ _ _ _ _ (by omega) _ (by omega)]
  simp only [Option.bind_some]
  rw [if_pos trivial, if_pos trivial, sameService a b c p L u v (by omega) _ (by omega)]
  simp only [Option.bind_some, Bool.not_true, musterlaw09_RecordsFixes.j1]
  rw [if_neg (by decide)]
  exact h
theorem fixes (n x : ByteArray) (y z : Int) (hn : n.size ≤ 1048576) (hx : x.size ≤ 1048576) (ha : a.size ≤ 1048576) (hb : b.size ≤ 1048576) (hc : c.size ≤ 1048576) (ht : ∀ t ∈ L, t.size ≤ 1048576) :
    ∃ k, musterlaw09_RecordsFixes.f k n x y z a b c p L u v e f g q s u' v' = some true := by
  suffices h : ∀ k, 9000000 ≤ k → musterlaw09_RecordsFixes.f k n x y z a b c p L u v e f g q s u' v' = some true from ⟨9000000, h _ (Nat.le_refl _)⟩
  intro k hk
  unfold musterlaw09_RecordsFixes.f
  rw [fixed k (by omega)]
  simp only [Option.bind_some]
  rw [if_pos trivial]
  unfold musterref09_CopyService.f
  simp only [Option.bind_some]
  rw [if_pos (by simp; omega), refNode n x y z hn hx k (by omega), refService a b c p L u v ha hb hc 1048576 ht (by omega) k (by omega), refCheck e f g s q u' v' he hf hg hs k (by omega), node n x y z hn hx k (by omega)]
  simp only [Option.bind_some, List.nil_append]
  rw [if_neg (by simp), show ((nodeS n x).2.2.2.2 != (nodeS n x).2.2.2.2) = false by simp]
  exact law_j0 a b c p L u v e f g q s u' v' hL he hf hg hs ha hb hc ht k (by omega)
end
end Go.Proofs.YtagbpjegdfhmpaaDoor.Q
