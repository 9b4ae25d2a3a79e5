/- What the law of the journal's sums answers. -/
import Derived.Test.YtkhgfdlinobabaaDoorPx1
import Derived.Test.YtkhgfdlinobabaaDoorQSum
import Derived.KernelRfl
namespace Go.Proofs.YtkhgfdlinobabaaDoor.Q
open Go.RowKit Go.Proofs.YtkhgfdlinobabaaDoorW.PrintWords Go.Proofs.YtkhgfdlinobabaaDoorW.PrintLast Go.Proofs.YtkhgfdlinobabaaDoor.G Go.Proofs.YtkhgfdlinobabaaDoor.P

theorem same_loop (L : List Int) (hL : L.length ≤ 2000000) (d : Nat) : ∀ (k i : Nat), i ≤ L.length → L.length - i = d → d < k → musterref13_Same.l0 k L L (L.length : Int) i = some true := by
  induction d with
  | zero =>
    intro k i hi hd hk
    obtain ⟨k, rfl⟩ : ∃ m, k = m + 1 := ⟨k - 1, by omega⟩
    rw [musterref13_Same.l0, if_neg (by omega)]
  | succ d ih =>
    intro k i hi hd hk
    obtain ⟨k, rfl⟩ : ∃ m, k = m + 1 := ⟨k - 1, by omega⟩
    rw [musterref13_Same.l0, if_pos (by omega), if_pos (by omega), if_pos (by omega), if_pos (by omega), if_pos rfl, low_wrap (by omega) (by omega), show ((i : Int) + 1) = ((i + 1 : Nat) : Int) by omega, ih k (i + 1) (by omega) (by omega) (by omega)]
theorem same (L : List Int) (hL : L.length ≤ 2000000) (k : Nat) (hk : L.length < k) : musterref13_Same.f k L L = some true := by
  unfold musterref13_Same.f
  rw [if_pos rfl]
  exact same_loop L hL L.length k 0 (Nat.zero_le _) (by omega) hk
theorem nums_set (l : List Nat) (i d : Nat) : (nums l).set i (d : Int) = nums (l.set i d) := by simp [nums, List.map_set]
theorem xor_ne {c m : Nat} (h : m ≠ 0) : c ≠ c ^^^ m := fun e => by
  have : c ^^^ 0 = c ^^^ m := by rw [Nat.xor_zero]; exact e
  exact h (xor_inj_right this).symm
theorem sums_j0 (l : List Nat) (hl : ∀ c ∈ l, c < 256) (hn : l.length ≤ 1048576) (at_ : Int) (m : Nat) (hm : m < 256) (k : Nat) (hk : 10 * l.length + 10 ≤ k) :
    musterlaw13_JournalSums.j0 k (nums l) at_ (m : Int) (nums l) (sumS l : Int) false = some true := by
  obtain ⟨k, rfl⟩ : ∃ q, k = q + 1 := ⟨k - 1, by omega⟩
  have hlen : (nums l).length = l.length := by simp
  rw [musterlaw13_JournalSums.j0, if_neg (by decide)]
  by_cases h1 : at_ < 0
  · rw [if_pos h1]
  · rw [if_neg h1]
    by_cases h2 : at_ ≥ ((nums l).length : Int)
    · rw [if_pos h2]
    · rw [if_neg h2]
      by_cases h3 : (m : Int) = 0
      · rw [if_pos h3]
      · obtain ⟨i, rfl⟩ : ∃ i : Nat, at_ = (i : Int) := ⟨at_.toNat, by omega⟩
        have hi : i < l.length := by omega
        have hc := hl _ (List.getElem_mem hi)
        have hx : l[i] ^^^ m < 256 := Nat.xor_lt_two_pow (n := 8) (by omega) (by omega)
        rw [if_neg h3, if_pos (by omega), if_pos (by omega), rd_nums l i hi, xor8 _ _ hc hm, Int.toNat_natCast, nums_set]
        have hl2 : ∀ c ∈ l.set i (l[i] ^^^ m), c < 256 := fun c hc' => by
          rcases List.mem_or_eq_of_mem_set hc' with h | h
          · exact hl c h
          · omega
        rw [sum _ hl2 (by simp; omega) k (by simp; omega)]
        have hne := sumS_set l hl i (l[i] ^^^ m) hx hi (xor_ne (by omega))
        simp only [Option.bind_some]
        congr 1
        rw [bne_iff_ne]
        intro e
        exact hne (by omega)
theorem sums (l : List Nat) (hl : ∀ c ∈ l, c < 256) (hn : l.length ≤ 1048576) (at_ : Int) (m : Nat) (hm : m < 256) : ∃ k, musterlaw13_JournalSums.f k (nums l) at_ (m : Int) = some true := by
  refine ⟨10 * l.length + 100, ?_⟩
  have hlen : (nums l).length = l.length := by simp
  unfold musterlaw13_JournalSums.f musterlaw13_journalFixed.f
  simp only [Option.bind_some]
  rw [if_pos trivial, if_pos (by simp; omega)]
  simp only [List.nil_append]
  rw [sum l hl (by omega) _ (by omega), refsum l hl (by omega) _ (by omega)]
  simp only [Option.bind_some]
  rw [if_pos trivial, same _ (by omega) _ (by omega)]
  simp only [Option.bind_some, Bool.not_true]
  exact sums_j0 l hl hn at_ m hm _ (by omega)
end Go.Proofs.YtkhgfdlinobabaaDoor.Q
