/- What bytes write: one-to-one. -/
import Derived.Test.YtkhgfdlinobabaaGreatDoorJDec
namespace Go.Proofs.YtkhgfdlinobabaaGreatDoor.G
open Go.RowKit
set_option linter.unusedVariables false
set_option linter.unusedSimpArgs false
theorem numB_acc : ∀ (l : List UInt8) (a : Nat), l.foldl (fun n c => n * 256 + c.toNat) a = a * 256 ^ l.length + numB l
  | [], a => by simp [numB]
  | c :: l, a => by
    have h1 := numB_acc l (a * 256 + c.toNat)
    have h2 := numB_acc l (0 * 256 + c.toNat)
    have h3 : numB (c :: l) = l.foldl (fun n c => n * 256 + c.toNat) (0 * 256 + c.toNat) := rfl
    rw [List.foldl_cons, h1, h3, h2, List.length_cons, Nat.pow_succ, Nat.add_mul, Nat.zero_mul, Nat.zero_add, Nat.mul_comm (256 ^ l.length) 256, ← Nat.mul_assoc, Nat.add_assoc]
theorem numB_cons (c : UInt8) (l : List UInt8) : numB (c :: l) = c.toNat * 256 ^ l.length + numB l := by
  have h3 : numB (c :: l) = l.foldl (fun n c => n * 256 + c.toNat) (0 * 256 + c.toNat) := rfl
  rw [h3, numB_acc, Nat.zero_mul, Nat.zero_add]
theorem numB_inj : ∀ (l l' : List UInt8), l.length = l'.length → numB l = numB l' → l = l'
  | [], [], _, _ => rfl
  | [], _ :: _, h, _ => by simp at h
  | _ :: _, [], h, _ => by simp at h
  | c :: l, d :: l', h, e => by
    have hl : l.length = l'.length := by simpa using h
    rw [numB_cons, numB_cons, ← hl] at e
    have h1 := numB_lt l
    have h2 := numB_lt l'
    rw [← hl] at h2
    have hp : 0 < 256 ^ l.length := Nat.lt_of_le_of_lt (Nat.zero_le _) h1
    have e1 : c.toNat = d.toNat := by
      have a1 : (c.toNat * 256 ^ l.length + numB l) / 256 ^ l.length = c.toNat := by rw [Nat.mul_comm, Nat.mul_add_div hp, Nat.div_eq_of_lt h1, Nat.add_zero]
      have a2 : (d.toNat * 256 ^ l.length + numB l') / 256 ^ l.length = d.toNat := by rw [Nat.mul_comm, Nat.mul_add_div hp, Nat.div_eq_of_lt h2, Nat.add_zero]
      rw [← a1, ← a2, e]
    have e2 : numB l = numB l' := by rw [e1] at e; omega
    rw [UInt8.toNat_inj.1 e1, numB_inj l l' hl e2]
theorem numB_big (n : Nat) : ∀ s, numB (bigB n s) = n % 256 ^ s
  | 0 => by simp [bigB, numB, Nat.mod_one]
  | s + 1 => by
    have hv : (UInt8.ofNat (n / 256 ^ s % 256)).toNat = n / 256 ^ s % 256 := by
      rw [UInt8.toNat_ofNat']; exact Nat.mod_mod _ _
    rw [bigB, numB_cons, hv, bigB_len, numB_big n s, Nat.pow_succ, Nat.mod_mul]
    rw [Nat.mul_comm (n / 256 ^ s % 256)]
    omega
theorem set_ne {l : List UInt8} {i : Nat} (h : i < l.length) {x : UInt8} (hne : l[i] ≠ x) : l.set i x ≠ l := fun e => by
  have : (l.set i x)[i]? = l[i]? := by rw [e]
  rw [List.getElem?_set_self h, List.getElem?_eq_getElem h] at this
  exact hne (Option.some.inj this).symm
theorem sumB_set (l : List UInt8) (i : Nat) (x : UInt8) (h : i < l.length) (hne : l[i] ≠ x) : sumB (l.set i x) ≠ sumB l := by
  have hm : nums (l.set i x) = (nums l).set i x.toNat := by simp [nums, List.map_set]
  have hi : i < (nums l).length := by simpa [nums] using h
  have hn : (nums l)[i] ≠ x.toNat := by
    simp only [nums, List.getElem_map]
    exact fun e => hne (UInt8.toNat_inj.1 e)
  unfold sumB
  rw [hm]
  exact sumS_set _ (nums_lt l) i _ x.toNat_lt hi hn
/-- A frame of which one byte was changed, but for the four of the length. -/
theorem frame_bad (P : List UInt8) (hn : P.length < 4294967296) (at_ : Nat) (x : UInt8) (l : List UInt8) (hl : l = (((([77] : List UInt8) ++ bigB P.length 4) ++ P) ++ bigB (sumB P) 4)) (h : at_ < l.length) (hne : l[at_] ≠ x) (h4 : ¬ (1 ≤ at_ ∧ at_ ≤ 4)) :
    (l.set at_ x ≠ [] ∧ ((l.set at_ x).getD 0 0).toNat ≠ 77) ∨ (∃ L R M, (l.set at_ x).drop 1 = L ∧ L.drop 4 = R ∧ numB (L.take 4) = M ∧ 5 ≤ (l.set at_ x).length ∧ ((l.set at_ x).getD 0 0).toNat = 77 ∧ (131072 < M ∨ (M ≤ 131072 ∧ M + 9 ≤ (l.set at_ x).length ∧ numB ((R.drop M).take 4) ≠ sumB (R.take M)))) := by
  have hY : sumB P < 4294967296 := by have := sumS_lt (nums P) (nums_lt _); unfold sumB; omega
  have hS : numB (bigB (sumB P) 4) = sumB P := by rw [numB_big]; exact Nat.mod_eq_of_lt (by omega)
  have hB : numB (bigB P.length 4) = P.length := by rw [numB_big]; exact Nat.mod_eq_of_lt (by omega)
  have hSl : (bigB (sumB P) 4).length = 4 := bigB_len _ _
  have hBl : (bigB P.length 4).length = 4 := bigB_len _ _
  generalize bigB (sumB P) 4 = S at hl hS hSl
  generalize bigB P.length 4 = B at hl hB hBl
  have hll : l.length = P.length + 9 := by rw [hl]; simp; omega
  by_cases h0 : at_ = 0
  · subst h0
    left
    have hl0 : l = 77 :: (B ++ P ++ S) := by rw [hl]; simp
    subst hl0
    refine ⟨by simp, ?_⟩
    have h1 : (77 : UInt8) ≠ x := by simpa using hne
    simp only [List.set_cons_zero, List.getD_cons_zero]
    exact fun e => h1 (UInt8.toNat_inj.1 (by rw [e]; rfl))
  · right
    obtain ⟨i, rfl⟩ : ∃ i, at_ = i + 5 := ⟨at_ - 5, by omega⟩
    have hl5 : l = (77 :: B) ++ (P ++ S) := by rw [hl]; simp
    have h5 : (77 :: B).length = 5 := by simp [hBl]
    have hset : l.set (i + 5) x = 77 :: (B ++ (P ++ S).set i x) := by
      rw [hl5, List.set_append_right _ _ (by omega), h5]; simp
    have hget : l[i + 5] = (P ++ S)[i]'(by rw [hll] at h; simp [hSl]; omega) := by
      subst hl5
      rw [List.getElem_append_right (by omega)]
      simp [hBl]
    rw [hget] at hne
    have hlen : (l.set (i + 5) x).length = P.length + 9 := by rw [List.length_set, hll]
    refine ⟨B ++ (P ++ S).set i x, (P ++ S).set i x, P.length, by rw [hset]; rfl, ?_, ?_, by omega, by rw [hset]; rfl, ?_⟩
    · rw [List.drop_append, hBl]; simp [hBl]
    · rw [List.take_append, hBl]; simp [hBl]; rw [List.take_of_length_le (by omega)]; exact hB
    by_cases hm : 131072 < P.length
    · exact .inl hm
    · refine .inr ⟨by omega, by omega, ?_⟩
      by_cases hi : i < P.length
      · have e : (P ++ S).set i x = P.set i x ++ S := by rw [List.set_append_left _ _ hi]
        rw [List.getElem_append_left hi] at hne
        have e1 : (P.set i x ++ S).drop P.length = S := by rw [List.drop_append, List.length_set]; simp
        have e2 : (P.set i x ++ S).take P.length = P.set i x := by rw [List.take_append, List.length_set]; simp; exact List.take_of_length_le (by rw [List.length_set]; omega)
        rw [e, e1, e2, List.take_of_length_le (by omega), hS]
        exact fun e => sumB_set P i x hi hne e.symm
      · have hi2 : i - P.length < S.length := by rw [hll] at h; omega
        have e : (P ++ S).set i x = P ++ S.set (i - P.length) x := by rw [List.set_append_right _ _ (by omega)]
        rw [List.getElem_append_right (by omega)] at hne
        have e1 : (P ++ S.set (i - P.length) x).drop P.length = S.set (i - P.length) x := by rw [List.drop_append]; simp
        have e2 : (P ++ S.set (i - P.length) x).take P.length = P := by rw [List.take_append]; simp
        rw [e, e1, e2, List.take_of_length_le (by rw [List.length_set]; omega), ← hS]
        exact fun e => set_ne hi2 hne (numB_inj _ _ (by rw [List.length_set]) e)
theorem decode_bad (v : Value) (l : List UInt8) (hl : l.length ≤ 4000000000) (w : World) (hb : BytesAt w v l)
    (h : (l ≠ [] ∧ (l.getD 0 0).toNat ≠ 77) ∨ (∃ L R M, l.drop 1 = L ∧ L.drop 4 = R ∧ numB (L.take 4) = M ∧ 5 ≤ l.length ∧ (l.getD 0 0).toNat = 77 ∧ (131072 < M ∨ (M ≤ 131072 ∧ M + 9 ≤ l.length ∧ numB ((R.drop M).take 4) ≠ sumB (R.take M))))) :
    Calls Tryz.prog 19 #[v] w fun e w' => e = .returned (.tuple #[.agg #[.int .u64 0, .slice none 0 0], .int .i64 0, .int .i64 132]) ∧ Below w.heap.size w w' := by
  rcases h with ⟨h1, h2⟩ | ⟨L, R, M, h1, h2, h3, h4, h5, h6⟩
  · exact decode_magic v l h1 h2 (by omega) w hb
  · exact decode_rest v l L R M h1 h2 h3 h4 h5 hl w hb h6
end Go.Proofs.YtkhgfdlinobabaaGreatDoor.G
