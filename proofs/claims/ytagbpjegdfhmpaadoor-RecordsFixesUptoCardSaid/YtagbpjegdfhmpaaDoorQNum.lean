/- A number from 0 to 255 in its plain form: the plain reading and the library's agree. -/
import Derived.Test.YtagbpjegdfhmpaaDoorQSplit
namespace Go.Proofs.YtagbpjegdfhmpaaDoor.Q
open Go.RowKit Go.Proofs.YtagbpjegdfhmpaaDoorW.PrintWords Go.Proofs.YtagbpjegdfhmpaaDoorW.PrintLast Go.Proofs.YtagbpjegdfhmpaaDoor.G Go.Proofs.YtagbpjegdfhmpaaDoor.P

def dg (c : UInt8) : Bool := decide (48 ≤ c.toNat ∧ c.toNat ≤ 57)
/-- What a list of digits without noughts ahead writes, up to 255. -/
def num (l : List UInt8) : Option Nat :=
  match l with
  | [a] => if dg a then some (a.toNat - 48) else none
  | [a, b] => if dg a && dg b && a.toNat != 48 then some (10 * (a.toNat - 48) + (b.toNat - 48)) else none
  | [a, b, c] => if dg a && dg b && dg c && a.toNat != 48 && decide (100 * (a.toNat - 48) + 10 * (b.toNat - 48) + (c.toNat - 48) ≤ 255) then some (100 * (a.toNat - 48) + 10 * (b.toNat - 48) + (c.toNat - 48)) else none
  | _ => none
theorem u8_of {c : UInt8} {n : Nat} (h : c.toNat = n) : c = UInt8.ofNat n := by rw [← h]; simp
theorem dec1 (v : Nat) (h : v < 10) : Lib.decDigits v = [UInt8.ofNat (48 + v)] := by rw [Lib.decDigits, dif_pos h]
theorem dec2 (v : Nat) (h0 : 10 ≤ v) (h : v < 100) : Lib.decDigits v = [UInt8.ofNat (48 + v / 10), UInt8.ofNat (48 + v % 10)] := by
  rw [Lib.decDigits, dif_neg (by omega), dec1 _ (by omega)]; rfl
theorem dec3 (v : Nat) (h0 : 100 ≤ v) (h : v < 1000) : Lib.decDigits v = [UInt8.ofNat (48 + v / 10 / 10), UInt8.ofNat (48 + v / 10 % 10), UInt8.ofNat (48 + v % 10)] := by
  rw [Lib.decDigits, dif_neg (by omega), dec2 _ (by omega) (by omega)]; rfl
theorem ofNat_toNat {n : Nat} (h : n < 256) : (UInt8.ofNat n).toNat = n := by simp [UInt8.toNat_ofNat']; omega
theorem num_dec (v : Nat) (h : v ≤ 255) : num (Lib.decDigits v) = some v := by
  by_cases h1 : v < 10
  · rw [dec1 v h1]
    simp only [num, dg, ofNat_toNat (show 48 + v < 256 by omega)]
    rw [if_pos (by simp; omega)]
    congr 1; omega
  · by_cases h2 : v < 100
    · rw [dec2 v (by omega) h2]
      simp only [num, dg, ofNat_toNat (show 48 + v / 10 < 256 by omega), ofNat_toNat (show 48 + v % 10 < 256 by omega)]
      rw [if_pos (by simp; omega)]
      congr 1; omega
    · rw [dec3 v (by omega) (by omega)]
      simp only [num, dg, ofNat_toNat (show 48 + v / 10 / 10 < 256 by omega), ofNat_toNat (show 48 + v / 10 % 10 < 256 by omega), ofNat_toNat (show 48 + v % 10 < 256 by omega)]
      rw [if_pos (by simp; omega)]
      congr 1; omega
theorem dg_iff {c : UInt8} : dg c = true ↔ 48 ≤ c.toNat ∧ c.toNat ≤ 57 := by simp [dg]
theorem num_atoi {l : List UInt8} {v : Nat} (h : num l = some v) : v ≤ 255 ∧ Lib.atoiAll l = .ok (v : Int) ∧ Lib.decDigits v = l := by
  match l, h with
  | [a], h =>
    simp only [num] at h
    split at h
    · rename_i ha
      have ha := dg_iff.1 ha
      injection h with h
      refine ⟨by omega, ?_, ?_⟩
      · have hz : ¬ (a.toNat = 43 ∨ a.toNat = 45) := by omega
        simp only [Lib.atoiAll, Lib.parseMag, if_neg hz]
        rw [if_neg (by simp)]
        simp only [Lib.parseUint10]
        rw [if_pos ha, if_neg (by omega), if_neg (by omega)]
        simp only
        rw [if_neg (by omega), if_neg (by omega), if_neg (by omega)]
        congr 2; omega
      · rw [dec1 v (by omega), show 48 + v = a.toNat by omega]; simp
    · cases h
  | [a, b], h =>
    simp only [num] at h
    split at h
    · rename_i hc
      simp only [Bool.and_eq_true, dg_iff, bne_iff_ne] at hc
      injection h with h
      refine ⟨by omega, ?_, ?_⟩
      · have hz : ¬ (a.toNat = 43 ∨ a.toNat = 45) := by omega
        simp only [Lib.atoiAll, Lib.parseMag, if_neg hz]
        rw [if_neg (by simp)]
        simp only [Lib.parseUint10]
        rw [if_pos hc.1.1, if_neg (by omega), if_neg (by omega), if_pos hc.1.2, if_neg (by omega), if_neg (by omega)]
        simp only
        rw [if_neg (by omega), if_neg (by omega), if_neg (by omega)]
        congr 2; omega
      · rw [dec2 v (by omega) (by omega), show 48 + v / 10 = a.toNat by omega, show 48 + v % 10 = b.toNat by omega]; simp
    · cases h
  | [a, b, c], h =>
    simp only [num] at h
    split at h
    · rename_i hc
      simp only [Bool.and_eq_true, dg_iff, bne_iff_ne, decide_eq_true_eq] at hc
      injection h with h
      refine ⟨by omega, ?_, ?_⟩
      · have hz : ¬ (a.toNat = 43 ∨ a.toNat = 45) := by omega
        simp only [Lib.atoiAll, Lib.parseMag, if_neg hz]
        rw [if_neg (by simp)]
        simp only [Lib.parseUint10]
        rw [if_pos hc.1.1.1.1, if_neg (by omega), if_neg (by omega), if_pos hc.1.1.1.2, if_neg (by omega), if_neg (by omega), if_pos hc.1.1.2, if_neg (by omega), if_neg (by omega)]
        simp only
        rw [if_neg (by omega), if_neg (by omega), if_neg (by omega)]
        congr 2; omega
      · rw [dec3 v (by omega) (by omega), show 48 + v / 10 / 10 = a.toNat by omega, show 48 + v / 10 % 10 = b.toNat by omega, show 48 + v % 10 = c.toNat by omega]; simp
    · cases h
theorem decB_num (t : ByteArray) : decB t = (num t.data.toList).map fun n => (n : Int) := by
  cases hn : num t.data.toList with
  | some v =>
    obtain ⟨h1, h2, h3⟩ := num_atoi hn
    unfold decB
    rw [h2]
    simp only
    rw [if_pos (by omega), if_pos (by omega), if_pos]
    · rfl
    · unfold Lib.itoa
      rw [if_neg (by omega), Int.toNat_natCast, h3]
  | none =>
    cases hd : decB t with
    | none => rfl
    | some v =>
      unfold decB at hd
      split at hd
      · split at hd
        · split at hd
          · split at hd
            · rename_i u _ h0 h1 h2
              unfold Lib.itoa at h2
              rw [if_neg (by omega)] at h2
              rw [← h2, num_dec _ (by omega)] at hn
              cases hn
            · cases hd
          · cases hd
        · cases hd
      · cases hd
end Go.Proofs.YtagbpjegdfhmpaaDoor.Q
namespace Go.Proofs.YtagbpjegdfhmpaaDoor.Q
open Go.RowKit Go.Proofs.YtagbpjegdfhmpaaDoorW.PrintWords Go.Proofs.YtagbpjegdfhmpaaDoorW.PrintLast Go.Proofs.YtagbpjegdfhmpaaDoor.G Go.Proofs.YtagbpjegdfhmpaaDoor.P
theorem wrap_small {i : Int} (h0 : 0 ≤ i) (h : i ≤ 9223372036854775807) : wrap64 i = i := by
  unfold wrap64
  omega
theorem number_step (k : Nat) (t : ByteArray) (ht : t.size ≤ 1048576) (n i : Nat) (c : UInt8) (hi : t.data.toList[i]? = some c) (hn : n ≤ 255) :
    musterref09_Number.l0 (k + 2) t 255 n i = if dg c = true then (if 10 * n + (c.toNat - 48) > 255 then some (-1) else musterref09_Number.l0 k t 255 ((10 * n + (c.toNat - 48) : Nat) : Int) ((i + 1 : Nat) : Int)) else some (-1) := by
  have hlt : i < t.size := by have := (List.getElem?_eq_some_iff.1 hi).1; simpa using this
  have hb : bt t i = (c.toNat : Int) := by rw [bt_nat t i hlt]; simp [List.getD, hi]
  have hc := c.toNat_lt
  simp only [musterref09_Number.l0]
  rw [if_pos (by omega), if_pos (by omega), hb]
  by_cases h1 : dg c = true
  · have h1' := dg_iff.1 h1
    rw [if_pos h1, if_neg (by omega)]
    simp only [musterref09_Number.j2]
    rw [if_neg (by simp; omega), if_pos (by omega), if_pos (by omega), hb]
    have e1 : wrap64 (10 * (n : Int)) = 10 * n := wrap_small (by omega) (by omega)
    have e2 : ((c.toNat : Int) - 48) % 256 = ((c.toNat - 48 : Nat) : Int) := by omega
    have e3 : wrap64 (10 * (n : Int) + ((c.toNat - 48 : Nat) : Int)) = ((10 * n + (c.toNat - 48) : Nat) : Int) := by rw [wrap_small (by omega) (by omega)]; omega
    rw [e1, e2, e3, wrap_succ (by omega) (by omega)]
    by_cases h2 : 10 * n + (c.toNat - 48) > 255
    · rw [if_pos (by omega), if_pos h2]
    · rw [if_neg (by omega), if_neg h2]; rfl
  · have h1' : ¬ (48 ≤ c.toNat ∧ c.toNat ≤ 57) := fun h => h1 (dg_iff.2 h)
    rw [if_neg h1]
    by_cases h3 : (c.toNat : Int) < 48
    · rw [if_pos h3]; simp [musterref09_Number.j2]
    · rw [if_neg h3]
      simp only [musterref09_Number.j2]
      rw [if_pos (by simp; omega)]
theorem number_stop (k : Nat) (t : ByteArray) (n i : Nat) (hi : i = t.size) : musterref09_Number.l0 (k + 1) t 255 n i = some (n : Int) := by
  simp only [musterref09_Number.l0]
  rw [if_neg (by omega)]
def numI (l : List UInt8) : Int := match num l with
  | some n => n
  | none => -1
theorem number_num (t : ByteArray) (ht : t.size ≤ 1048576) (k : Nat) (hk : 12 ≤ k) : musterref09_Number.f k t 255 = some (numI t.data.toList) := by
  obtain ⟨k, rfl⟩ : ∃ m, k = m + 12 := ⟨k - 12, by omega⟩
  have hsz : t.data.toList.length = t.size := by simp
  unfold musterref09_Number.f
  rw [Lib.toList_data]
  match hl : t.data.toList with
  | [] => rw [if_pos rfl]; simp [musterref09_Number.j0, numI, num]
  | [a] =>
    rw [hl] at hsz
    have h1 : t.size = 1 := by rw [← hsz]; rfl
    rw [if_neg (by simp), if_neg (by omega)]
    simp only [musterref09_Number.j0]
    rw [if_neg (by simp), show (0 : Int) = ((0 : Nat) : Int) from rfl, number_step _ t ht 0 0 a (by rw [hl]; rfl) (by omega)]
    simp only [numI, num]
    by_cases ha : dg a = true
    · have := dg_iff.1 ha
      rw [if_pos ha, if_pos ha, if_neg (by omega), number_stop _ t _ _ (by omega)]
      simp only
      congr 1; omega
    · rw [if_neg ha, if_neg ha]
  | [a, b] =>
    rw [hl] at hsz
    have h1 : t.size = 2 := by rw [← hsz]; rfl
    have hb0 : bt t 0 = (a.toNat : Int) := by
      have := bt_nat t 0 (by omega)
      rw [hl] at this
      simpa using this
    rw [if_neg (by simp), if_pos (by omega), if_pos (by omega), hb0]
    simp only [musterref09_Number.j0, numI, num]
    by_cases h0 : a.toNat = 48
    · rw [if_pos (by rw [h0]; rfl), if_neg (by simp [h0])]
    · rw [if_neg (by simp; omega), show (0 : Int) = ((0 : Nat) : Int) from rfl, number_step _ t ht 0 0 a (by rw [hl]; rfl) (by omega)]
      by_cases ha : dg a = true
      · have := dg_iff.1 ha
        rw [if_pos ha, if_neg (by omega), number_step _ t ht _ _ b (by rw [hl]; rfl) (by omega)]
        by_cases hb : dg b = true
        · have := dg_iff.1 hb
          rw [if_pos hb, if_neg (by omega), number_stop _ t _ _ (by omega), if_pos (by simp [ha, hb, h0])]
          simp only
          congr 1; omega
        · rw [if_neg hb, if_neg (by simp [hb])]
      · rw [if_neg ha, if_neg (by simp [ha])]
  | [a, b, c] =>
    rw [hl] at hsz
    have h1 : t.size = 3 := by rw [← hsz]; rfl
    have hb0 : bt t 0 = (a.toNat : Int) := by
      have := bt_nat t 0 (by omega)
      rw [hl] at this
      simpa using this
    rw [if_neg (by simp), if_pos (by omega), if_pos (by omega), hb0]
    simp only [musterref09_Number.j0, numI, num]
    by_cases h0 : a.toNat = 48
    · rw [if_pos (by rw [h0]; rfl), if_neg (by simp [h0])]
    · rw [if_neg (by simp; omega), show (0 : Int) = ((0 : Nat) : Int) from rfl, number_step _ t ht 0 0 a (by rw [hl]; rfl) (by omega)]
      by_cases ha : dg a = true
      · have := dg_iff.1 ha
        rw [if_pos ha, if_neg (by omega), number_step _ t ht _ _ b (by rw [hl]; rfl) (by omega)]
        by_cases hb : dg b = true
        · have := dg_iff.1 hb
          rw [if_pos hb, if_neg (by omega), number_step _ t ht _ _ c (by rw [hl]; rfl) (by omega)]
          by_cases hc : dg c = true
          · have := dg_iff.1 hc
            rw [if_pos hc]
            by_cases h2 : 100 * (a.toNat - 48) + 10 * (b.toNat - 48) + (c.toNat - 48) ≤ 255
            · rw [if_neg (by omega), number_stop _ t _ _ (by omega), if_pos (by simp [ha, hb, hc, h0]; omega)]
              simp only
              congr 1; omega
            · rw [if_pos (by omega), if_neg (by simp [ha, hb, hc, h0]; omega)]
          · rw [if_neg hc, if_neg (by simp [hc])]
        · rw [if_neg hb, if_neg (by simp [hb])]
      · rw [if_neg ha, if_neg (by simp [ha])]
  | a :: b :: c :: d :: r =>
    rw [hl] at hsz
    have h1 : 4 ≤ t.size := by rw [← hsz]; simp
    have hb0 : bt t 0 = (a.toNat : Int) := by
      have := bt_nat t 0 (by omega)
      rw [hl] at this
      simpa using this
    rw [if_neg (by simp), if_pos (by omega), if_pos (by omega), hb0]
    simp only [musterref09_Number.j0, numI, num]
    by_cases h0 : a.toNat = 48
    · rw [if_pos (by rw [h0]; rfl)]
    · rw [if_neg (by simp; omega), show (0 : Int) = ((0 : Nat) : Int) from rfl, number_step _ t ht 0 0 a (by rw [hl]; rfl) (by omega)]
      by_cases ha : dg a = true
      · have := dg_iff.1 ha
        rw [if_pos ha, if_neg (by omega), number_step _ t ht _ _ b (by rw [hl]; rfl) (by omega)]
        by_cases hb : dg b = true
        · have := dg_iff.1 hb
          rw [if_pos hb, if_neg (by omega), number_step _ t ht _ _ c (by rw [hl]; rfl) (by omega)]
          by_cases hc : dg c = true
          · have := dg_iff.1 hc
            rw [if_pos hc]
            by_cases h2 : 10 * (10 * (10 * 0 + (a.toNat - 48)) + (b.toNat - 48)) + (c.toNat - 48) > 255
            · rw [if_pos h2]
            · rw [if_neg h2, number_step _ t ht _ _ d (by rw [hl]; rfl) (by omega)]
              by_cases hd : dg d = true
              · rw [if_pos hd, if_pos (by omega)]
              · rw [if_neg hd]
          · rw [if_neg hc]
        · rw [if_neg hb]
      · rw [if_neg ha]
end Go.Proofs.YtagbpjegdfhmpaaDoor.Q
