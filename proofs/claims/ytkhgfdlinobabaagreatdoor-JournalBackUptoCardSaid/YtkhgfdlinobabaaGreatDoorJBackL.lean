/- JournalBack: the pure law: what Decode answers at a frame, with anything behind it, and at a frame cut short. -/
import Derived.Test.YtkhgfdlinobabaaGreatDoorJDecA
namespace Go.Proofs.YtkhgfdlinobabaaGreatDoor.G
open Go.RowKit
set_option linter.unusedVariables false
set_option linter.unusedSimpArgs false
theorem decV_frame (idx : Nat) (hi : idx < 18446744073709551616) (os : List OpV) (hs : SoundV os) (ho : ∀ o ∈ os, OpShort o) (more : List UInt8) :
    decV (frameB idx os ++ more) = (some (idx, os), ((frameB idx os).length : Int), 0) := by
  have hM := payB_short idx os hs.1.2 ho
  have hpay := rdPay_pay idx hi os (by have := hs.1.2; omega) ho
  have hY : sumB (payB idx os) < 4294967296 := by have := sumS_lt (nums (payB idx os)) (nums_lt _); unfold sumB; omega
  have hS : numB (bigB (sumB (payB idx os)) 4) = sumB (payB idx os) := by rw [numB_big]; exact Nat.mod_eq_of_lt (by omega)
  have hB : numB (bigB (payB idx os).length 4) = (payB idx os).length := by rw [numB_big]; exact Nat.mod_eq_of_lt (by omega)
  have hSl : (bigB (sumB (payB idx os)) 4).length = 4 := bigB_len _ _
  have hBl : (bigB (payB idx os).length 4).length = 4 := bigB_len _ _
  have hfr : frameB idx os = (((([77] : List UInt8) ++ bigB (payB idx os).length 4) ++ payB idx os) ++ bigB (sumB (payB idx os)) 4) := rfl
  have hfl : (frameB idx os).length = (payB idx os).length + 9 := by rw [hfr]; simp only [List.length_append, List.length_cons, List.length_nil, hSl, hBl]; omega
  have e : frameB idx os ++ more = 77 :: (bigB (payB idx os).length 4 ++ (payB idx os ++ (bigB (sumB (payB idx os)) 4 ++ more))) := by rw [hfr]; simp
  rw [hfl, e]
  clear e hfl hfr
  generalize payB idx os = P at *
  generalize bigB (sumB P) 4 = S at *
  generalize bigB P.length 4 = B at *
  have d1 : (77 :: (B ++ (P ++ (S ++ more)))).drop 1 = B ++ (P ++ (S ++ more)) := rfl
  have t4 : (B ++ (P ++ (S ++ more))).take 4 = B := by rw [List.take_append, hBl]; simp; exact List.take_of_length_le (by omega)
  have d4 : (B ++ (P ++ (S ++ more))).drop 4 = P ++ (S ++ more) := by rw [List.drop_append, hBl]; simp [hBl]
  have dP : (P ++ (S ++ more)).drop P.length = S ++ more := by rw [List.drop_append]; simp
  have tP : (P ++ (S ++ more)).take P.length = P := by rw [List.take_append]; simp
  have tS : (S ++ more).take 4 = S := by rw [List.take_append, hSl]; simp; exact List.take_of_length_le (by omega)
  have hlen : (77 :: (B ++ (P ++ (S ++ more)))).length = P.length + 9 + more.length := by simp; omega
  unfold decV
  rw [d1, t4, hB, d4, dP, tP, tS, hS]
  have hx : ∃ x, rdPay P = some x ∧ SoundV x.2 := ⟨(idx, os), hpay, hs⟩
  have hc : hx.choose = (idx, os) := (Option.some.inj (hpay.symm.trans hx.choose_spec.1)).symm
  rw [if_neg (by simp), if_neg (by simp), if_neg (by rw [hlen]; omega), if_neg (by omega), if_neg (by rw [hlen]; omega), if_neg (by simp), dif_pos hx, hc]
theorem decV_cut (idx : Nat) (os : List OpV) (hs : SoundV os) (ho : ∀ o ∈ os, OpShort o) (c : Nat) (hc : c < (frameB idx os).length) :
    decV ((frameB idx os).take c) = (none, 0, 131) := by
  have hM := payB_short idx os hs.1.2 ho
  have hB : numB (bigB (payB idx os).length 4) = (payB idx os).length := by rw [numB_big]; exact Nat.mod_eq_of_lt (by omega)
  have hSl : (bigB (sumB (payB idx os)) 4).length = 4 := bigB_len _ _
  have hBl : (bigB (payB idx os).length 4).length = 4 := bigB_len _ _
  have hfr : frameB idx os = 77 :: (bigB (payB idx os).length 4 ++ (payB idx os ++ bigB (sumB (payB idx os)) 4)) := by unfold frameB; simp
  rw [hfr] at hc ⊢
  generalize payB idx os = P at *
  generalize bigB (sumB P) 4 = S at *
  generalize bigB P.length 4 = B at *
  clear hfr
  simp only [List.length_cons, List.length_append] at hc
  cases c with
  | zero => unfold decV; rw [if_pos (by simp)]
  | succ c =>
    rw [List.take_succ_cons]
    have hl : ((B ++ (P ++ S)).take c).length = c := by rw [List.length_take]; simp only [List.length_append]; omega
    by_cases h5 : c < 4
    · unfold decV
      rw [if_neg (by simp), if_neg (by simp), if_pos (by simp only [List.length_cons, hl]; omega)]
    · have t4 : ((77 :: (B ++ (P ++ S)).take c).drop 1).take 4 = B := by
        show ((B ++ (P ++ S)).take c).take 4 = B
        rw [List.take_take, Nat.min_eq_left (by omega), List.take_append, hBl]
        simp
        exact List.take_of_length_le (by omega)
      unfold decV
      rw [t4, hB, if_neg (by simp), if_neg (by simp), if_neg (by simp only [List.length_cons, hl]; omega), if_neg (by omega), if_pos (by simp only [List.length_cons, hl]; omega)]
end Go.Proofs.YtkhgfdlinobabaaGreatDoor.G
