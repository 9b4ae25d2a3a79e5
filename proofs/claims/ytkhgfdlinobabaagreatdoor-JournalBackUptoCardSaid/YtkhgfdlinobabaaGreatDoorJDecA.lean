/- journal.Decode, of any bytes. -/
import Derived.Test.YtkhgfdlinobabaaGreatDoorJPld
namespace Go.Proofs.YtkhgfdlinobabaaGreatDoor.G
open Go.RowKit
set_option linter.unusedVariables false
set_option linter.unusedSimpArgs false
abbrev decErr (er : Int) : Ending := .returned (.tuple #[.agg #[.int .u64 0, .slice none 0 0], .int .i64 0, .int .i64 er])
set_option maxHeartbeats 4000000 in
set_option maxRecDepth 100000 in
theorem decode_nil (v : Value) (w : World) (hb : BytesAt w v []) :
    Calls Tryz.prog 19 #[v] w fun e w' => e = decErr 131 ∧ Below w.heap.size w w' := by
  obtain ⟨A, cap, rfl, hcap, hx⟩ := hb
  have HZ := Lib.hid (blk_new w (.cells #[.int .u64 0, .slice none 0 0] 25))
  have HB := Lib.hid (show Below w.heap.size w (w.alloc (.cells #[.int .u64 0, .slice none 0 0] 25)) from (Below.refl _ w).alloc (Nat.le_refl _) _)
  clear hx
  go_enter Tryz.func19, Tryz.ntmps19
  go_wp2_with (refine store_whole rfl 25 2 (.tmp 14) rfl rfl w.heap.size _ #[.int .u64 0, .slice none 0 0] 25 rfl rfl HZ.out (by kernel_rfl) rfl rfl ?_; intro Wz hWz pR pK; clear pK)
  refine bodyPost_ret (v := .tuple #[.agg #[.int .u64 0, .slice none 0 0], .int .i64 0, .int .i64 131]) (results_row3 Tryz.results19 _ _ w.heap.size 25 _ (0, 0) _ _ _ rfl pR Tryz.underlying25 rfl (by kernel_rfl) rfl rfl) rfl ⟨rfl, ?_⟩
  rw [hWz.out]; exact below_setRow HB.out (Nat.le_refl _)
set_option maxHeartbeats 4000000 in
set_option maxRecDepth 100000 in
theorem decode_short5 (v : Value) (l : List UInt8) (hn : l ≠ []) (h0 : (l.getD 0 0).toNat = 77) (h5 : l.length < 5) (hl : l.length ≤ 140737488355328) (w : World) (hb : BytesAt w v l) :
    Calls Tryz.prog 19 #[v] w fun e w' => e = .returned (.tuple #[.agg #[.int .u64 0, .slice none 0 0], .int .i64 0, .int .i64 131]) ∧ Below w.heap.size w w' := by
  obtain ⟨A, cap, rfl, hcap, hx⟩ := hb
  obtain ⟨b, o, rfl, hc⟩ := hx hn
  have hp : 0 < l.length := List.length_pos_iff.2 hn
  have c0 := hc 0 hp
  rw [Nat.add_zero] at c0
  rw [h0] at c0
  have t1 : decide ((l.length : Int) < 1) = false := decide_eq_false (by omega)
  have t2 : decide ((l.length : Int) < 5) = true := decide_eq_true (by omega)
  have hz := blk_new w (.cells #[.int .u64 0, .slice none 0 0] 25)
  have HZ := Lib.hid hz
  have HB := Lib.hid (show Below w.heap.size w (w.alloc (.cells #[.int .u64 0, .slice none 0 0] 25)) from (Below.refl _ w).alloc (Nat.le_refl _) _)
  have c1 := cell_keep HB.out c0
  clear hc hx hz c0
  go_enter Tryz.func19, Tryz.ntmps19
  go_wp2_with (refine store_whole rfl 25 2 (.tmp 25) rfl rfl w.heap.size _ #[.int .u64 0, .slice none 0 0] 25 rfl rfl HZ.out (by kernel_rfl) rfl rfl ?_; intro Wz hWz pR pK; clear pK)
  refine bodyPost_ret (v := .tuple #[.agg #[.int .u64 0, .slice none 0 0], .int .i64 0, .int .i64 131]) (results_row3 Tryz.results19 _ _ w.heap.size 25 _ (0, 0) _ _ _ rfl pR Tryz.underlying25 rfl (by kernel_rfl) rfl rfl) rfl ⟨rfl, ?_⟩
  rw [hWz.out]; exact below_setRow HB.out (Nat.le_refl _)
set_option maxHeartbeats 1500000 in
set_option maxRecDepth 100000 in
theorem decode_shortM (v : Value) (l L R : List UInt8) (M : Nat) (hL : l.drop 1 = L) (hR : L.drop 4 = R) (hM : numB (L.take 4) = M) (h5 : 5 ≤ l.length) (h0 : (l.getD 0 0).toNat = 77) (hl : l.length ≤ 4000000000) (w : World) (hb : BytesAt w v l)
    (hm : M ≤ 131072) (hlen : l.length < M + 9) :
    Calls Tryz.prog 19 #[v] w fun e w' => e = .returned (.tuple #[.agg #[.int .u64 0, .slice none 0 0], .int .i64 0, .int .i64 131]) ∧ Below w.heap.size w w' := by
  have HBY := Lib.hid hb
  obtain ⟨A, cap, rfl, hcap, hx⟩ := hb
  obtain ⟨b, o, rfl, hc⟩ := hx (by rintro rfl; simp at h5)
  have c0 := hc 0 (by omega)
  rw [Nat.add_zero, h0] at c0
  have hz := blk_new w (.cells #[.int .u64 0, .slice none 0 0] 25)
  have hB := (show Below w.heap.size w (w.alloc (.cells #[.int .u64 0, .slice none 0 0] 25)) from (Below.refl _ w).alloc (Nat.le_refl _) _)
  have c1 := cell_keep hB c0
  have hcap1 : ¬ cap = 1 := by omega
  have hcap2 : 1 ≤ cap := by omega
  have hl1 : 1 ≤ l.length := by omega
  have t1 : decide ((l.length : Int) < 1) = false := decide_eq_false (by omega)
  have t2 : decide ((l.length : Int) < 5) = false := decide_eq_false (by omega)
  have hLl : L.length = l.length - 1 := by rw [← hL, List.length_drop]
  have hRl : R.length = l.length - 5 := by rw [← hR, List.length_drop, hLl]; omega
  have hMl : M < 4294967296 := by
    have h1 := numB_lt (L.take 4)
    have h2 : (L.take 4).length = 4 := by rw [List.length_take]; omega
    rw [h2, hM] at h1
    omega
  have hd : BytesAt w (.slice (some ⟨b, o + 1, none⟩) (l.length - 1) (cap - 1)) L := by
    have := HBY.out.drop 1 hl1
    rw [hL] at this
    simpa [Addr.add] using this
  have hB2 : Below w.heap.size w ((w.alloc (.cells #[.int .u64 0, .slice none 0 0] 25)).alloc (.cells #[.slice (some ⟨b, o + 1, none⟩) (l.length - 1) (cap - 1)] 83)) := hB.alloc (by simp) _
  have keep : BytesAt ((w.alloc (.cells #[.int .u64 0, .slice none 0 0] 25)).alloc (.cells #[.slice (some ⟨b, o + 1, none⟩) (l.length - 1) (cap - 1)] 83)) (.slice (some ⟨b, o + 1, none⟩) (l.length - 1) (cap - 1)) L := by
    obtain ⟨A', c', hv, hc', hx'⟩ := hd
    refine ⟨A', c', hv, hc', fun hn => ?_⟩
    obtain ⟨b', o', hA, hcell⟩ := hx' hn
    exact ⟨b', o', hA, fun j hj => cell_keep hB2 (hcell j hj)⟩
  have HK := Lib.hid keep
  have HG := Lib.hid (blk_new (w.alloc (.cells #[.int .u64 0, .slice none 0 0] 25)) (.cells #[.slice (some ⟨b, o + 1, none⟩) (l.length - 1) (cap - 1)] 83))
  rw [show (w.alloc (.cells #[.int .u64 0, .slice none 0 0] 25)).heap.size = w.heap.size + 1 from by simp] at HG
  have HZ := Lib.hid (blk_old (o := .cells #[.slice (some ⟨b, o + 1, none⟩) (l.length - 1) (cap - 1)] 83) hz)
  have HB := Lib.hid hB2
  clear hc hx hz c0 hd keep hB hB2 HBY
  go_enter Tryz.func19, Tryz.ntmps19
  go_upto_region 8 with fail
  obtain ⟨W, hW⟩ : ∃ W, W = (w.alloc (.cells #[.int .u64 0, .slice none 0 0] 25)).alloc (.cells #[.slice (some ⟨b, o + 1, none⟩) (l.length - 1) (cap - 1)] 83) := ⟨_, rfl⟩
  rw [← hW] at HB HZ HG HK ⊢
  clear hW c1
  have t3 : decide (131072 < (M : Int)) = decide (131072 < M) := by by_cases h : 131072 < M <;> simp [h] <;> omega
  have HR := Lib.hid hR
  have HM := Lib.hid hM
  go_wp2_with (go_at_call 37; refine (calls_hid (num_calls (w.heap.size + 1) _ L 4 (by omega) (by decide) (by omega) _ HG.out HK.out)).mono ?_)
  rintro e w1 hh
  obtain ⟨v2, rfl, rfl, h2⟩ := hh.out
  clear hh
  rw [HM.out]
  rw [HR.out] at h2
  have hz1 := (set_far v2 (show w.heap.size ≠ w.heap.size + 1 from by omega) HZ.out : (W.setCell ⟨w.heap.size + 1, 0, none⟩ v2).heap[w.heap.size]? = _)
  have hg1 := (set_blk v2 HG.out : (W.setCell ⟨w.heap.size + 1, 0, none⟩ v2).heap[w.heap.size + 1]? = _)
  have hb1 : Below w.heap.size w (W.setCell ⟨w.heap.size + 1, 0, none⟩ v2) := HB.out.setCell (by simp) _
  have k1 := h2.setCell HG.out v2
  obtain ⟨W1, hW1⟩ : ∃ W1, W1 = W.setCell ⟨w.heap.size + 1, 0, none⟩ v2 := ⟨_, rfl⟩
  rw [← hW1] at hz1 hg1 hb1 k1 ⊢
  clear hW1 h2 HB HZ HG HK
  have HK1 := Lib.hid k1
  obtain ⟨A2, c2, rfl, hc2, _⟩ := k1
  have hg2 : W1.heap[w.heap.size + 1]? = some (.cells #[.slice A2 R.length c2] 83 (0, 0)) := hg1
  have d0 := Blk.cell hg2 0
  simp only [List.getElem?_toArray, List.getElem?_cons_zero] at d0
  have HZ1 := Lib.hid hz1
  have HG1 := Lib.hid hg2
  have HB1 := Lib.hid hb1
  clear hz1 hg1 hg2 hb1
  have t4 : decide (131072 < (M : Int)) = false := decide_eq_false (by omega)
  have t5 : decide ((R.length : Int) < (M : Int) + 4) = true := decide_eq_true (by omega)
  go_wp2_with (refine store_whole rfl 25 2 (.tmp 44) rfl rfl w.heap.size _ #[.int .u64 0, .slice none 0 0] 25 rfl rfl HZ1.out (by kernel_rfl) rfl rfl ?_; intro Wz hWz pR pK; clear pK)
  refine bodyPost_ret (v := .tuple #[.agg #[.int .u64 0, .slice none 0 0], .int .i64 0, .int .i64 131]) (results_row3 Tryz.results19 _ _ w.heap.size 25 _ (0, 0) _ _ _ rfl pR Tryz.underlying25 rfl (by kernel_rfl) rfl rfl) rfl ⟨rfl, ?_⟩
  rw [hWz.out]; exact below_setRow HB1.out (Nat.le_refl _)
set_option maxHeartbeats 1500000 in
set_option maxRecDepth 100000 in
theorem decode_pay (v : Value) (l L R : List UInt8) (M : Nat) (hL : l.drop 1 = L) (hR : L.drop 4 = R) (hM : numB (L.take 4) = M) (h5 : 5 ≤ l.length) (h0 : (l.getD 0 0).toNat = 77) (hl : l.length ≤ 4000000000) (w : World) (hb : BytesAt w v l)
    (hm : M ≤ 131072) (hlen : M + 9 ≤ l.length) (hne : numB ((R.drop M).take 4) = sumB (R.take M)) (hv : VarsOk w) :
    Calls Tryz.prog 19 #[v] w fun e w' => (∃ (idx : Nat) (os : List OpV) (vo : Value) (vts : List Value), rdPay (R.take M) = some (idx, os) ∧ SoundV os ∧ e = .returned (.tuple #[.agg #[.int .u64 (idx : Int), vo], .int .i64 ((M + 9 : Nat) : Int), .int .i64 0]) ∧ OwnOps w.heap.size w' vo os vts ∧ Below w.heap.size w w') ∨ ((∀ idx os, rdPay (R.take M) = some (idx, os) → ¬ SoundV os) ∧ e = decErr 133 ∧ Below w.heap.size w w') := by
  have HBY := Lib.hid hb
  have HV := Lib.hid hv
  clear hv
  obtain ⟨A, cap, rfl, hcap, hx⟩ := hb
  obtain ⟨b, o, rfl, hc⟩ := hx (by rintro rfl; simp at h5)
  have c0 := hc 0 (by omega)
  rw [Nat.add_zero, h0] at c0
  have hz := blk_new w (.cells #[.int .u64 0, .slice none 0 0] 25)
  have hB := (show Below w.heap.size w (w.alloc (.cells #[.int .u64 0, .slice none 0 0] 25)) from (Below.refl _ w).alloc (Nat.le_refl _) _)
  have c1 := cell_keep hB c0
  have hcap1 : ¬ cap = 1 := by omega
  have hcap2 : 1 ≤ cap := by omega
  have hl1 : 1 ≤ l.length := by omega
  have t1 : decide ((l.length : Int) < 1) = false := decide_eq_false (by omega)
  have t2 : decide ((l.length : Int) < 5) = false := decide_eq_false (by omega)
  have hLl : L.length = l.length - 1 := by rw [← hL, List.length_drop]
  have hRl : R.length = l.length - 5 := by rw [← hR, List.length_drop, hLl]; omega
  have hMl : M < 4294967296 := by
    have h1 := numB_lt (L.take 4)
    have h2 : (L.take 4).length = 4 := by rw [List.length_take]; omega
    rw [h2, hM] at h1
    omega
  have hd : BytesAt w (.slice (some ⟨b, o + 1, none⟩) (l.length - 1) (cap - 1)) L := by
    have := HBY.out.drop 1 hl1
    rw [hL] at this
    simpa [Addr.add] using this
  have hB2 : Below w.heap.size w ((w.alloc (.cells #[.int .u64 0, .slice none 0 0] 25)).alloc (.cells #[.slice (some ⟨b, o + 1, none⟩) (l.length - 1) (cap - 1)] 83)) := hB.alloc (by simp) _
  have keep : BytesAt ((w.alloc (.cells #[.int .u64 0, .slice none 0 0] 25)).alloc (.cells #[.slice (some ⟨b, o + 1, none⟩) (l.length - 1) (cap - 1)] 83)) (.slice (some ⟨b, o + 1, none⟩) (l.length - 1) (cap - 1)) L := by
    obtain ⟨A', c', hv, hc', hx'⟩ := hd
    refine ⟨A', c', hv, hc', fun hn => ?_⟩
    obtain ⟨b', o', hA, hcell⟩ := hx' hn
    exact ⟨b', o', hA, fun j hj => cell_keep hB2 (hcell j hj)⟩
  have HK := Lib.hid keep
  have HG := Lib.hid (blk_new (w.alloc (.cells #[.int .u64 0, .slice none 0 0] 25)) (.cells #[.slice (some ⟨b, o + 1, none⟩) (l.length - 1) (cap - 1)] 83))
  rw [show (w.alloc (.cells #[.int .u64 0, .slice none 0 0] 25)).heap.size = w.heap.size + 1 from by simp] at HG
  have HZ := Lib.hid (blk_old (o := .cells #[.slice (some ⟨b, o + 1, none⟩) (l.length - 1) (cap - 1)] 83) hz)
  have HB := Lib.hid hB2
  clear hc hx hz c0 hd keep hB hB2 HBY
  go_enter Tryz.func19, Tryz.ntmps19
  go_upto_region 8 with fail
  obtain ⟨W, hW⟩ : ∃ W, W = (w.alloc (.cells #[.int .u64 0, .slice none 0 0] 25)).alloc (.cells #[.slice (some ⟨b, o + 1, none⟩) (l.length - 1) (cap - 1)] 83) := ⟨_, rfl⟩
  rw [← hW] at HB HZ HG HK ⊢
  clear hW c1
  have t3 : decide (131072 < (M : Int)) = decide (131072 < M) := by by_cases h : 131072 < M <;> simp [h] <;> omega
  have HR := Lib.hid hR
  have HM := Lib.hid hM
  go_wp2_with (go_at_call 37; refine (calls_hid (num_calls (w.heap.size + 1) _ L 4 (by omega) (by decide) (by omega) _ HG.out HK.out)).mono ?_)
  rintro e w1 hh
  obtain ⟨v2, rfl, rfl, h2⟩ := hh.out
  clear hh
  rw [HM.out]
  rw [HR.out] at h2
  have hz1 := (set_far v2 (show w.heap.size ≠ w.heap.size + 1 from by omega) HZ.out : (W.setCell ⟨w.heap.size + 1, 0, none⟩ v2).heap[w.heap.size]? = _)
  have hg1 := (set_blk v2 HG.out : (W.setCell ⟨w.heap.size + 1, 0, none⟩ v2).heap[w.heap.size + 1]? = _)
  have hb1 : Below w.heap.size w (W.setCell ⟨w.heap.size + 1, 0, none⟩ v2) := HB.out.setCell (by simp) _
  have k1 := h2.setCell HG.out v2
  obtain ⟨W1, hW1⟩ : ∃ W1, W1 = W.setCell ⟨w.heap.size + 1, 0, none⟩ v2 := ⟨_, rfl⟩
  rw [← hW1] at hz1 hg1 hb1 k1 ⊢
  clear hW1 h2 HB HZ HG HK
  have HK1 := Lib.hid k1
  obtain ⟨A2, c2, rfl, hc2, _⟩ := k1
  have hg2 : W1.heap[w.heap.size + 1]? = some (.cells #[.slice A2 R.length c2] 83 (0, 0)) := hg1
  have d0 := Blk.cell hg2 0
  simp only [List.getElem?_toArray, List.getElem?_cons_zero] at d0
  have HZ1 := Lib.hid hz1
  have HG1 := Lib.hid hg2
  have HB1 := Lib.hid hb1
  clear hz1 hg1 hg2 hb1
  have t4 : decide (131072 < (M : Int)) = false := decide_eq_false (by omega)
  have t5 : decide ((R.length : Int) < (M : Int) + 4) = false := decide_eq_false (by omega)
  go_wp2_with (go_at_call 38; refine (calls_hid (take_calls (w.heap.size + 1) _ R M (by omega) (by omega) _ HG1.out HK1.out)).mono ?_)
  rintro e w2 hh
  obtain ⟨v3, v4, rfl, rfl, k3, k4⟩ := hh.out
  clear hh
  have hz2 := (set_far v4 (show w.heap.size ≠ w.heap.size + 1 from by omega) HZ1.out : (W1.setCell ⟨w.heap.size + 1, 0, none⟩ v4).heap[w.heap.size]? = _)
  have hg2 := (set_blk v4 HG1.out : (W1.setCell ⟨w.heap.size + 1, 0, none⟩ v4).heap[w.heap.size + 1]? = _)
  have hb2 : Below w.heap.size w (W1.setCell ⟨w.heap.size + 1, 0, none⟩ v4) := HB1.out.setCell (by simp) _
  have k3 := k3.setCell HG1.out v4
  have k4 := k4.setCell HG1.out v4
  obtain ⟨W2, hW2⟩ : ∃ W2, W2 = W1.setCell ⟨w.heap.size + 1, 0, none⟩ v4 := ⟨_, rfl⟩
  rw [← hW2] at hz2 hg2 hb2 k3 k4 ⊢
  clear hW2 HB1 HZ1 HG1 HK1 d0
  have HK3 := Lib.hid k3
  have HK4 := Lib.hid k4
  obtain ⟨A3, c3, rfl, _, _⟩ := k3
  obtain ⟨A4, c4, rfl, _, _⟩ := k4
  have HG2 := Lib.hid (show W2.heap[w.heap.size + 1]? = some (.cells #[.slice A4 (R.drop M).length c4] 83 (0, 0)) from hg2)
  have HZ2 := Lib.hid hz2
  have HB2 := Lib.hid hb2
  have hP : (R.drop M).length = R.length - M := List.length_drop
  have hQ : (R.take M).length = M := by rw [List.length_take]; omega
  obtain ⟨P, hPe⟩ : ∃ P, P = R.drop M := ⟨_, rfl⟩
  obtain ⟨Q, hQe⟩ : ∃ Q, Q = R.take M := ⟨_, rfl⟩
  have HQE := Lib.hid hQe
  rw [← hPe] at HG2 HK4 hP hne
  rw [← hQe] at HK3 hQ hne ⊢
  clear hz2 hg2 hb2 hPe hQe
  go_wp2_with (go_at_call 37; refine (calls_hid (num_calls (w.heap.size + 1) _ P 4 (by omega) (by decide) (by omega) _ HG2.out HK4.out)).mono ?_)
  rintro e w3 hh
  obtain ⟨v5, rfl, rfl, k5⟩ := hh.out
  clear hh
  have hX : numB (P.take 4) < 4294967296 := by
    have h1 := numB_lt (P.take 4)
    have h2 : (P.take 4).length = 4 := by rw [List.length_take]; omega
    rw [h2] at h1
    omega
  have hY : sumB Q < 4294967296 := by have := sumS_lt (nums Q) (nums_lt _); unfold sumB; omega
  have hz3 := (set_far v5 (show w.heap.size ≠ w.heap.size + 1 from by omega) HZ2.out : (W2.setCell ⟨w.heap.size + 1, 0, none⟩ v5).heap[w.heap.size]? = _)
  have hb3 : Below w.heap.size w (W2.setCell ⟨w.heap.size + 1, 0, none⟩ v5) := HB2.out.setCell (by simp) _
  have k6 := HK3.out.setCell HG2.out v5
  obtain ⟨W3, hW3⟩ : ∃ W3, W3 = W2.setCell ⟨w.heap.size + 1, 0, none⟩ v5 := ⟨_, rfl⟩
  rw [← hW3] at hz3 hb3 k6 ⊢
  clear hW3 k5 HB2 HZ2 HG2 HK3 HK4
  have HZ3 := Lib.hid hz3
  have HB3 := Lib.hid hb3
  rw [hQ] at k6
  have HK6 := Lib.hid k6
  have HQ4 : Q.length ≤ 140737488355328 := by omega
  have HSum := Lib.hid (fun (W : World) (h : BytesAt W (.slice A3 M c3) Q) => sum_calls (.slice A3 M c3) Q HQ4 W h)
  clear hz3 hb3 k6
  generalize numB (P.take 4) = X at hne hX ⊢
  generalize sumB Q = Y at hne hY HSum ⊢
  obtain rfl : X = Y := hne
  have t6 : ((X : Int) != (X : Int)) = false := by simp
  go_wp2_with (go_at_call 20; refine (calls_hid (HSum.out _ HK6.out)).mono ?_)
  rintro e w4 hh
  obtain ⟨rfl, rfl⟩ := hh.out
  clear hh
  go_wp2_with (go_at_call 39; refine (calls_hid (payload_calls _ Q (by omega) _ (HV.out.below HB3.out) HK6.out)).mono ?_)
  rintro e w5 hh
  have hB3 := HB3.out
  have z3 := hB3.size
  have zr : w.heap.size < w4.heap.size := (Array.getElem?_eq_some_iff.1 HZ3.out).1
  rcases hh.out with ⟨idx, os, vo, vts, hp, hs, rfl, hown, hb5⟩ | ⟨hbad, rfl, hb5⟩
  · clear hh
    obtain ⟨A5, c5, rfl⟩ := hown.slice
    have HZ5 := Lib.hid ((hb5.block w.heap.size zr).trans HZ3.out)
    have HB5 := Lib.hid (hB3.trans (hb5.mono z3))
    have HO5 := Lib.hid (hown.raise z3)
    have HP := Lib.hid hp
    have HS := Lib.hid hs
    have z5 : w.heap.size < w5.heap.size := by have := hb5.size; omega
    clear hp hs hown hb5 HZ3 HB3 HK6
    go_wp2_with (first | (refine store_whole rfl 25 8 (.tmp 58) rfl rfl w5.heap.size #[.int .u64 0, .slice none 0 0] #[.int .u64 (idx : Int), .slice A5 os.length c5] 25 rfl rfl (blk_new _ _) (by kernel_rfl) rfl rfl ?_; intro W6 hW6 p6 k6; have q6 := (k6 w.heap.size (by omega)).trans (blk_old HZ5.out); clear k6; have P6 := Lib.hid p6; have Q6 := Lib.hid q6; clear p6 q6) | (refine wpList_load_row rfl 25 (.tmp 8) rfl w5.heap.size rfl _ _ _ _ P6.out Tryz.underlying25 rfl (by kernel_rfl) ?_) | (refine store_whole rfl 25 2 (.tmp 63) rfl rfl w.heap.size _ #[.int .u64 (idx : Int), .slice A5 os.length c5] 25 rfl rfl Q6.out (by kernel_rfl) rfl rfl ?_; intro Wz hWz pR pK; clear pK))
    refine bodyPost_ret (v := .tuple #[.agg #[.int .u64 (idx : Int), .slice A5 os.length c5], .int .i64 (5 + (M : Int) + 4), .int .i64 0]) (results_row3 Tryz.results19 _ _ w.heap.size 25 _ (0, 0) _ _ _ rfl pR Tryz.underlying25 rfl (by kernel_rfl) rfl rfl) rfl (Or.inl ?_)
    refine ⟨idx, os, .slice A5 os.length c5, vts, by rw [← HQE.out]; exact HP.out, HS.out, ?_, ?_, ?_⟩
    · rw [show ((M + 9 : Nat) : Int) = 5 + (M : Int) + 4 from by omega]
    · rw [hWz.out, hW6.out]
      have h1 := HO5.out.below ((Below.refl _ w5).alloc (Nat.le_refl _) (.cells #[.int .u64 0, .slice none 0 0] 25))
      have h2 := h1.setRow (blk_new _ _) (by decide) (by decide) #[.int .u64 (idx : Int), .slice A5 os.length c5]
      refine h2.setRow (cs := #[.int .u64 0, .slice none 0 0]) (t := 25) (fr := (0, 0)) ?_ (by decide) (by decide) _
      rw [← hW6.out]; exact Q6.out
    · rw [hWz.out, hW6.out]
      exact below_setRow (below_setRow (HB5.out.alloc (by omega) _) (by omega)) (Nat.le_refl _)
  · clear hh
    have HZ5 := Lib.hid ((hb5.block w.heap.size zr).trans HZ3.out)
    have HB5 := Lib.hid (hB3.trans (hb5.mono z3))
    have HX := Lib.hid hbad
    have z5 : w.heap.size < w5.heap.size := by have := hb5.size; omega
    clear hbad hb5 HZ3 HB3 HK6
    go_wp2_with (first | (refine store_whole rfl 25 8 (.tmp 58) rfl rfl w5.heap.size #[.int .u64 0, .slice none 0 0] #[.int .u64 0, .slice none 0 0] 25 rfl rfl (blk_new _ _) (by kernel_rfl) rfl rfl ?_; intro W6 hW6 p6 k6; have q6 := (k6 w.heap.size (by omega)).trans (blk_old HZ5.out); clear k6 p6; have Q6 := Lib.hid q6; clear q6) | (refine store_whole rfl 25 2 (.tmp 62) rfl rfl w.heap.size _ #[.int .u64 0, .slice none 0 0] 25 rfl rfl Q6.out (by kernel_rfl) rfl rfl ?_; intro Wz hWz pR pK; clear pK))
    refine bodyPost_ret (v := .tuple #[.agg #[.int .u64 0, .slice none 0 0], .int .i64 0, .int .i64 133]) (results_row3 Tryz.results19 _ _ w.heap.size 25 _ (0, 0) _ _ _ rfl pR Tryz.underlying25 rfl (by kernel_rfl) rfl rfl) rfl (Or.inr ?_)
    refine ⟨by rw [← HQE.out]; exact HX.out, rfl, ?_⟩
    rw [hWz.out, hW6.out]
    exact below_setRow (below_setRow (HB5.out.alloc (by omega) _) (by omega)) (Nat.le_refl _)
open Classical in
/-- What Decode answers: the entry (none: the zero entry), how many bytes, the error. -/
noncomputable def decV (l : List UInt8) : Option (Nat × List OpV) × Int × Int :=
  if l = [] then (none, 0, 131)
  else if (l.getD 0 0).toNat ≠ 77 then (none, 0, 132)
  else if l.length < 5 then (none, 0, 131)
  else if 131072 < numB ((l.drop 1).take 4) then (none, 0, 132)
  else if l.length < numB ((l.drop 1).take 4) + 9 then (none, 0, 131)
  else if numB ((((l.drop 1).drop 4).drop (numB ((l.drop 1).take 4))).take 4) ≠ sumB (((l.drop 1).drop 4).take (numB ((l.drop 1).take 4))) then (none, 0, 132)
  else if h : ∃ x, rdPay (((l.drop 1).drop 4).take (numB ((l.drop 1).take 4))) = some x ∧ SoundV x.2 then (some h.choose, ((numB ((l.drop 1).take 4) + 9 : Nat) : Int), 0)
  else (none, 0, 133)
def DecPost (l : List UInt8) (w0 : World) (e : Ending) (w' : World) : Prop :=
  Below w0.heap.size w0 w' ∧ ((∃ n er, decV l = (none, n, er) ∧ e = .returned (.tuple #[.agg #[.int .u64 0, .slice none 0 0], .int .i64 n, .int .i64 er])) ∨
    ∃ (idx : Nat) (os : List OpV) (n er : Int) (vo : Value) (vts : List Value), decV l = (some (idx, os), n, er) ∧ e = .returned (.tuple #[.agg #[.int .u64 (idx : Int), vo], .int .i64 n, .int .i64 er]) ∧ OwnOps w0.heap.size w' vo os vts)
theorem decode_any (v : Value) (l : List UInt8) (hl : l.length ≤ 4000000000) (w : World) (hv : VarsOk w) (hb : BytesAt w v l) :
    Calls Tryz.prog 19 #[v] w (DecPost l w) := by
  by_cases hn : l = []
  · subst hn
    exact (decode_nil v w hb).mono fun e w' h => ⟨h.2, .inl ⟨0, 131, by unfold decV; rw [if_pos rfl], h.1⟩⟩
  by_cases h0 : (l.getD 0 0).toNat = 77
  case neg => exact (decode_magic v l hn h0 (by omega) w hb).mono fun e w' h => ⟨h.2, .inl ⟨0, 132, by unfold decV; rw [if_neg hn, if_pos h0], h.1⟩⟩
  have nh0 : ¬ (l.getD 0 0).toNat ≠ 77 := fun h => h h0
  by_cases h5 : l.length < 5
  · exact (decode_short5 v l hn h0 h5 (by omega) w hb).mono fun e w' h => ⟨h.2, .inl ⟨0, 131, by unfold decV; rw [if_neg hn, if_neg nh0, if_pos h5], h.1⟩⟩
  by_cases hM : 131072 < numB ((l.drop 1).take 4)
  · exact (decode_rest v l _ _ _ rfl rfl rfl (by omega) h0 hl w hb (.inl hM)).mono fun e w' h => ⟨h.2, .inl ⟨0, 132, by unfold decV; rw [if_neg hn, if_neg nh0, if_neg h5, if_pos hM], h.1⟩⟩
  by_cases h9 : l.length < numB ((l.drop 1).take 4) + 9
  · exact (decode_shortM v l _ _ _ rfl rfl rfl (by omega) h0 hl w hb (by omega) h9).mono fun e w' h => ⟨h.2, .inl ⟨0, 131, by unfold decV; rw [if_neg hn, if_neg nh0, if_neg h5, if_neg hM, if_pos h9], h.1⟩⟩
  by_cases hs : numB ((((l.drop 1).drop 4).drop (numB ((l.drop 1).take 4))).take 4) = sumB (((l.drop 1).drop 4).take (numB ((l.drop 1).take 4)))
  case neg => exact (decode_rest v l _ _ _ rfl rfl rfl (by omega) h0 hl w hb (.inr ⟨by omega, by omega, hs⟩)).mono fun e w' h => ⟨h.2, .inl ⟨0, 132, by unfold decV; rw [if_neg hn, if_neg nh0, if_neg h5, if_neg hM, if_neg h9, if_pos hs], h.1⟩⟩
  have ns : ¬ numB ((((l.drop 1).drop 4).drop (numB ((l.drop 1).take 4))).take 4) ≠ sumB (((l.drop 1).drop 4).take (numB ((l.drop 1).take 4))) := fun h => h hs
  refine (decode_pay v l _ _ _ rfl rfl rfl (by omega) h0 hl w hb (by omega) (by omega) hs hv).mono fun e w' h => ?_
  rcases h with ⟨idx, os, vo, vts, hp, hss, he, ho, hbl⟩ | ⟨hbad, he, hbl⟩
  · refine ⟨hbl, .inr ⟨idx, os, _, 0, vo, vts, ?_, he, ho⟩⟩
    have hx : ∃ x, rdPay (((l.drop 1).drop 4).take (numB ((l.drop 1).take 4))) = some x ∧ SoundV x.2 := ⟨(idx, os), hp, hss⟩
    have hc : hx.choose = (idx, os) := (Option.some.inj (hp.symm.trans hx.choose_spec.1)).symm
    unfold decV
    rw [if_neg hn, if_neg nh0, if_neg h5, if_neg hM, if_neg h9, if_neg ns, dif_pos hx, hc]
  · refine ⟨hbl, .inl ⟨0, 133, ?_, he⟩⟩
    unfold decV
    rw [if_neg hn, if_neg nh0, if_neg h5, if_neg hM, if_neg h9, if_neg ns, dif_neg (fun hx => hbad _ _ hx.choose_spec.1 hx.choose_spec.2)]
end Go.Proofs.YtkhgfdlinobabaaGreatDoor.G
