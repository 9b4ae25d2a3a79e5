/- journal.Decode, where it answers ErrFrame. -/
import Derived.Test.YtkhgfdlinobabaaGreatDoorJRead
namespace Go.Proofs.YtkhgfdlinobabaaGreatDoor.G
open Go.RowKit
set_option linter.unusedVariables false
set_option linter.unusedSimpArgs false
theorem results_row3 {P : Program} {fn : Func} {p q r : Tmp} {ty : TypeId} (h : fn.results = #[.cell p ty, .tmp q, .tmp r]) (tmps : Array Value) (w : World) (g : Nat) (t : TypeId) (cs : Array Value) (fr : Nat × Nat) (d : TypeDesc) (u u2 : Value)
    (hp : tmps.getD p undef = .pointer (some ⟨g, 0, none⟩)) (hg : w.heap[g]? = some (.cells cs t fr))
    (hu : P.underlying ty = some d) (hd : (match d with | .struct _ | .array _ _ => true | _ => false) = true) (hi : (P.info? ty).map (·.size) = some cs.size) (hq : tmps.getD q undef = u) (hr : tmps.getD r undef = u2) :
    (results fn tmps).run P w = .ok (.tuple #[.agg cs, u, u2]) w := by
  have hp' : tmps[p]?.getD undef = .pointer (some ⟨g, 0, none⟩) := by simpa using hp
  have hq' : tmps[q]?.getD undef = u := by simpa using hq
  have hr' : tmps[r]?.getD undef = u2 := by simpa using hr
  simp [results, h, hp', hq', hr', asAddr, run_loadVar_row w g t ty cs fr d hg hu hd hi]
set_option maxHeartbeats 4000000 in
set_option maxRecDepth 100000 in
theorem decode_magic (v : Value) (l : List UInt8) (hn : l ≠ []) (h0 : (l.getD 0 0).toNat ≠ 77) (hl : l.length ≤ 140737488355328) (w : World) (hb : BytesAt w v l) :
    Calls Tryz.prog 19 #[v] w fun e w' => e = .returned (.tuple #[.agg #[.int .u64 0, .slice none 0 0], .int .i64 0, .int .i64 132]) ∧ Below w.heap.size w w' := by
  obtain ⟨A, cap, rfl, hcap, hx⟩ := hb
  obtain ⟨b, o, rfl, hc⟩ := hx hn
  have hp : 0 < l.length := List.length_pos_iff.2 hn
  have c0 := hc 0 hp
  rw [Nat.add_zero] at c0
  generalize (l.getD 0 0).toNat = x at c0 h0
  have t1 : decide ((l.length : Int) < 1) = false := decide_eq_false (by omega)
  have t2 : ((x : Int) != 77) = true := bne_iff_ne.2 (by omega)
  have hz := blk_new w (.cells #[.int .u64 0, .slice none 0 0] 25)
  have HZ := Lib.hid hz
  have HB := Lib.hid (show Below w.heap.size w (w.alloc (.cells #[.int .u64 0, .slice none 0 0] 25)) from (Below.refl _ w).alloc (Nat.le_refl _) _)
  have c1 := cell_keep HB.out c0
  clear hc hx hz c0
  go_enter Tryz.func19, Tryz.ntmps19
  go_wp2_with (refine store_whole rfl 25 2 (.tmp 20) rfl rfl w.heap.size _ #[.int .u64 0, .slice none 0 0] 25 rfl rfl HZ.out (by kernel_rfl) rfl rfl ?_; intro W1 hW1 pR pK; clear pK)
  refine bodyPost_ret (v := .tuple #[.agg #[.int .u64 0, .slice none 0 0], .int .i64 0, .int .i64 132]) (results_row3 Tryz.results19 _ _ w.heap.size 25 _ (0, 0) _ _ _ rfl pR Tryz.underlying25 rfl (by kernel_rfl) rfl rfl) rfl ⟨rfl, ?_⟩
  rw [hW1.out]; exact below_setRow HB.out (Nat.le_refl _)
set_option maxHeartbeats 1500000 in
set_option maxRecDepth 100000 in
theorem decode_rest (v : Value) (l L R : List UInt8) (M : Nat) (hL : l.drop 1 = L) (hR : L.drop 4 = R) (hM : numB (L.take 4) = M) (h5 : 5 ≤ l.length) (h0 : (l.getD 0 0).toNat = 77) (hl : l.length ≤ 4000000000) (w : World) (hb : BytesAt w v l)
    (hbad : 131072 < M ∨ (M ≤ 131072 ∧ M + 9 ≤ l.length ∧ numB ((R.drop M).take 4) ≠ sumB (R.take M))) :
    Calls Tryz.prog 19 #[v] w fun e w' => e = .returned (.tuple #[.agg #[.int .u64 0, .slice none 0 0], .int .i64 0, .int .i64 132]) ∧ Below w.heap.size w w' := by
  have HBY := Lib.hid hb
  obtain ⟨A, cap, rfl, hcap, hx⟩ := hb
  obtain ⟨b, o, rfl, hc⟩ := hx (by rintro rfl; simp at h5)
  have c0 := hc 0 (by omega)
  rw [Nat.add_zero, h0] at c0
  have hz := blk_new w (.cells #[.int .u64 0, .slice none 0 0] 25)
  have hB := (show Below w.heap.size w (w.alloc (.cells #[.int .u64 0, .slice none 0 0] 25)) from (Below.refl _ w).alloc (Nat.le_refl _) _)
  have c1 := cell_keep hB c0
  have hcap1 : ¬ cap = 1 := by omega
  have hcap2 : 1 ≤ cap := by omega
  have hl1 : 1 ≤ l.length := by omega
  have t1 : decide ((l.length : Int) < 1) = false := decide_eq_false (by omega)
  have t2 : decide ((l.length : Int) < 5) = false := decide_eq_false (by omega)
  have hLl : L.length = l.length - 1 := by rw [← hL, List.length_drop]
  have hRl : R.length = l.length - 5 := by rw [← hR, List.length_drop, hLl]; omega
  have hMl : M < 4294967296 := by
    have h1 := numB_lt (L.take 4)
    have h2 : (L.take 4).length = 4 := by rw [List.length_take]; omega
    rw [h2, hM] at h1
    omega
  have hd : BytesAt w (.slice (some ⟨b, o + 1, none⟩) (l.length - 1) (cap - 1)) L := by
    have := HBY.out.drop 1 hl1
    rw [hL] at this
    simpa [Addr.add] using this
  have hB2 : Below w.heap.size w ((w.alloc (.cells #[.int .u64 0, .slice none 0 0] 25)).alloc (.cells #[.slice (some ⟨b, o + 1, none⟩) (l.length - 1) (cap - 1)] 83)) := hB.alloc (by simp) _
  have keep : BytesAt ((w.alloc (.cells #[.int .u64 0, .slice none 0 0] 25)).alloc (.cells #[.slice (some ⟨b, o + 1, none⟩) (l.length - 1) (cap - 1)] 83)) (.slice (some ⟨b, o + 1, none⟩) (l.length - 1) (cap - 1)) L := by
    obtain ⟨A', c', hv, hc', hx'⟩ := hd
    refine ⟨A', c', hv, hc', fun hn => ?_⟩
    obtain ⟨b', o', hA, hcell⟩ := hx' hn
    exact ⟨b', o', hA, fun j hj => cell_keep hB2 (hcell j hj)⟩
  have HK := Lib.hid keep
  have HG := Lib.hid (blk_new (w.alloc (.cells #[.int .u64 0, .slice none 0 0] 25)) (.cells #[.slice (some ⟨b, o + 1, none⟩) (l.length - 1) (cap - 1)] 83))
  rw [show (w.alloc (.cells #[.int .u64 0, .slice none 0 0] 25)).heap.size = w.heap.size + 1 from by simp] at HG
  have HZ := Lib.hid (blk_old (o := .cells #[.slice (some ⟨b, o + 1, none⟩) (l.length - 1) (cap - 1)] 83) hz)
  have HB := Lib.hid hB2
  clear hc hx hz c0 hd keep hB hB2 HBY
  go_enter Tryz.func19, Tryz.ntmps19
  go_upto_region 8 with fail
  obtain ⟨W, hW⟩ : ∃ W, W = (w.alloc (.cells #[.int .u64 0, .slice none 0 0] 25)).alloc (.cells #[.slice (some ⟨b, o + 1, none⟩) (l.length - 1) (cap - 1)] 83) := ⟨_, rfl⟩
  rw [← hW] at HB HZ HG HK ⊢
  clear hW c1
  have t3 : decide (131072 < (M : Int)) = decide (131072 < M) := by by_cases h : 131072 < M <;> simp [h] <;> omega
  have HR := Lib.hid hR
  have HM := Lib.hid hM
  go_wp2_with (go_at_call 37; refine (calls_hid (num_calls (w.heap.size + 1) _ L 4 (by omega) (by decide) (by omega) _ HG.out HK.out)).mono ?_)
  rintro e w1 hh
  obtain ⟨v2, rfl, rfl, h2⟩ := hh.out
  clear hh
  rw [HM.out]
  rw [HR.out] at h2
  have hz1 := (set_far v2 (show w.heap.size ≠ w.heap.size + 1 from by omega) HZ.out : (W.setCell ⟨w.heap.size + 1, 0, none⟩ v2).heap[w.heap.size]? = _)
  have hg1 := (set_blk v2 HG.out : (W.setCell ⟨w.heap.size + 1, 0, none⟩ v2).heap[w.heap.size + 1]? = _)
  have hb1 : Below w.heap.size w (W.setCell ⟨w.heap.size + 1, 0, none⟩ v2) := HB.out.setCell (by simp) _
  have k1 := h2.setCell HG.out v2
  obtain ⟨W1, hW1⟩ : ∃ W1, W1 = W.setCell ⟨w.heap.size + 1, 0, none⟩ v2 := ⟨_, rfl⟩
  rw [← hW1] at hz1 hg1 hb1 k1 ⊢
  clear hW1 h2 HB HZ HG HK
  have HK1 := Lib.hid k1
  obtain ⟨A2, c2, rfl, hc2, _⟩ := k1
  have hg2 : W1.heap[w.heap.size + 1]? = some (.cells #[.slice A2 R.length c2] 83 (0, 0)) := hg1
  have d0 := Blk.cell hg2 0
  simp only [List.getElem?_toArray, List.getElem?_cons_zero] at d0
  have HZ1 := Lib.hid hz1
  have HG1 := Lib.hid hg2
  have HB1 := Lib.hid hb1
  clear hz1 hg1 hg2 hb1
  rcases hbad with hm | ⟨hm, hlen, hne⟩
  · have t4 : decide (131072 < (M : Int)) = true := decide_eq_true (by omega)
    go_wp2_with (refine store_whole rfl 25 2 (.tmp 35) rfl rfl w.heap.size _ #[.int .u64 0, .slice none 0 0] 25 rfl rfl HZ1.out (by kernel_rfl) rfl rfl ?_; intro Wz hWz pR pK; clear pK)
    refine bodyPost_ret (v := .tuple #[.agg #[.int .u64 0, .slice none 0 0], .int .i64 0, .int .i64 132]) (results_row3 Tryz.results19 _ _ w.heap.size 25 _ (0, 0) _ _ _ rfl pR Tryz.underlying25 rfl (by kernel_rfl) rfl rfl) rfl ⟨rfl, ?_⟩
    rw [hWz.out]; exact below_setRow HB1.out (Nat.le_refl _)
  · have t4 : decide (131072 < (M : Int)) = false := decide_eq_false (by omega)
    have t5 : decide ((R.length : Int) < (M : Int) + 4) = false := decide_eq_false (by omega)
    go_wp2_with (go_at_call 38; refine (calls_hid (take_calls (w.heap.size + 1) _ R M (by omega) (by omega) _ HG1.out HK1.out)).mono ?_)
    rintro e w2 hh
    obtain ⟨v3, v4, rfl, rfl, k3, k4⟩ := hh.out
    clear hh
    have hz2 := (set_far v4 (show w.heap.size ≠ w.heap.size + 1 from by omega) HZ1.out : (W1.setCell ⟨w.heap.size + 1, 0, none⟩ v4).heap[w.heap.size]? = _)
    have hg2 := (set_blk v4 HG1.out : (W1.setCell ⟨w.heap.size + 1, 0, none⟩ v4).heap[w.heap.size + 1]? = _)
    have hb2 : Below w.heap.size w (W1.setCell ⟨w.heap.size + 1, 0, none⟩ v4) := HB1.out.setCell (by simp) _
    have k3 := k3.setCell HG1.out v4
    have k4 := k4.setCell HG1.out v4
    obtain ⟨W2, hW2⟩ : ∃ W2, W2 = W1.setCell ⟨w.heap.size + 1, 0, none⟩ v4 := ⟨_, rfl⟩
    rw [← hW2] at hz2 hg2 hb2 k3 k4 ⊢
    clear hW2 HB1 HZ1 HG1 HK1 d0
    have HK3 := Lib.hid k3
    have HK4 := Lib.hid k4
    obtain ⟨A3, c3, rfl, _, _⟩ := k3
    obtain ⟨A4, c4, rfl, _, _⟩ := k4
    have HG2 := Lib.hid (show W2.heap[w.heap.size + 1]? = some (.cells #[.slice A4 (R.drop M).length c4] 83 (0, 0)) from hg2)
    have HZ2 := Lib.hid hz2
    have HB2 := Lib.hid hb2
    have hP : (R.drop M).length = R.length - M := List.length_drop
    have hQ : (R.take M).length = M := by rw [List.length_take]; omega
    obtain ⟨P, hPe⟩ : ∃ P, P = R.drop M := ⟨_, rfl⟩
    obtain ⟨Q, hQe⟩ : ∃ Q, Q = R.take M := ⟨_, rfl⟩
    rw [← hPe] at HG2 HK4 hP hne
    rw [← hQe] at HK3 hQ hne ⊢
    clear hz2 hg2 hb2 hPe hQe
    go_wp2_with (go_at_call 37; refine (calls_hid (num_calls (w.heap.size + 1) _ P 4 (by omega) (by decide) (by omega) _ HG2.out HK4.out)).mono ?_)
    rintro e w3 hh
    obtain ⟨v5, rfl, rfl, k5⟩ := hh.out
    clear hh
    have hX : numB (P.take 4) < 4294967296 := by
      have h1 := numB_lt (P.take 4)
      have h2 : (P.take 4).length = 4 := by rw [List.length_take]; omega
      rw [h2] at h1
      omega
    have hY : sumB Q < 4294967296 := by have := sumS_lt (nums Q) (nums_lt _); unfold sumB; omega
    have hz3 := (set_far v5 (show w.heap.size ≠ w.heap.size + 1 from by omega) HZ2.out : (W2.setCell ⟨w.heap.size + 1, 0, none⟩ v5).heap[w.heap.size]? = _)
    have hb3 : Below w.heap.size w (W2.setCell ⟨w.heap.size + 1, 0, none⟩ v5) := HB2.out.setCell (by simp) _
    have k6 := HK3.out.setCell HG2.out v5
    obtain ⟨W3, hW3⟩ : ∃ W3, W3 = W2.setCell ⟨w.heap.size + 1, 0, none⟩ v5 := ⟨_, rfl⟩
    rw [← hW3] at hz3 hb3 k6 ⊢
    clear hW3 k5 HB2 HZ2 HG2 HK3 HK4
    have HZ3 := Lib.hid hz3
    have HB3 := Lib.hid hb3
    rw [hQ] at k6
    have HK6 := Lib.hid k6
    have HQ4 : Q.length ≤ 140737488355328 := by omega
    have HSum := Lib.hid (fun (W : World) (h : BytesAt W (.slice A3 M c3) Q) => sum_calls (.slice A3 M c3) Q HQ4 W h)
    clear hz3 hb3 k6
    generalize numB (P.take 4) = X at hne hX ⊢
    generalize sumB Q = Y at hne hY HSum ⊢
    have t6 : ((X : Int) != (Y : Int)) = true := bne_iff_ne.2 (by omega)
    go_wp2_with (go_at_call 20; refine (calls_hid (HSum.out _ HK6.out)).mono ?_)
    rintro e w4 hh
    obtain ⟨rfl, rfl⟩ := hh.out
    clear hh
    go_wp2_with (refine store_whole rfl 25 2 (.tmp 54) rfl rfl w.heap.size _ #[.int .u64 0, .slice none 0 0] 25 rfl rfl HZ3.out (by kernel_rfl) rfl rfl ?_; intro Wz hWz pR pK; clear pK)
    refine bodyPost_ret (v := .tuple #[.agg #[.int .u64 0, .slice none 0 0], .int .i64 0, .int .i64 132]) (results_row3 Tryz.results19 _ _ w.heap.size 25 _ (0, 0) _ _ _ rfl pR Tryz.underlying25 rfl (by kernel_rfl) rfl rfl) rfl ⟨rfl, ?_⟩
    rw [hWz.out]; exact below_setRow HB3.out (Nat.le_refl _)
end Go.Proofs.YtkhgfdlinobabaaGreatDoor.G
