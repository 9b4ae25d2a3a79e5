/- JournalTells: the law's own walk. -/
import Derived.Test.YtkhgfdlinobabaaDoorJTell
namespace Go.Proofs.YtkhgfdlinobabaaDoor.G
open Go.RowKit
set_option linter.unusedVariables false
set_option linter.unusedSimpArgs false
theorem Bs.set {base : Nat} {w : World} {g n cap : Nat} {l : List UInt8} (hn : n = l.length) (h : Bs base w (.slice (some ⟨g, 0, none⟩) n cap) l) (j : Nat) (x : UInt8) (c : Int) (hc : (x.toNat : Int) = c) : Bs base (w.setCell ⟨g, j, none⟩ (.int .u8 c)) (.slice (some ⟨g, 0, none⟩) n cap) (l.set j x) := by
  subst hn hc
  have h1 := (World.ownsRow.stored h j (.int .u8 (x.toNat : Int))).1
  show World.ownsRow _ _ _ _ _ _ _
  have e : Lib.byteCells (l.set j x) = (Lib.byteCells l).set j (.int .u8 (x.toNat : Int)) := by simp [Lib.byteCells, List.map_set]
  rw [e, List.length_set]
  exact h1
theorem Bs.some_ {base : Nat} {w : World} {v : Value} {l : List UInt8} (h : Bs base w v l) (hn : l ≠ []) : ∃ g c, v = .slice (some ⟨g, 0, none⟩) l.length c ∧ base ≤ g ∧ (∀ j, j < l.length → w.cell? ⟨g, j, none⟩ = some (.int .u8 ((l.getD j 0).toNat : Int))) ∧ ∀ j, w.frozen? ⟨g, j, none⟩ = false := by
  rcases h.2 with ⟨hv, h0⟩ | ⟨g, cap, cur, hv, hb, hh, _⟩
  · exact absurd (List.eq_nil_of_length_eq_zero h0) hn
  · refine ⟨g, cap, hv, hb, fun j hj => ?_, fun j => Blk.free hh j⟩
    subst hv
    have h1 := World.ownsRow.cells (g := g) h rfl j (.int .u8 (l[j].toNat : Int)) (by simp [Lib.byteCells, hj])
    have hadd : (⟨g, 0, none⟩ : Addr).add j = ⟨g, j, none⟩ := by unfold Addr.add; split <;> simp_all
    rw [hadd] at h1
    rw [h1]; simp [hj, List.getD]
theorem xor_u8 (a x : UInt8) : (((a ^^^ x).toNat : Nat) : Int) = bits .xor .u8 (a.toNat : Int) (x.toNat : Int) := by
  rw [xor8 _ _ a.toNat_lt x.toNat_lt, UInt8.toNat_xor]
theorem opsmall_tags {os : List OpV} (hs : ∀ j, j < os.length → OpSmall (os.getD j OpV.zero)) : ∀ j, j < os.length → (os.getD j OpV.zero).svc.tags.length ≤ 1048576 := fun j hj => (hs j hj).hl
set_option maxHeartbeats 2000000 in
set_option maxRecDepth 100000 in
theorem tells_law (hfix : ∀ W, VarsOk W → Calls Tryd.prog 6 #[] W (fun e w' => e = .returned (.bool true) ∧ Below W.heap.size W w'))
    (idx : Nat) (hidx : idx < 18446744073709551616) (v : Value) (os : List OpV) (hs : ∀ j, j < os.length → OpSmall (os.getD j OpV.zero)) (hwt : ∀ j, j < os.length → 0 ≤ (os.getD j OpV.zero).want ∧ (os.getD j OpV.zero).want < 18446744073709551616) (hn : os.length ≤ 1048576) (at_ : Int) (x : Nat) (hx : x < 256) (w : World) (hv : VarsOk w) (h : OpsAt w v os) :
    Calls Tryd.prog 5 #[.agg #[.int .u64 (idx : Int), v], .int .i64 at_, .int .u8 (x : Int)] w fun e w' => e = .returned (.bool true) ∧ Below w.heap.size w w' := by
  have HO := Lib.hid h
  have HV := Lib.hid hv
  have HT := Lib.hid (opsmall_tags hs)
  have HS := Lib.hid hs
  have HW := Lib.hid hwt
  obtain ⟨A, cap, rfl, _⟩ := h
  clear hs hwt hv
  go_enter Tryd.func5, Tryd.ntmps5
  have HB0 := Lib.hid (show Below w.heap.size w (w.alloc (.cells #[.int .u64 (idx : Int), .slice A os.length cap] 31)) from (Below.refl _ w).alloc (Nat.le_refl _) _)
  go_wp2_with (go_at_call 6; refine (hfix _ (HV.out.below HB0.out)).mono ?_)
  rintro e w1 rfl hb1
  have HX := Lib.hid ((hb1.block w.heap.size (by omega)).trans (blk_new w (.cells #[.int .u64 (idx : Int), .slice A os.length cap] 31)))
  have HB1 := Lib.hid (HB0.out.trans (hb1.mono (B' := w.heap.size) (by omega)))
  have z1 : w.heap.size + 1 ≤ w1.heap.size := by have := hb1.size; simp at this; omega
  clear hb1 HB0
  go_wp2_with (first | (refine wpList_load_row rfl 31 (.tmp 3) rfl w.heap.size rfl _ _ _ _ HX.out Tryd.underlying31 rfl (by kernel_rfl) ?_) | (go_at_call 11; refine (calls_hid (copy_calls (idx : Int) _ os HT.out hn _ (HO.out.below HB1.out))).mono ?_))
  rintro e w2 hh
  obtain ⟨v2, vts, rfl, hown, hb2⟩ := hh.out
  clear hh
  have HO2 := Lib.hid hown.at_
  have HB2 := Lib.hid (HB1.out.trans (hb2.mono (by omega)))
  have z2 : w.heap.size + 1 ≤ w2.heap.size := by have := hb2.size; omega
  clear hown hb2 HB1 HX
  go_wp2_with (go_at_call 10; refine (calls_hid (encode_calls idx hidx _ os HS.out HW.out hn _ (HV.out.below HB2.out) HO2.out)).mono ?_)
  rintro e w3 hh
  obtain ⟨hd, hb3⟩ := hh.out
  clear hh
  have HB3 := Lib.hid (HB2.out.trans (hb3.mono (by omega)))
  rcases hd with ⟨hsd, rfl⟩ | ⟨hsd, v3, rfl, hbs⟩
  · clear hsd hb3
    go_wp2
    go_ret
    exact ⟨rfl, HB3.out⟩
  · have HBs := Lib.hid hbs
    have HFB := Lib.hid (frame_bad (payB idx os))
    have hfr : frameB idx os = (((([77] : List UInt8) ++ bigB (payB idx os).length 4) ++ payB idx os) ++ bigB (sumB (payB idx os)) 4) := rfl
    rw [← hfr] at HFB
    have HPL := Lib.hid (show (payB idx os).length < 4294967296 ∧ (frameB idx os).length ≤ 3000000000 from by
      have hn2 : os.length ≤ 64 := hsd.1.2
      have hplen : (payB idx os).length ≤ 1600000009 := by
        have h1 := opsB_len os (fun o ho => by
          obtain ⟨j, hj, rfl⟩ := List.getElem_of_mem ho
          have e : os[j] = os.getD j OpV.zero := by simp [List.getD, hj]
          rw [e]
          exact opB_len (HS.out j hj) (fixOp_tags (hsd.2 j hj)))
        have h3 : os.length * 25000000 ≤ 64 * 25000000 := Nat.mul_le_mul_right _ hn2
        unfold payB
        simp only [List.length_append, bigB_len, List.length_cons, List.length_nil]
        omega
      refine ⟨by omega, ?_⟩
      unfold frameB
      simp only [List.length_append, bigB_len, List.length_cons, List.length_nil]
      omega)
    clear hfr hsd hb3
    generalize frameB idx os = l at HBs HFB HPL hbs
    obtain ⟨A3, c3, rfl⟩ := hbs.slice
    clear hbs
    by_cases g1 : at_ < 0
    · have t1 : decide (at_ < 0) = true := decide_eq_true g1
      go_wp2
      go_ret
      exact ⟨rfl, HB3.out⟩
    obtain ⟨i, rfl⟩ : ∃ i : Nat, at_ = i := ⟨at_.toNat, by omega⟩
    have t1 : decide ((i : Int) < 0) = false := decide_eq_false g1
    by_cases g2 : l.length ≤ i
    · have t2 : decide ((l.length : Int) ≤ (i : Int)) = true := decide_eq_true (by omega)
      go_wp2
      go_ret
      exact ⟨rfl, HB3.out⟩
    have t2 : decide ((l.length : Int) ≤ (i : Int)) = false := decide_eq_false (by omega)
    by_cases g3 : 1 ≤ i ∧ i ≤ 4
    · have t3 : decide ((1 : Int) ≤ (i : Int)) = true := decide_eq_true (by omega)
      have t4 : decide ((i : Int) ≤ 4) = true := decide_eq_true (by omega)
      go_wp2
      go_ret
      exact ⟨rfl, HB3.out⟩
    by_cases g4 : x = 0
    · subst g4
      rcases (show i < 1 ∨ (1 ≤ i ∧ 4 < i) by omega) with g5 | ⟨g5, g6⟩
      · have t3 : decide ((1 : Int) ≤ (i : Int)) = false := decide_eq_false (by omega)
        go_wp2
        go_ret
        exact ⟨rfl, HB3.out⟩
      · have t3 : decide ((1 : Int) ≤ (i : Int)) = true := decide_eq_true (by omega)
        have t4 : decide ((i : Int) ≤ 4) = false := decide_eq_false (by omega)
        go_wp2
        go_ret
        exact ⟨rfl, HB3.out⟩
    have hne : l ≠ [] := by rintro rfl; simp at g2
    obtain ⟨X, rfl⟩ : ∃ X : UInt8, X.toNat = x := ⟨UInt8.ofNat x, by rw [UInt8.toNat_ofNat']; omega⟩
    have HE := Lib.hid (show Bs w3.heap.size (w3.alloc (.cells #[] 5)) (.slice (some ⟨w3.heap.size, 0, none⟩) 0 0) [] from ⟨rfl, .inr ⟨_, 0, #[], rfl, Nat.le_refl _, blk_new _ _, Nat.le_refl _, by decide, rfl, rfl⟩⟩)
    have HA := Lib.hid (BytesAt.of_bs (Bs.alloc HBs.out (.cells #[] 5)))
    have HPl := HPL.out.2
    rcases (show i < 1 ∨ (1 ≤ i ∧ 4 < i) by omega) with g5 | ⟨g5, g6⟩
    · have t3 : decide ((1 : Int) ≤ (i : Int)) = false := decide_eq_false (by omega)
      have t5 : ((X.toNat : Int) == 0) = false := beq_eq_false_iff_ne.2 (by omega)
      go_upto_region 8 with (at_builtin; refine app_bytes rfl (.tmp 45) (.tmp 46) rfl w3.heap.size (.slice (some ⟨w3.heap.size, 0, none⟩) 0 0) [] _ l rfl rfl (by simp; omega) (by simp) HE.out HA.out hne ?_; intro v4 w4 hO4 hK4; have hO5 := hO4.out; rw [List.nil_append] at hO5; obtain ⟨g, c4, rfl, hg, hcell, hfr⟩ := hO5.some_ hne; have c5 := hcell i (by omega); have f5 := hfr i; clear hcell hfr)
      have hil : i < l.length := by omega
      have hY : l[i] ≠ l[i] ^^^ X := fun e => g4 (by
        have e2 := congrArg (fun a => l[i] ^^^ a) e
        simp only [← UInt8.xor_assoc, UInt8.xor_self, UInt8.zero_xor] at e2
        rw [← e2]; rfl)
      have hset := Bs.set rfl hO5 i (l[i] ^^^ X) _ (xor_u8 l[i] X)
      have HSet := Lib.hid (BytesAt.of_bs hset)
      have HBad := Lib.hid (HFB.out HPL.out.1 i (l[i] ^^^ X) l rfl hil hY g3)
      have hl9 : (l.set i (l[i] ^^^ X)).length ≤ 4000000000 := by rw [List.length_set]; omega
      clear hset hO5 c5 f5
      go_wp2_with (go_at_call 12; refine (calls_hid (decode_bad _ _ hl9 _ HSet.out HBad.out)).mono ?_)
      rintro e w5 hh
      obtain ⟨rfl, hb5⟩ := hh.out
      clear hh
      go_wp2
      go_ret
      refine ⟨rfl, ?_⟩
      have b4 : Below w3.heap.size w3 w4 := ((Below.refl _ w3).alloc (Nat.le_refl _) _).trans hK4.out.kp.below
      have b5 := (b4.setCell hg _).trans (hb5.mono (by have := b4.size; simpa [size_setCell] using this))
      have z3 := HB3.out.size
      have b6 := HB3.out.trans (b5.mono z3)
      exact b6.alloc b6.size _
    · have t3 : decide ((1 : Int) ≤ (i : Int)) = true := decide_eq_true (by omega)
      have t4 : decide ((i : Int) ≤ 4) = false := decide_eq_false (by omega)
      have t5 : ((X.toNat : Int) == 0) = false := beq_eq_false_iff_ne.2 (by omega)
      go_upto_region 8 with (at_builtin; refine app_bytes rfl (.tmp 45) (.tmp 46) rfl w3.heap.size (.slice (some ⟨w3.heap.size, 0, none⟩) 0 0) [] _ l rfl rfl (by simp; omega) (by simp) HE.out HA.out hne ?_; intro v4 w4 hO4 hK4; have hO5 := hO4.out; rw [List.nil_append] at hO5; obtain ⟨g, c4, rfl, hg, hcell, hfr⟩ := hO5.some_ hne; have c5 := hcell i (by omega); have f5 := hfr i; clear hcell hfr)
      have hil : i < l.length := by omega
      have hY : l[i] ≠ l[i] ^^^ X := fun e => g4 (by
        have e2 := congrArg (fun a => l[i] ^^^ a) e
        simp only [← UInt8.xor_assoc, UInt8.xor_self, UInt8.zero_xor] at e2
        rw [← e2]; rfl)
      have hset := Bs.set rfl hO5 i (l[i] ^^^ X) _ (xor_u8 l[i] X)
      have HSet := Lib.hid (BytesAt.of_bs hset)
      have HBad := Lib.hid (HFB.out HPL.out.1 i (l[i] ^^^ X) l rfl hil hY g3)
      have hl9 : (l.set i (l[i] ^^^ X)).length ≤ 4000000000 := by rw [List.length_set]; omega
      clear hset hO5 c5 f5
      go_wp2_with (go_at_call 12; refine (calls_hid (decode_bad _ _ hl9 _ HSet.out HBad.out)).mono ?_)
      rintro e w5 hh
      obtain ⟨rfl, hb5⟩ := hh.out
      clear hh
      go_wp2
      go_ret
      refine ⟨rfl, ?_⟩
      have b4 : Below w3.heap.size w3 w4 := ((Below.refl _ w3).alloc (Nat.le_refl _) _).trans hK4.out.kp.below
      have b5 := (b4.setCell hg _).trans (hb5.mono (by have := b4.size; simpa [size_setCell] using this))
      have z3 := HB3.out.size
      have b6 := HB3.out.trans (b5.mono z3)
      exact b6.alloc b6.size _
end Go.Proofs.YtkhgfdlinobabaaDoor.G
