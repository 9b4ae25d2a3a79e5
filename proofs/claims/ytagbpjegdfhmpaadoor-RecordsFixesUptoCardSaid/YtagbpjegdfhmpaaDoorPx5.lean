-- Written by a program of this session (mp.py) over the kit's print.
import Derived.Test.YtagbpjegdfhmpaaDoorPx0
import Derived.Test.YtagbpjegdfhmpaaDoorPx4
namespace Go.Proofs.YtagbpjegdfhmpaaDoor.P
open Go.RowKit Go.Proofs.YtagbpjegdfhmpaaDoorW.PrintWords Go.Proofs.YtagbpjegdfhmpaaDoorW.PrintLast Go.Proofs.YtagbpjegdfhmpaaDoorW.PrintMore
attribute [local go_sem] max2_int min2_int max_two min_two max_three min_three max_four min_four   -- for this text's walks alone
open Go.Proofs.YtagbpjegdfhmpaaDoor.G
set_option linter.unusedVariables false
set_option linter.unusedSimpArgs false

/-! ### musterref09_Label: function 11 -/
mutual
def musterref09_Label.j0 : Nat → ByteArray → Bool → Option (ByteArray × Int)
  | 0, _, _ => none
  | k + 1, x4, x16 => if x16 = true then (some ((⟨#[]⟩ : ByteArray), 90)) else (musterref09_Label.l0 k x4 0)
def musterref09_Label.l0 : Nat → ByteArray → Int → Option (ByteArray × Int)
  | 0, _, _ => none
  | k + 1, x4, x5 => if x5 < (x4.size : Int) then (if 0 ≤ x5 then (if (bt x4 x5) ≥ 97 then (if (bt x4 x5) ≤ 122 then (musterref09_Label.l0 k x4 (wrap64 (x5 + 1))) else (if (bt x4 x5) ≥ 48 then (if ((bt x4 x5) ≤ 57) then (musterref09_Label.l0 k x4 (wrap64 (x5 + 1))) else (if (bt x4 x5) = 45 then (if x5 = 0 then (some ((⟨#[]⟩ : ByteArray), 90)) else (if x5 = (wrap64 ((x4.size : Int) - 1)) then (some ((⟨#[]⟩ : ByteArray), 90)) else (musterref09_Label.l0 k x4 (wrap64 (x5 + 1))))) else (some ((⟨#[]⟩ : ByteArray), 90)))) else (if (bt x4 x5) = 45 then (if x5 = 0 then (some ((⟨#[]⟩ : ByteArray), 90)) else (if x5 = (wrap64 ((x4.size : Int) - 1)) then (some ((⟨#[]⟩ : ByteArray), 90)) else (musterref09_Label.l0 k x4 (wrap64 (x5 + 1))))) else (some ((⟨#[]⟩ : ByteArray), 90))))) else (if (bt x4 x5) ≥ 48 then (if ((bt x4 x5) ≤ 57) then (musterref09_Label.l0 k x4 (wrap64 (x5 + 1))) else (if (bt x4 x5) = 45 then (if x5 = 0 then (some ((⟨#[]⟩ : ByteArray), 90)) else (if x5 = (wrap64 ((x4.size : Int) - 1)) then (some ((⟨#[]⟩ : ByteArray), 90)) else (musterref09_Label.l0 k x4 (wrap64 (x5 + 1))))) else (some ((⟨#[]⟩ : ByteArray), 90)))) else (if (bt x4 x5) = 45 then (if x5 = 0 then (some ((⟨#[]⟩ : ByteArray), 90)) else (if x5 = (wrap64 ((x4.size : Int) - 1)) then (some ((⟨#[]⟩ : ByteArray), 90)) else (musterref09_Label.l0 k x4 (wrap64 (x5 + 1))))) else (some ((⟨#[]⟩ : ByteArray), 90))))) else (none)) else (some (x4, 0))
end
def musterref09_Label.f (k : Nat) (a0 : ByteArray) : Option (ByteArray × Int) := (musterref07_Low.f k a0).bind fun t123 => (if (t123.size : Int) = 0 then (musterref09_Label.j0 k t123 true) else (musterref09_Label.j0 k t123 (decide ((t123.size : Int) > 63))))
theorem musterref09_Label.mono_l : ∀ k, (∀ y0 y1, LeO (musterref09_Label.j0 k y0 y1) (musterref09_Label.j0 (k + 1) y0 y1)) ∧ (∀ y0 y1, LeO (musterref09_Label.l0 k y0 y1) (musterref09_Label.l0 (k + 1) y0 y1))
  | 0 => ⟨fun _ _ r h => by simp [musterref09_Label.j0] at h, fun _ _ r h => by simp [musterref09_Label.l0] at h⟩
  | k + 1 => by
    obtain ⟨ih0, ih1⟩ := musterref09_Label.mono_l k
    refine ⟨?_, ?_⟩
    · intro y0 y1
      unfold musterref09_Label.j0
      repeat' first
      | (with_reducible exact ih0 _ _)
      | (with_reducible exact ih1 _ _)
      | (with_reducible exact musterref07_Low.mono _ _)
      | (with_reducible exact LeO.refl _)
      | (with_reducible exact LeO.none _)
      | (with_reducible refine LeO.ite ?_ ?_)
      | (with_reducible refine LeO.bind ?_ (fun _ => ?_))
      | exact ih0 _ _
      | exact ih1 _ _
      | exact musterref07_Low.mono _ _
      | exact LeO.none _
      | refine LeO.ite ?_ ?_
      | refine LeO.bind ?_ (fun _ => ?_)
    · intro y0 y1
      unfold musterref09_Label.l0
      repeat' first
      | (with_reducible exact ih0 _ _)
      | (with_reducible exact ih1 _ _)
      | (with_reducible exact musterref07_Low.mono _ _)
      | (with_reducible exact LeO.refl _)
      | (with_reducible exact LeO.none _)
      | (with_reducible refine LeO.ite ?_ ?_)
      | (with_reducible refine LeO.bind ?_ (fun _ => ?_))
      | exact ih0 _ _
      | exact ih1 _ _
      | exact musterref07_Low.mono _ _
      | exact LeO.none _
      | refine LeO.ite ?_ ?_
      | refine LeO.bind ?_ (fun _ => ?_)
theorem musterref09_Label.mono : ∀ a0 k, LeO (musterref09_Label.f k a0) (musterref09_Label.f (k + 1) a0) := by
  intro a0 k
  obtain ⟨ih0, ih1⟩ := musterref09_Label.mono_l k
  unfold musterref09_Label.f
  repeat' first
      | (with_reducible exact ih0 _ _)
      | (with_reducible exact ih1 _ _)
      | (with_reducible exact musterref07_Low.mono _ _)
      | (with_reducible exact LeO.refl _)
      | (with_reducible exact LeO.none _)
      | (with_reducible refine LeO.ite ?_ ?_)
      | (with_reducible refine LeO.bind ?_ (fun _ => ?_))
      | exact ih0 _ _
      | exact ih1 _ _
      | exact musterref07_Low.mono _ _
      | exact LeO.none _
      | refine LeO.ite ?_ ?_
      | refine LeO.bind ?_ (fun _ => ?_)
set_option maxHeartbeats 8000000 in
set_option maxRecDepth 100000 in
theorem musterref09_Label.calls (k : Nat) (a0 : ByteArray) (r1 : ByteArray) (r2 : Int) (w : World) (h : musterref09_Label.f k a0 = some (r1, r2)) :
    Calls Tryd.prog 11 #[.string a0] w fun e w' => e = .returned (.tuple #[.string r1, .int .i64 r2]) ∧ Below w.heap.size w w' := by
  have HB := Aside0.mk (Below.refl w.heap.size w)
  have H : ((musterref07_Low.f k a0).bind fun t123 => (if (t123.size : Int) = 0 then (musterref09_Label.j0 k t123 true) else (musterref09_Label.j0 k t123 (decide ((t123.size : Int) > 63))))) = some (r1, r2) := h
  clear h
  replace H := Option.bind_eq_some_iff.mp H
  obtain ⟨t123, A20, H⟩ := H
  replace H : (if (t123.size : Int) = 0 then (musterref09_Label.j0 k t123 true) else (musterref09_Label.j0 k t123 (decide ((t123.size : Int) > 63)))) = some (r1, r2) := H
  have A2 := Aside0.mk A20
  clear A20
  have HC3 := Aside0.mk H
  clear H
  go_enter Tryd.func11, Tryd.ntmps11
  go_upto_region 2 with (first | ((with_reducible refine gate_callee (f := 34) rfl ?_); refine goesL_ (some 8) rfl rfl Tryd.func34 (by kernel_rfl) rfl #[.string a0] rfl (by (try simp only [List.map_toArray, List.map_cons, List.map_nil]); first | done | rfl | (simp only [List.length_drop, List.length_take]; rfl)) ?_; (with_reducible refine (musterref07_Low.calls k a0 t123 _ A2.out).mono ?_); rintro e w4 ⟨rfl, hb⟩; refine ⟨_, rfl, ?_⟩; have n0_ := Aside0.mk (below_step (by repeat (first | (with_reducible first | exact HB.out | apply below_alloc | apply pw_below_drewN | apply below_drew1) | exact HB.out)) hb); clear HB; have HB := n0_; clear n0_; (try clear hb); (try clear hb2); (try clear hk); (try clear hi)))
  (try simp only [Act.put, List.setIfInBounds_toArray, List.set_cons_zero, List.set_cons_succ])
  go_cut [16] (fun v16 wc => ∃ (kq : Nat) (x16_2 : Bool), v16 = .bool x16_2 ∧ Aside0 (musterref09_Label.j0 kq t123 x16_2 = some (r1, r2)) ∧ Aside0 (kq ≤ k) ∧ Aside0 (Below w.heap.size w wc))
  case first =>
    have H := HC3.out
    clear HC3
    by_cases c5 : (t123.size : Int) = 0
    · rw [if_pos c5] at H
      have c5b0 : ((t123.size : Int) == 0) = true := beq_iff_eq.mpr c5
      have c5b1 : ((t123.size : Int) != 0) = false := bne_eq_false_iff_eq.mpr c5
      clear c5
      (first | rw [c5b0] | (simp only [i64_w, i32_w]; rw [c5b0]) | skip)
      have H' := Aside0.mk H
      clear H
      go_wp2
      go_meet
      case rel => exact ⟨_, (true), (by first | rfl | (simp; done) | (simp [*]; done)), H', ⟨by first | omega | exact Nat.le_refl _⟩, ⟨by repeat (first | (with_reducible first | exact HB.out | apply below_alloc | apply pw_below_drewN | apply below_drew1) | exact HB.out)⟩⟩
    · rw [if_neg c5] at H
      have c5b0 : ((t123.size : Int) == 0) = false := beq_eq_false_iff_ne.mpr c5
      have c5b1 : ((t123.size : Int) != 0) = true := bne_iff_ne.mpr c5
      (first | rw [c5b0] | (simp only [i64_w, i32_w]; rw [c5b0]) | skip)
      have H' := Aside0.mk H
      clear H
      go_wp2
      go_meet
      case rel => exact ⟨_, (decide ((t123.size : Int) > 63)), (by first | rfl | (simp; done) | (simp [*]; done)), H', ⟨by first | omega | exact Nat.le_refl _⟩, ⟨by repeat (first | (with_reducible first | exact HB.out | apply below_alloc | apply pw_below_drewN | apply below_drew1) | exact HB.out)⟩⟩
  case rest =>
    clear HC3
    try clear c1
    try clear p2
    try clear c3
    try clear c5
    try clear c5b0
    try clear c5b1
    obtain ⟨kq, x16_2, rfl, HA, HJ2, HB⟩ := hcut
    cases kq with
    | zero => exact absurd HA.out (by simp [musterref09_Label.j0])
    | succ kj2 =>
      have H := HA.out
      clear HA
      simp only [musterref09_Label.j0] at H
      by_cases c6 : x16_2 = true
      · subst c6
        have H1 : (some ((⟨#[]⟩ : ByteArray), 90)) = some (r1, r2) := by rw [if_pos rfl] at H; exact H
        clear H
        have H := H1
        clear H1
        simp only [Option.some.injEq, Prod.mk.injEq] at H
        obtain ⟨rfl, rfl⟩ := H
        go_wp2
        go_ret2
        exact ⟨by first | rfl | (simp [errW_none, errW_some] <;> rfl) | (simp [*, errW_none, errW_some] <;> rfl), by repeat (first | (with_reducible first | exact HB.out | apply below_alloc | apply pw_below_drewN | apply below_drew1) | exact HB.out)⟩
      · replace c6 := Bool.eq_false_iff.mpr c6
        subst c6
        have H1 : (musterref09_Label.l0 kj2 t123 0) = some (r1, r2) := by rw [if_neg (show ¬ (false = true) by decide)] at H; exact H
        clear H
        have H := H1
        clear H1
        have H' := Aside0.mk H
        clear H
        go_wp2
        go_loopg [5] kj2 (fun kq v5 w' => ∃ (x5_2 : Int), v5 = .int .i64 x5_2 ∧ Aside0 (musterref09_Label.l0 kq t123 x5_2 = some (r1, r2)) ∧ Aside0 (kq ≤ kj2) ∧ Aside0 (Below w.heap.size w w'))
        case atStart => exact ⟨(0), (by first | rfl | (simp; done) | (simp [*]; done)), H', ⟨Nat.le_refl _⟩, ⟨by repeat (first | (with_reducible first | exact HB.out | apply below_alloc | apply pw_below_drewN | apply below_drew1) | exact HB.out)⟩⟩
        case round =>
          clear H'
          try clear c1
          try clear p2
          try clear c3
          try clear c5
          try clear c5b0
          try clear c5b1
          try clear c6
          try clear p2
          obtain ⟨x5_2, rfl, HA, HK2, HB⟩ := hrel
          cases gk with
          | zero => exact absurd HA.out (by simp [musterref09_Label.l0])
          | succ k2 =>
            have H := HA.out
            clear HA
            simp only [musterref09_Label.l0] at H
            by_cases c7 : x5_2 < (t123.size : Int)
            · rw [if_pos c7] at H
              have c7b0 : decide (x5_2 < (t123.size : Int)) = true := decide_eq_true c7
              clear c7
              by_cases c8 : 0 ≤ x5_2
              · rw [if_pos c8] at H
                have c8b0 : decide (0 ≤ x5_2) = true := decide_eq_true c8
                clear c8
                by_cases c10 : (bt t123 x5_2) ≥ 97
                · rw [if_pos c10] at H
                  have c10b0 : decide (97 ≤ (bt t123 x5_2)) = true := decide_eq_true c10
                  clear c10
                  by_cases c12 : (bt t123 x5_2) ≤ 122
                  · rw [if_pos c12] at H
                    have c12b0 : decide ((bt t123 x5_2) ≤ 122) = true := decide_eq_true c12
                    clear c12
                    have H' := Aside0.mk H
                    clear H
                    have p9 : 0 ≤ (x5_2 : Int) := of_decide_eq_true (by first | (with_reducible assumption) | assumption)
                    have q9 : x5_2 < (t123.size : Int) := of_decide_eq_true (by first | (with_reducible assumption) | assumption)
                    have hx9 := bt_at t123 x5_2
                    replace p9 := eq_true p9
                    replace q9 := eq_true q9
                    have p11 : 0 ≤ (x5_2 : Int) := of_decide_eq_true (by first | (with_reducible assumption) | assumption)
                    have q11 : x5_2 < (t123.size : Int) := of_decide_eq_true (by first | (with_reducible assumption) | assumption)
                    have hx11 := bt_at t123 x5_2
                    replace p11 := eq_true p11
                    replace q11 := eq_true q11
                    go_wp2
                    go_roundg k2
                    case measure => have := HJ2.out; have := HK2.out; omega
                    case rel => exact ⟨(wrap64 (x5_2 + 1)), (by first | rfl | (simp; done) | (simp [*]; done)), H', ⟨by have := HJ2.out; have := HK2.out; omega⟩, ⟨by repeat (first | (with_reducible first | exact HB.out | apply below_alloc | apply pw_below_drewN | apply below_drew1) | exact HB.out)⟩⟩
                  · rw [if_neg c12] at H
                    have c12b0 : decide ((bt t123 x5_2) ≤ 122) = false := decide_eq_false c12
                    clear c12
                    by_cases c14 : (bt t123 x5_2) ≥ 48
                    · rw [if_pos c14] at H
                      have c14b0 : decide (48 ≤ (bt t123 x5_2)) = true := decide_eq_true c14
                      clear c14
                      by_cases c16 : ((bt t123 x5_2) ≤ 57)
                      · rw [if_pos c16] at H
                        have c16b0 : decide ((bt t123 x5_2) ≤ 57) = true := decide_eq_true c16
                        clear c16
                        have H' := Aside0.mk H
                        clear H
                        have p9 : 0 ≤ (x5_2 : Int) := of_decide_eq_true (by first | (with_reducible assumption) | assumption)
                        have q9 : x5_2 < (t123.size : Int) := of_decide_eq_true (by first | (with_reducible assumption) | assumption)
                        have hx9 := bt_at t123 x5_2
                        replace p9 := eq_true p9
                        replace q9 := eq_true q9
                        have p11 : 0 ≤ (x5_2 : Int) := of_decide_eq_true (by first | (with_reducible assumption) | assumption)
                        have q11 : x5_2 < (t123.size : Int) := of_decide_eq_true (by first | (with_reducible assumption) | assumption)
                        have hx11 := bt_at t123 x5_2
                        replace p11 := eq_true p11
                        replace q11 := eq_true q11
                        have p13 : 0 ≤ (x5_2 : Int) := of_decide_eq_true (by first | (with_reducible assumption) | assumption)
                        have q13 : x5_2 < (t123.size : Int) := of_decide_eq_true (by first | (with_reducible assumption) | assumption)
                        have hx13 := bt_at t123 x5_2
                        replace p13 := eq_true p13
                        replace q13 := eq_true q13
                        have p15 : 0 ≤ (x5_2 : Int) := of_decide_eq_true (by first | (with_reducible assumption) | assumption)
                        have q15 : x5_2 < (t123.size : Int) := of_decide_eq_true (by first | (with_reducible assumption) | assumption)
                        have hx15 := bt_at t123 x5_2
                        replace p15 := eq_true p15
                        replace q15 := eq_true q15
                        go_wp2
                        go_roundg k2
                        case measure => have := HJ2.out; have := HK2.out; omega
                        case rel => exact ⟨(wrap64 (x5_2 + 1)), (by first | rfl | (simp; done) | (simp [*]; done)), H', ⟨by have := HJ2.out; have := HK2.out; omega⟩, ⟨by repeat (first | (with_reducible first | exact HB.out | apply below_alloc | apply pw_below_drewN | apply below_drew1) | exact HB.out)⟩⟩
                      · rw [if_neg c16] at H
                        have c16b0 : decide ((bt t123 x5_2) ≤ 57) = false := decide_eq_false c16
                        clear c16
                        by_cases c18 : (bt t123 x5_2) = 45
                        · rw [if_pos c18] at H
                          have c18b0 : ((bt t123 x5_2) == 45) = true := beq_iff_eq.mpr c18
                          have c18b1 : ((bt t123 x5_2) != 45) = false := bne_eq_false_iff_eq.mpr c18
                          clear c18
                          by_cases c19 : x5_2 = 0
                          · rw [if_pos c19] at H
                            have c19b0 : (x5_2 == 0) = true := beq_iff_eq.mpr c19
                            have c19b1 : (x5_2 != 0) = false := bne_eq_false_iff_eq.mpr c19
                            clear c19
                            simp only [Option.some.injEq, Prod.mk.injEq] at H
                            obtain ⟨rfl, rfl⟩ := H
                            have p9 : 0 ≤ (x5_2 : Int) := of_decide_eq_true (by first | (with_reducible assumption) | assumption)
                            have q9 : x5_2 < (t123.size : Int) := of_decide_eq_true (by first | (with_reducible assumption) | assumption)
                            have hx9 := bt_at t123 x5_2
                            replace p9 := eq_true p9
                            replace q9 := eq_true q9
                            have p11 : 0 ≤ (x5_2 : Int) := of_decide_eq_true (by first | (with_reducible assumption) | assumption)
                            have q11 : x5_2 < (t123.size : Int) := of_decide_eq_true (by first | (with_reducible assumption) | assumption)
                            have hx11 := bt_at t123 x5_2
                            replace p11 := eq_true p11
                            replace q11 := eq_true q11
                            have p13 : 0 ≤ (x5_2 : Int) := of_decide_eq_true (by first | (with_reducible assumption) | assumption)
                            have q13 : x5_2 < (t123.size : Int) := of_decide_eq_true (by first | (with_reducible assumption) | assumption)
                            have hx13 := bt_at t123 x5_2
                            replace p13 := eq_true p13
                            replace q13 := eq_true q13
                            have p15 : 0 ≤ (x5_2 : Int) := of_decide_eq_true (by first | (with_reducible assumption) | assumption)
                            have q15 : x5_2 < (t123.size : Int) := of_decide_eq_true (by first | (with_reducible assumption) | assumption)
                            have hx15 := bt_at t123 x5_2
                            replace p15 := eq_true p15
                            replace q15 := eq_true q15
                            have p17 : 0 ≤ (x5_2 : Int) := of_decide_eq_true (by first | (with_reducible assumption) | assumption)
                            have q17 : x5_2 < (t123.size : Int) := of_decide_eq_true (by first | (with_reducible assumption) | assumption)
                            have hx17 := bt_at t123 x5_2
                            replace p17 := eq_true p17
                            replace q17 := eq_true q17
                            go_wp2
                            go_ret2
                            exact ⟨by first | rfl | (simp [errW_none, errW_some] <;> rfl) | (simp [*, errW_none, errW_some] <;> rfl), by repeat (first | (with_reducible first | exact HB.out | apply below_alloc | apply pw_below_drewN | apply below_drew1) | exact HB.out)⟩
                          · rw [if_neg c19] at H
                            have c19b0 : (x5_2 == 0) = false := beq_eq_false_iff_ne.mpr c19
                            have c19b1 : (x5_2 != 0) = true := bne_iff_ne.mpr c19
                            by_cases c20 : x5_2 = (wrap64 ((t123.size : Int) - 1))
                            · rw [if_pos c20] at H
                              have c20b0 : (x5_2 == (wrap64 ((t123.size : Int) - 1))) = true := beq_iff_eq.mpr c20
                              have c20b1 : (x5_2 != (wrap64 ((t123.size : Int) - 1))) = false := bne_eq_false_iff_eq.mpr c20
                              clear c20
                              simp only [Option.some.injEq, Prod.mk.injEq] at H
                              obtain ⟨rfl, rfl⟩ := H
                              have p9 : 0 ≤ (x5_2 : Int) := of_decide_eq_true (by first | (with_reducible assumption) | assumption)
                              have q9 : x5_2 < (t123.size : Int) := of_decide_eq_true (by first | (with_reducible assumption) | assumption)
                              have hx9 := bt_at t123 x5_2
                              replace p9 := eq_true p9
                              replace q9 := eq_true q9
                              have p11 : 0 ≤ (x5_2 : Int) := of_decide_eq_true (by first | (with_reducible assumption) | assumption)
                              have q11 : x5_2 < (t123.size : Int) := of_decide_eq_true (by first | (with_reducible assumption) | assumption)
                              have hx11 := bt_at t123 x5_2
                              replace p11 := eq_true p11
                              replace q11 := eq_true q11
                              have p13 : 0 ≤ (x5_2 : Int) := of_decide_eq_true (by first | (with_reducible assumption) | assumption)
                              have q13 : x5_2 < (t123.size : Int) := of_decide_eq_true (by first | (with_reducible assumption) | assumption)
                              have hx13 := bt_at t123 x5_2
                              replace p13 := eq_true p13
                              replace q13 := eq_true q13
                              have p15 : 0 ≤ (x5_2 : Int) := of_decide_eq_true (by first | (with_reducible assumption) | assumption)
                              have q15 : x5_2 < (t123.size : Int) := of_decide_eq_true (by first | (with_reducible assumption) | assumption)
                              have hx15 := bt_at t123 x5_2
                              replace p15 := eq_true p15
                              replace q15 := eq_true q15
                              have p17 : 0 ≤ (x5_2 : Int) := of_decide_eq_true (by first | (with_reducible assumption) | assumption)
                              have q17 : x5_2 < (t123.size : Int) := of_decide_eq_true (by first | (with_reducible assumption) | assumption)
                              have hx17 := bt_at t123 x5_2
                              replace p17 := eq_true p17
                              replace q17 := eq_true q17
                              go_wp2
                              go_ret2
                              exact ⟨by first | rfl | (simp [errW_none, errW_some] <;> rfl) | (simp [*, errW_none, errW_some] <;> rfl), by repeat (first | (with_reducible first | exact HB.out | apply below_alloc | apply pw_below_drewN | apply below_drew1) | exact HB.out)⟩
                            · rw [if_neg c20] at H
                              have c20b0 : (x5_2 == (wrap64 ((t123.size : Int) - 1))) = false := beq_eq_false_iff_ne.mpr c20
                              have c20b1 : (x5_2 != (wrap64 ((t123.size : Int) - 1))) = true := bne_iff_ne.mpr c20
                              have H' := Aside0.mk H
                              clear H
                              have p9 : 0 ≤ (x5_2 : Int) := of_decide_eq_true (by first | (with_reducible assumption) | assumption)
                              have q9 : x5_2 < (t123.size : Int) := of_decide_eq_true (by first | (with_reducible assumption) | assumption)
                              have hx9 := bt_at t123 x5_2
                              replace p9 := eq_true p9
                              replace q9 := eq_true q9
                              have p11 : 0 ≤ (x5_2 : Int) := of_decide_eq_true (by first | (with_reducible assumption) | assumption)
                              have q11 : x5_2 < (t123.size : Int) := of_decide_eq_true (by first | (with_reducible assumption) | assumption)
                              have hx11 := bt_at t123 x5_2
                              replace p11 := eq_true p11
                              replace q11 := eq_true q11
                              have p13 : 0 ≤ (x5_2 : Int) := of_decide_eq_true (by first | (with_reducible assumption) | assumption)
                              have q13 : x5_2 < (t123.size : Int) := of_decide_eq_true (by first | (with_reducible assumption) | assumption)
                              have hx13 := bt_at t123 x5_2
                              replace p13 := eq_true p13
                              replace q13 := eq_true q13
                              have p15 : 0 ≤ (x5_2 : Int) := of_decide_eq_true (by first | (with_reducible assumption) | assumption)
                              have q15 : x5_2 < (t123.size : Int) := of_decide_eq_true (by first | (with_reducible assumption) | assumption)
                              have hx15 := bt_at t123 x5_2
                              replace p15 := eq_true p15
                              replace q15 := eq_true q15
                              have p17 : 0 ≤ (x5_2 : Int) := of_decide_eq_true (by first | (with_reducible assumption) | assumption)
                              have q17 : x5_2 < (t123.size : Int) := of_decide_eq_true (by first | (with_reducible assumption) | assumption)
                              have hx17 := bt_at t123 x5_2
                              replace p17 := eq_true p17
                              replace q17 := eq_true q17
                              go_wp2
                              go_roundg k2
                              case measure => have := HJ2.out; have := HK2.out; omega
                              case rel => exact ⟨(wrap64 (x5_2 + 1)), (by first | rfl | (simp; done) | (simp [*]; done)), H', ⟨by have := HJ2.out; have := HK2.out; omega⟩, ⟨by repeat (first | (with_reducible first | exact HB.out | apply below_alloc | apply pw_below_drewN | apply below_drew1) | exact HB.out)⟩⟩
                        · rw [if_neg c18] at H
                          have c18b0 : ((bt t123 x5_2) == 45) = false := beq_eq_false_iff_ne.mpr c18
                          have c18b1 : ((bt t123 x5_2) != 45) = true := bne_iff_ne.mpr c18
                          simp only [Option.some.injEq, Prod.mk.injEq] at H
                          obtain ⟨rfl, rfl⟩ := H
                          have p9 : 0 ≤ (x5_2 : Int) := of_decide_eq_true (by first | (with_reducible assumption) | assumption)
                          have q9 : x5_2 < (t123.size : Int) := of_decide_eq_true (by first | (with_reducible assumption) | assumption)
                          have hx9 := bt_at t123 x5_2
                          replace p9 := eq_true p9
                          replace q9 := eq_true q9
                          have p11 : 0 ≤ (x5_2 : Int) := of_decide_eq_true (by first | (with_reducible assumption) | assumption)
                          have q11 : x5_2 < (t123.size : Int) := of_decide_eq_true (by first | (with_reducible assumption) | assumption)
                          have hx11 := bt_at t123 x5_2
                          replace p11 := eq_true p11
                          replace q11 := eq_true q11
                          have p13 : 0 ≤ (x5_2 : Int) := of_decide_eq_true (by first | (with_reducible assumption) | assumption)
                          have q13 : x5_2 < (t123.size : Int) := of_decide_eq_true (by first | (with_reducible assumption) | assumption)
                          have hx13 := bt_at t123 x5_2
                          replace p13 := eq_true p13
                          replace q13 := eq_true q13
                          have p15 : 0 ≤ (x5_2 : Int) := of_decide_eq_true (by first | (with_reducible assumption) | assumption)
                          have q15 : x5_2 < (t123.size : Int) := of_decide_eq_true (by first | (with_reducible assumption) | assumption)
                          have hx15 := bt_at t123 x5_2
                          replace p15 := eq_true p15
                          replace q15 := eq_true q15
                          have p17 : 0 ≤ (x5_2 : Int) := of_decide_eq_true (by first | (with_reducible assumption) | assumption)
                          have q17 : x5_2 < (t123.size : Int) := of_decide_eq_true (by first | (with_reducible assumption) | assumption)
                          have hx17 := bt_at t123 x5_2
                          replace p17 := eq_true p17
                          replace q17 := eq_true q17
                          go_wp2
                          go_ret2
                          exact ⟨by first | rfl | (simp [errW_none, errW_some] <;> rfl) | (simp [*, errW_none, errW_some] <;> rfl), by repeat (first | (with_reducible first | exact HB.out | apply below_alloc | apply pw_below_drewN | apply below_drew1) | exact HB.out)⟩
                    · rw [if_neg c14] at H
                      have c14b0 : decide (48 ≤ (bt t123 x5_2)) = false := decide_eq_false c14
                      clear c14
                      by_cases c22 : (bt t123 x5_2) = 45
                      · rw [if_pos c22] at H
                        have c22b0 : ((bt t123 x5_2) == 45) = true := beq_iff_eq.mpr c22
                        have c22b1 : ((bt t123 x5_2) != 45) = false := bne_eq_false_iff_eq.mpr c22
                        clear c22
                        by_cases c23 : x5_2 = 0
                        · rw [if_pos c23] at H
                          have c23b0 : (x5_2 == 0) = true := beq_iff_eq.mpr c23
                          have c23b1 : (x5_2 != 0) = false := bne_eq_false_iff_eq.mpr c23
                          clear c23
                          simp only [Option.some.injEq, Prod.mk.injEq] at H
                          obtain ⟨rfl, rfl⟩ := H
                          have p9 : 0 ≤ (x5_2 : Int) := of_decide_eq_true (by first | (with_reducible assumption) | assumption)
                          have q9 : x5_2 < (t123.size : Int) := of_decide_eq_true (by first | (with_reducible assumption) | assumption)
                          have hx9 := bt_at t123 x5_2
                          replace p9 := eq_true p9
                          replace q9 := eq_true q9
                          have p11 : 0 ≤ (x5_2 : Int) := of_decide_eq_true (by first | (with_reducible assumption) | assumption)
                          have q11 : x5_2 < (t123.size : Int) := of_decide_eq_true (by first | (with_reducible assumption) | assumption)
                          have hx11 := bt_at t123 x5_2
                          replace p11 := eq_true p11
                          replace q11 := eq_true q11
                          have p13 : 0 ≤ (x5_2 : Int) := of_decide_eq_true (by first | (with_reducible assumption) | assumption)
                          have q13 : x5_2 < (t123.size : Int) := of_decide_eq_true (by first | (with_reducible assumption) | assumption)
                          have hx13 := bt_at t123 x5_2
                          replace p13 := eq_true p13
                          replace q13 := eq_true q13
                          have p21 : 0 ≤ (x5_2 : Int) := of_decide_eq_true (by first | (with_reducible assumption) | assumption)
                          have q21 : x5_2 < (t123.size : Int) := of_decide_eq_true (by first | (with_reducible assumption) | assumption)
                          have hx21 := bt_at t123 x5_2
                          replace p21 := eq_true p21
                          replace q21 := eq_true q21
                          go_wp2
                          go_ret2
                          exact ⟨by first | rfl | (simp [errW_none, errW_some] <;> rfl) | (simp [*, errW_none, errW_some] <;> rfl), by repeat (first | (with_reducible first | exact HB.out | apply below_alloc | apply pw_below_drewN | apply below_drew1) | exact HB.out)⟩
                        · rw [if_neg c23] at H
                          have c23b0 : (x5_2 == 0) = false := beq_eq_false_iff_ne.mpr c23
                          have c23b1 : (x5_2 != 0) = true := bne_iff_ne.mpr c23
                          by_cases c24 : x5_2 = (wrap64 ((t123.size : Int) - 1))
                          · rw [if_pos c24] at H
                            have c24b0 : (x5_2 == (wrap64 ((t123.size : Int) - 1))) = true := beq_iff_eq.mpr c24
                            have c24b1 : (x5_2 != (wrap64 ((t123.size : Int) - 1))) = false := bne_eq_false_iff_eq.mpr c24
                            clear c24
                            simp only [Option.some.injEq, Prod.mk.injEq] at H
                            obtain ⟨rfl, rfl⟩ := H
                            have p9 : 0 ≤ (x5_2 : Int) := of_decide_eq_true (by first | (with_reducible assumption) | assumption)
                            have q9 : x5_2 < (t123.size : Int) := of_decide_eq_true (by first | (with_reducible assumption) | assumption)
                            have hx9 := bt_at t123 x5_2
                            replace p9 := eq_true p9
                            replace q9 := eq_true q9
                            have p11 : 0 ≤ (x5_2 : Int) := of_decide_eq_true (by first | (with_reducible assumption) | assumption)
                            have q11 : x5_2 < (t123.size : Int) := of_decide_eq_true (by first | (with_reducible assumption) | assumption)
                            have hx11 := bt_at t123 x5_2
                            replace p11 := eq_true p11
                            replace q11 := eq_true q11
                            have p13 : 0 ≤ (x5_2 : Int) := of_decide_eq_true (by first | (with_reducible assumption) | assumption)
                            have q13 : x5_2 < (t123.size : Int) := of_decide_eq_true (by first | (with_reducible assumption) | assumption)
                            have hx13 := bt_at t123 x5_2
                            replace p13 := eq_true p13
                            replace q13 := eq_true q13
                            have p21 : 0 ≤ (x5_2 : Int) := of_decide_eq_true (by first | (with_reducible assumption) | assumption)
                            have q21 : x5_2 < (t123.size : Int) := of_decide_eq_true (by first | (with_reducible assumption) | assumption)
                            have hx21 := bt_at t123 x5_2
                            replace p21 := eq_true p21
                            replace q21 := eq_true q21
                            go_wp2
                            go_ret2
                            exact ⟨by first | rfl | (simp [errW_none, errW_some] <;> rfl) | (simp [*, errW_none, errW_some] <;> rfl), by repeat (first | (with_reducible first | exact HB.out | apply below_alloc | apply pw_below_drewN | apply below_drew1) | exact HB.out)⟩
                          · rw [if_neg c24] at H
                            have c24b0 : (x5_2 == (wrap64 ((t123.size : Int) - 1))) = false := beq_eq_false_iff_ne.mpr c24
                            have c24b1 : (x5_2 != (wrap64 ((t123.size : Int) - 1))) = true := bne_iff_ne.mpr c24
                            have H' := Aside0.mk H
                            clear H
                            have p9 : 0 ≤ (x5_2 : Int) := of_decide_eq_true (by first | (with_reducible assumption) | assumption)
                            have q9 : x5_2 < (t123.size : Int) := of_decide_eq_true (by first | (with_reducible assumption) | assumption)
                            have hx9 := bt_at t123 x5_2
                            replace p9 := eq_true p9
                            replace q9 := eq_true q9
                            have p11 : 0 ≤ (x5_2 : Int) := of_decide_eq_true (by first | (with_reducible assumption) | assumption)
                            have q11 : x5_2 < (t123.size : Int) := of_decide_eq_true (by first | (with_reducible assumption) | assumption)
                            have hx11 := bt_at t123 x5_2
                            replace p11 := eq_true p11
                            replace q11 := eq_true q11
                            have p13 : 0 ≤ (x5_2 : Int) := of_decide_eq_true (by first | (with_reducible assumption) | assumption)
                            have q13 : x5_2 < (t123.size : Int) := of_decide_eq_true (by first | (with_reducible assumption) | assumption)
                            have hx13 := bt_at t123 x5_2
                            replace p13 := eq_true p13
                            replace q13 := eq_true q13
                            have p21 : 0 ≤ (x5_2 : Int) := of_decide_eq_true (by first | (with_reducible assumption) | assumption)
                            have q21 : x5_2 < (t123.size : Int) := of_decide_eq_true (by first | (with_reducible assumption) | assumption)
                            have hx21 := bt_at t123 x5_2
                            replace p21 := eq_true p21
                            replace q21 := eq_true q21
                            go_wp2
                            go_roundg k2
                            case measure => have := HJ2.out; have := HK2.out; omega
                            case rel => exact ⟨(wrap64 (x5_2 + 1)), (by first | rfl | (simp; done) | (simp [*]; done)), H', ⟨by have := HJ2.out; have := HK2.out; omega⟩, ⟨by repeat (first | (with_reducible first | exact HB.out | apply below_alloc | apply pw_below_drewN | apply below_drew1) | exact HB.out)⟩⟩
                      · rw [if_neg c22] at H
                        have c22b0 : ((bt t123 x5_2) == 45) = false := beq_eq_false_iff_ne.mpr c22
                        have c22b1 : ((bt t123 x5_2) != 45) = true := bne_iff_ne.mpr c22
                        simp only [Option.some.injEq, Prod.mk.injEq] at H
                        obtain ⟨rfl, rfl⟩ := H
                        have p9 : 0 ≤ (x5_2 : Int) := of_decide_eq_true (by first | (with_reducible assumption) | assumption)
                        have q9 : x5_2 < (t123.size : Int) := of_decide_eq_true (by first | (with_reducible assumption) | assumption)
                        have hx9 := bt_at t123 x5_2
                        replace p9 := eq_true p9
                        replace q9 := eq_true q9
                        have p11 : 0 ≤ (x5_2 : Int) := of_decide_eq_true (by first | (with_reducible assumption) | assumption)
                        have q11 : x5_2 < (t123.size : Int) := of_decide_eq_true (by first | (with_reducible assumption) | assumption)
                        have hx11 := bt_at t123 x5_2
                        replace p11 := eq_true p11
                        replace q11 := eq_true q11
                        have p13 : 0 ≤ (x5_2 : Int) := of_decide_eq_true (by first | (with_reducible assumption) | assumption)
                        have q13 : x5_2 < (t123.size : Int) := of_decide_eq_true (by first | (with_reducible assumption) | assumption)
                        have hx13 := bt_at t123 x5_2
                        replace p13 := eq_true p13
                        replace q13 := eq_true q13
                        have p21 : 0 ≤ (x5_2 : Int) := of_decide_eq_true (by first | (with_reducible assumption) | assumption)
                        have q21 : x5_2 < (t123.size : Int) := of_decide_eq_true (by first | (with_reducible assumption) | assumption)
                        have hx21 := bt_at t123 x5_2
                        replace p21 := eq_true p21
                        replace q21 := eq_true q21
                        go_wp2
                        go_ret2
                        exact ⟨by first | rfl | (simp [errW_none, errW_some] <;> rfl) | (simp [*, errW_none, errW_some] <;> rfl), by repeat (first | (with_reducible first | exact HB.out | apply below_alloc | apply pw_below_drewN | apply below_drew1) | exact HB.out)⟩
                · rw [if_neg c10] at H
                  have c10b0 : decide (97 ≤ (bt t123 x5_2)) = false := decide_eq_false c10
                  clear c10
                  by_cases c26 : (bt t123 x5_2) ≥ 48
                  · rw [if_pos c26] at H
                    have c26b0 : decide (48 ≤ (bt t123 x5_2)) = true := decide_eq_true c26
                    clear c26
                    by_cases c28 : ((bt t123 x5_2) ≤ 57)
                    · rw [if_pos c28] at H
                      have c28b0 : decide ((bt t123 x5_2) ≤ 57) = true := decide_eq_true c28
                      clear c28
                      have H' := Aside0.mk H
                      clear H
                      have p9 : 0 ≤ (x5_2 : Int) := of_decide_eq_true (by first | (with_reducible assumption) | assumption)
                      have q9 : x5_2 < (t123.size : Int) := of_decide_eq_true (by first | (with_reducible assumption) | assumption)
                      have hx9 := bt_at t123 x5_2
                      replace p9 := eq_true p9
                      replace q9 := eq_true q9
                      have p25 : 0 ≤ (x5_2 : Int) := of_decide_eq_true (by first | (with_reducible assumption) | assumption)
                      have q25 : x5_2 < (t123.size : Int) := of_decide_eq_true (by first | (with_reducible assumption) | assumption)
                      have hx25 := bt_at t123 x5_2
                      replace p25 := eq_true p25
                      replace q25 := eq_true q25
                      have p27 : 0 ≤ (x5_2 : Int) := of_decide_eq_true (by first | (with_reducible assumption) | assumption)
                      have q27 : x5_2 < (t123.size : Int) := of_decide_eq_true (by first | (with_reducible assumption) | assumption)
                      have hx27 := bt_at t123 x5_2
                      replace p27 := eq_true p27
                      replace q27 := eq_true q27
                      go_wp2
                      go_roundg k2
                      case measure => have := HJ2.out; have := HK2.out; omega
                      case rel => exact ⟨(wrap64 (x5_2 + 1)), (by first | rfl | (simp; done) | (simp [*]; done)), H', ⟨by have := HJ2.out; have := HK2.out; omega⟩, ⟨by repeat (first | (with_reducible first | exact HB.out | apply below_alloc | apply pw_below_drewN | apply below_drew1) | exact HB.out)⟩⟩
                    · rw [if_neg c28] at H
                      have c28b0 : decide ((bt t123 x5_2) ≤ 57) = false := decide_eq_false c28
                      clear c28
                      by_cases c30 : (bt t123 x5_2) = 45
                      · rw [if_pos c30] at H
                        have c30b0 : ((bt t123 x5_2) == 45) = true := beq_iff_eq.mpr c30
                        have c30b1 : ((bt t123 x5_2) != 45) = false := bne_eq_false_iff_eq.mpr c30
                        clear c30
                        by_cases c31 : x5_2 = 0
                        · rw [if_pos c31] at H
                          have c31b0 : (x5_2 == 0) = true := beq_iff_eq.mpr c31
                          have c31b1 : (x5_2 != 0) = false := bne_eq_false_iff_eq.mpr c31
                          clear c31
                          simp only [Option.some.injEq, Prod.mk.injEq] at H
                          obtain ⟨rfl, rfl⟩ := H
                          have p9 : 0 ≤ (x5_2 : Int) := of_decide_eq_true (by first | (with_reducible assumption) | assumption)
                          have q9 : x5_2 < (t123.size : Int) := of_decide_eq_true (by first | (with_reducible assumption) | assumption)
                          have hx9 := bt_at t123 x5_2
                          replace p9 := eq_true p9
                          replace q9 := eq_true q9
                          have p25 : 0 ≤ (x5_2 : Int) := of_decide_eq_true (by first | (with_reducible assumption) | assumption)
                          have q25 : x5_2 < (t123.size : Int) := of_decide_eq_true (by first | (with_reducible assumption) | assumption)
                          have hx25 := bt_at t123 x5_2
                          replace p25 := eq_true p25
                          replace q25 := eq_true q25
                          have p27 : 0 ≤ (x5_2 : Int) := of_decide_eq_true (by first | (with_reducible assumption) | assumption)
                          have q27 : x5_2 < (t123.size : Int) := of_decide_eq_true (by first | (with_reducible assumption) | assumption)
                          have hx27 := bt_at t123 x5_2
                          replace p27 := eq_true p27
                          replace q27 := eq_true q27
                          have p29 : 0 ≤ (x5_2 : Int) := of_decide_eq_true (by first | (with_reducible assumption) | assumption)
                          have q29 : x5_2 < (t123.size : Int) := of_decide_eq_true (by first | (with_reducible assumption) | assumption)
                          have hx29 := bt_at t123 x5_2
                          replace p29 := eq_true p29
                          replace q29 := eq_true q29
                          go_wp2
                          go_ret2
                          exact ⟨by first | rfl | (simp [errW_none, errW_some] <;> rfl) | (simp [*, errW_none, errW_some] <;> rfl), by repeat (first | (with_reducible first | exact HB.out | apply below_alloc | apply pw_below_drewN | apply below_drew1) | exact HB.out)⟩
                        · rw [if_neg c31] at H
                          have c31b0 : (x5_2 == 0) = false := beq_eq_false_iff_ne.mpr c31
                          have c31b1 : (x5_2 != 0) = true := bne_iff_ne.mpr c31
                          by_cases c32 : x5_2 = (wrap64 ((t123.size : Int) - 1))
                          · rw [if_pos c32] at H
                            have c32b0 : (x5_2 == (wrap64 ((t123.size : Int) - 1))) = true := beq_iff_eq.mpr c32
                            have c32b1 : (x5_2 != (wrap64 ((t123.size : Int) - 1))) = false := bne_eq_false_iff_eq.mpr c32
                            clear c32
                            simp only [Option.some.injEq, Prod.mk.injEq] at H
                            obtain ⟨rfl, rfl⟩ := H
                            have p9 : 0 ≤ (x5_2 : Int) := of_decide_eq_true (by first | (with_reducible assumption) | assumption)
                            have q9 : x5_2 < (t123.size : Int) := of_decide_eq_true (by first | (with_reducible assumption) | assumption)
                            have hx9 := bt_at t123 x5_2
                            replace p9 := eq_true p9
                            replace q9 := eq_true q9
                            have p25 : 0 ≤ (x5_2 : Int) := of_decide_eq_true (by first | (with_reducible assumption) | assumption)
                            have q25 : x5_2 < (t123.size : Int) := of_decide_eq_true (by first | (with_reducible assumption) | assumption)
                            have hx25 := bt_at t123 x5_2
                            replace p25 := eq_true p25
                            replace q25 := eq_true q25
                            have p27 : 0 ≤ (x5_2 : Int) := of_decide_eq_true (by first | (with_reducible assumption) | assumption)
                            have q27 : x5_2 < (t123.size : Int) := of_decide_eq_true (by first | (with_reducible assumption) | assumption)
                            have hx27 := bt_at t123 x5_2
                            replace p27 := eq_true p27
                            replace q27 := eq_true q27
                            have p29 : 0 ≤ (x5_2 : Int) := of_decide_eq_true (by first | (with_reducible assumption) | assumption)
                            have q29 : x5_2 < (t123.size : Int) := of_decide_eq_true (by first | (with_reducible assumption) | assumption)
                            have hx29 := bt_at t123 x5_2
                            replace p29 := eq_true p29
                            replace q29 := eq_true q29
                            go_wp2
                            go_ret2
                            exact ⟨by first | rfl | (simp [errW_none, errW_some] <;> rfl) | (simp [*, errW_none, errW_some] <;> rfl), by repeat (first | (with_reducible first | exact HB.out | apply below_alloc | apply pw_below_drewN | apply below_drew1) | exact HB.out)⟩
                          · rw [if_neg c32] at H
                            have c32b0 : (x5_2 == (wrap64 ((t123.size : Int) - 1))) = false := beq_eq_false_iff_ne.mpr c32
                            have c32b1 : (x5_2 != (wrap64 ((t123.size : Int) - 1))) = true := bne_iff_ne.mpr c32
                            have H' := Aside0.mk H
                            clear H
                            have p9 : 0 ≤ (x5_2 : Int) := of_decide_eq_true (by first | (with_reducible assumption) | assumption)
                            have q9 : x5_2 < (t123.size : Int) := of_decide_eq_true (by first | (with_reducible assumption) | assumption)
                            have hx9 := bt_at t123 x5_2
                            replace p9 := eq_true p9
                            replace q9 := eq_true q9
                            have p25 : 0 ≤ (x5_2 : Int) := of_decide_eq_true (by first | (with_reducible assumption) | assumption)
                            have q25 : x5_2 < (t123.size : Int) := of_decide_eq_true (by first | (with_reducible assumption) | assumption)
                            have hx25 := bt_at t123 x5_2
                            replace p25 := eq_true p25
                            replace q25 := eq_true q25
                            have p27 : 0 ≤ (x5_2 : Int) := of_decide_eq_true (by first | (with_reducible assumption) | assumption)
                            have q27 : x5_2 < (t123.size : Int) := of_decide_eq_true (by first | (with_reducible assumption) | assumption)
                            have hx27 := bt_at t123 x5_2
                            replace p27 := eq_true p27
                            replace q27 := eq_true q27
                            have p29 : 0 ≤ (x5_2 : Int) := of_decide_eq_true (by first | (with_reducible assumption) | assumption)
                            have q29 : x5_2 < (t123.size : Int) := of_decide_eq_true (by first | (with_reducible assumption) | assumption)
                            have hx29 := bt_at t123 x5_2
                            replace p29 := eq_true p29
                            replace q29 := eq_true q29
                            go_wp2
                            go_roundg k2
                            case measure => have := HJ2.out; have := HK2.out; omega
                            case rel => exact ⟨(wrap64 (x5_2 + 1)), (by first | rfl | (simp; done) | (simp [*]; done)), H', ⟨by have := HJ2.out; have := HK2.out; omega⟩, ⟨by repeat (first | (with_reducible first | exact HB.out | apply below_alloc | apply pw_below_drewN | apply below_drew1) | exact HB.out)⟩⟩
                      · rw [if_neg c30] at H
                        have c30b0 : ((bt t123 x5_2) == 45) = false := beq_eq_false_iff_ne.mpr c30
                        have c30b1 : ((bt t123 x5_2) != 45) = true := bne_iff_ne.mpr c30
                        simp only [Option.some.injEq, Prod.mk.injEq] at H
                        obtain ⟨rfl, rfl⟩ := H
                        have p9 : 0 ≤ (x5_2 : Int) := of_decide_eq_true (by first | (with_reducible assumption) | assumption)
                        have q9 : x5_2 < (t123.size : Int) := of_decide_eq_true (by first | (with_reducible assumption) | assumption)
                        have hx9 := bt_at t123 x5_2
                        replace p9 := eq_true p9
                        replace q9 := eq_true q9
                        have p25 : 0 ≤ (x5_2 : Int) := of_decide_eq_true (by first | (with_reducible assumption) | assumption)
                        have q25 : x5_2 < (t123.size : Int) := of_decide_eq_true (by first | (with_reducible assumption) | assumption)
                        have hx25 := bt_at t123 x5_2
                        replace p25 := eq_true p25
                        replace q25 := eq_true q25
                        have p27 : 0 ≤ (x5_2 : Int) := of_decide_eq_true (by first | (with_reducible assumption) | assumption)
                        have q27 : x5_2 < (t123.size : Int) := of_decide_eq_true (by first | (with_reducible assumption) | assumption)
                        have hx27 := bt_at t123 x5_2
                        replace p27 := eq_true p27
                        replace q27 := eq_true q27
                        have p29 : 0 ≤ (x5_2 : Int) := of_decide_eq_true (by first | (with_reducible assumption) | assumption)
                        have q29 : x5_2 < (t123.size : Int) := of_decide_eq_true (by first | (with_reducible assumption) | assumption)
                        have hx29 := bt_at t123 x5_2
                        replace p29 := eq_true p29
                        replace q29 := eq_true q29
                        go_wp2
                        go_ret2
                        exact ⟨by first | rfl | (simp [errW_none, errW_some] <;> rfl) | (simp [*, errW_none, errW_some] <;> rfl), by repeat (first | (with_reducible first | exact HB.out | apply below_alloc | apply pw_below_drewN | apply below_drew1) | exact HB.out)⟩
                  · rw [if_neg c26] at H
                    have c26b0 : decide (48 ≤ (bt t123 x5_2)) = false := decide_eq_false c26
                    clear c26
                    by_cases c34 : (bt t123 x5_2) = 45
                    · rw [if_pos c34] at H
                      have c34b0 : ((bt t123 x5_2) == 45) = true := beq_iff_eq.mpr c34
                      have c34b1 : ((bt t123 x5_2) != 45) = false := bne_eq_false_iff_eq.mpr c34
                      clear c34
                      by_cases c35 : x5_2 = 0
                      · rw [if_pos c35] at H
                        have c35b0 : (x5_2 == 0) = true := beq_iff_eq.mpr c35
                        have c35b1 : (x5_2 != 0) = false := bne_eq_false_iff_eq.mpr c35
                        clear c35
                        simp only [Option.some.injEq, Prod.mk.injEq] at H
                        obtain ⟨rfl, rfl⟩ := H
                        have p9 : 0 ≤ (x5_2 : Int) := of_decide_eq_true (by first | (with_reducible assumption) | assumption)
                        have q9 : x5_2 < (t123.size : Int) := of_decide_eq_true (by first | (with_reducible assumption) | assumption)
                        have hx9 := bt_at t123 x5_2
                        replace p9 := eq_true p9
                        replace q9 := eq_true q9
                        have p25 : 0 ≤ (x5_2 : Int) := of_decide_eq_true (by first | (with_reducible assumption) | assumption)
                        have q25 : x5_2 < (t123.size : Int) := of_decide_eq_true (by first | (with_reducible assumption) | assumption)
                        have hx25 := bt_at t123 x5_2
                        replace p25 := eq_true p25
                        replace q25 := eq_true q25
                        have p33 : 0 ≤ (x5_2 : Int) := of_decide_eq_true (by first | (with_reducible assumption) | assumption)
                        have q33 : x5_2 < (t123.size : Int) := of_decide_eq_true (by first | (with_reducible assumption) | assumption)
                        have hx33 := bt_at t123 x5_2
                        replace p33 := eq_true p33
                        replace q33 := eq_true q33
                        go_wp2
                        go_ret2
                        exact ⟨by first | rfl | (simp [errW_none, errW_some] <;> rfl) | (simp [*, errW_none, errW_some] <;> rfl), by repeat (first | (with_reducible first | exact HB.out | apply below_alloc | apply pw_below_drewN | apply below_drew1) | exact HB.out)⟩
                      · rw [if_neg c35] at H
                        have c35b0 : (x5_2 == 0) = false := beq_eq_false_iff_ne.mpr c35
                        have c35b1 : (x5_2 != 0) = true := bne_iff_ne.mpr c35
                        by_cases c36 : x5_2 = (wrap64 ((t123.size : Int) - 1))
                        · rw [if_pos c36] at H
                          have c36b0 : (x5_2 == (wrap64 ((t123.size : Int) - 1))) = true := beq_iff_eq.mpr c36
                          have c36b1 : (x5_2 != (wrap64 ((t123.size : Int) - 1))) = false := bne_eq_false_iff_eq.mpr c36
                          clear c36
                          simp only [Option.some.injEq, Prod.mk.injEq] at H
                          obtain ⟨rfl, rfl⟩ := H
                          have p9 : 0 ≤ (x5_2 : Int) := of_decide_eq_true (by first | (with_reducible assumption) | assumption)
                          have q9 : x5_2 < (t123.size : Int) := of_decide_eq_true (by first | (with_reducible assumption) | assumption)
                          have hx9 := bt_at t123 x5_2
                          replace p9 := eq_true p9
                          replace q9 := eq_true q9
                          have p25 : 0 ≤ (x5_2 : Int) := of_decide_eq_true (by first | (with_reducible assumption) | assumption)
                          have q25 : x5_2 < (t123.size : Int) := of_decide_eq_true (by first | (with_reducible assumption) | assumption)
                          have hx25 := bt_at t123 x5_2
                          replace p25 := eq_true p25
                          replace q25 := eq_true q25
                          have p33 : 0 ≤ (x5_2 : Int) := of_decide_eq_true (by first | (with_reducible assumption) | assumption)
                          have q33 : x5_2 < (t123.size : Int) := of_decide_eq_true (by first | (with_reducible assumption) | assumption)
                          have hx33 := bt_at t123 x5_2
                          replace p33 := eq_true p33
                          replace q33 := eq_true q33
                          go_wp2
                          go_ret2
                          exact ⟨by first | rfl | (simp [errW_none, errW_some] <;> rfl) | (simp [*, errW_none, errW_some] <;> rfl), by repeat (first | (with_reducible first | exact HB.out | apply below_alloc | apply pw_below_drewN | apply below_drew1) | exact HB.out)⟩
                        · rw [if_neg c36] at H
                          have c36b0 : (x5_2 == (wrap64 ((t123.size : Int) - 1))) = false := beq_eq_false_iff_ne.mpr c36
                          have c36b1 : (x5_2 != (wrap64 ((t123.size : Int) - 1))) = true := bne_iff_ne.mpr c36
                          have H' := Aside0.mk H
                          clear H
                          have p9 : 0 ≤ (x5_2 : Int) := of_decide_eq_true (by first | (with_reducible assumption) | assumption)
                          have q9 : x5_2 < (t123.size : Int) := of_decide_eq_true (by first | (with_reducible assumption) | assumption)
                          have hx9 := bt_at t123 x5_2
                          replace p9 := eq_true p9
                          replace q9 := eq_true q9
                          have p25 : 0 ≤ (x5_2 : Int) := of_decide_eq_true (by first | (with_reducible assumption) | assumption)
                          have q25 : x5_2 < (t123.size : Int) := of_decide_eq_true (by first | (with_reducible assumption) | assumption)
                          have hx25 := bt_at t123 x5_2
                          replace p25 := eq_true p25
                          replace q25 := eq_true q25
                          have p33 : 0 ≤ (x5_2 : Int) := of_decide_eq_true (by first | (with_reducible assumption) | assumption)
                          have q33 : x5_2 < (t123.size : Int) := of_decide_eq_true (by first | (with_reducible assumption) | assumption)
                          have hx33 := bt_at t123 x5_2
                          replace p33 := eq_true p33
                          replace q33 := eq_true q33
                          go_wp2
                          go_roundg k2
                          case measure => have := HJ2.out; have := HK2.out; omega
                          case rel => exact ⟨(wrap64 (x5_2 + 1)), (by first | rfl | (simp; done) | (simp [*]; done)), H', ⟨by have := HJ2.out; have := HK2.out; omega⟩, ⟨by repeat (first | (with_reducible first | exact HB.out | apply below_alloc | apply pw_below_drewN | apply below_drew1) | exact HB.out)⟩⟩
                    · rw [if_neg c34] at H
                      have c34b0 : ((bt t123 x5_2) == 45) = false := beq_eq_false_iff_ne.mpr c34
                      have c34b1 : ((bt t123 x5_2) != 45) = true := bne_iff_ne.mpr c34
                      simp only [Option.some.injEq, Prod.mk.injEq] at H
                      obtain ⟨rfl, rfl⟩ := H
                      have p9 : 0 ≤ (x5_2 : Int) := of_decide_eq_true (by first | (with_reducible assumption) | assumption)
                      have q9 : x5_2 < (t123.size : Int) := of_decide_eq_true (by first | (with_reducible assumption) | assumption)
                      have hx9 := bt_at t123 x5_2
                      replace p9 := eq_true p9
                      replace q9 := eq_true q9
                      have p25 : 0 ≤ (x5_2 : Int) := of_decide_eq_true (by first | (with_reducible assumption) | assumption)
                      have q25 : x5_2 < (t123.size : Int) := of_decide_eq_true (by first | (with_reducible assumption) | assumption)
                      have hx25 := bt_at t123 x5_2
                      replace p25 := eq_true p25
                      replace q25 := eq_true q25
                      have p33 : 0 ≤ (x5_2 : Int) := of_decide_eq_true (by first | (with_reducible assumption) | assumption)
                      have q33 : x5_2 < (t123.size : Int) := of_decide_eq_true (by first | (with_reducible assumption) | assumption)
                      have hx33 := bt_at t123 x5_2
                      replace p33 := eq_true p33
                      replace q33 := eq_true q33
                      go_wp2
                      go_ret2
                      exact ⟨by first | rfl | (simp [errW_none, errW_some] <;> rfl) | (simp [*, errW_none, errW_some] <;> rfl), by repeat (first | (with_reducible first | exact HB.out | apply below_alloc | apply pw_below_drewN | apply below_drew1) | exact HB.out)⟩
              · rw [if_neg c8] at H
                exact absurd H (by simp)
            · rw [if_neg c7] at H
              have c7b0 : decide (x5_2 < (t123.size : Int)) = false := decide_eq_false c7
              clear c7
              simp only [Option.some.injEq, Prod.mk.injEq] at H
              obtain ⟨rfl, rfl⟩ := H
              go_wp2
              go_ret2
              exact ⟨by first | rfl | (simp [errW_none, errW_some] <;> rfl) | (simp [*, errW_none, errW_some] <;> rfl), by repeat (first | (with_reducible first | exact HB.out | apply below_alloc | apply pw_below_drewN | apply below_drew1) | exact HB.out)⟩

end Go.Proofs.YtagbpjegdfhmpaaDoor.P
