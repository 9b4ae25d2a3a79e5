-- Written by a program of this session (mp.py) over the kit's print.
import Derived.Test.YtagbpjegdfhmpaaDoorPx0
import Derived.Test.YtagbpjegdfhmpaaDoorPx5
import Derived.Test.YtagbpjegdfhmpaaDoorPx6
namespace Go.Proofs.YtagbpjegdfhmpaaDoor.P
open Go.RowKit Go.Proofs.YtagbpjegdfhmpaaDoorW.PrintWords Go.Proofs.YtagbpjegdfhmpaaDoorW.PrintLast Go.Proofs.YtagbpjegdfhmpaaDoorW.PrintMore
attribute [local go_sem] max2_int min2_int max_two min_two max_three min_three max_four min_four   -- for this text's walks alone
open Go.Proofs.YtagbpjegdfhmpaaDoor.G
set_option linter.unusedVariables false
set_option linter.unusedSimpArgs false

/-! ### musterref07_SameTexts: function 44 -/
def musterref07_SameTexts.l0 : Nat → List ByteArray → List ByteArray → Int → Option (Bool)
  | 0, _, _, _ => none
  | k + 1, x0, x1, x5 => if x5 < (x0.length : Int) then (if 0 ≤ x5 then (if x5 < (x1.length : Int) then (if (rdOf ByteArray.empty x0 x5).toList = (rdOf ByteArray.empty x1 x5).toList then (musterref07_SameTexts.l0 k x0 x1 (wrap64 (x5 + 1))) else (some false)) else (none)) else (none)) else (some true)
def musterref07_SameTexts.f (k : Nat) (l0 : List ByteArray) (l1 : List ByteArray) : Option (Bool) := if (l0.length : Int) = (l1.length : Int) then (musterref07_SameTexts.l0 k l0 l1 0) else (some false)
theorem musterref07_SameTexts.mono_l : ∀ k, (∀ y0 y1 y2, LeO (musterref07_SameTexts.l0 k y0 y1 y2) (musterref07_SameTexts.l0 (k + 1) y0 y1 y2))
  | 0 => fun _ _ _ r h => by simp [musterref07_SameTexts.l0] at h
  | k + 1 => by
    have ih0 := musterref07_SameTexts.mono_l k
    · intro y0 y1 y2
      unfold musterref07_SameTexts.l0
      repeat' first
      | (with_reducible exact ih0 _ _ _)
      | (with_reducible exact LeO.refl _)
      | (with_reducible exact LeO.none _)
      | (with_reducible refine LeO.ite ?_ ?_)
      | (with_reducible refine LeO.bind ?_ (fun _ => ?_))
      | exact ih0 _ _ _
      | exact LeO.none _
      | refine LeO.ite ?_ ?_
      | refine LeO.bind ?_ (fun _ => ?_)
theorem musterref07_SameTexts.mono : ∀ a0 a1 k, LeO (musterref07_SameTexts.f k a0 a1) (musterref07_SameTexts.f (k + 1) a0 a1) := by
  intro a0 a1 k
  have ih0 := musterref07_SameTexts.mono_l k
  unfold musterref07_SameTexts.f
  repeat' first
      | (with_reducible exact ih0 _ _ _)
      | (with_reducible exact LeO.refl _)
      | (with_reducible exact LeO.none _)
      | (with_reducible refine LeO.ite ?_ ?_)
      | (with_reducible refine LeO.bind ?_ (fun _ => ?_))
      | exact ih0 _ _ _
      | exact LeO.none _
      | refine LeO.ite ?_ ?_
      | refine LeO.bind ?_ (fun _ => ?_)
set_option maxHeartbeats 8000000 in
set_option maxRecDepth 100000 in
theorem musterref07_SameTexts.calls (k : Nat) (A0 : Option Addr) (c0 : Nat) (l0 : List ByteArray) (A1 : Option Addr) (c1 : Nat) (l1 : List ByteArray) (r : Bool) (w : World) (hr0 : Kd.C Kd.string w A0 l0.length l0) (hc0 : l0.length ≤ c0) (hr1 : Kd.C Kd.string w A1 l1.length l1) (hc1 : l1.length ≤ c1) (h : musterref07_SameTexts.f k l0 l1 = some r) :
    Calls Tryd.prog 44 #[.slice A0 l0.length c0, .slice A1 l1.length c1] w fun e w' => e = .returned (.bool r) ∧ Drawn0 w w' := by
  have HR0 := Aside0.mk hr0
  have HC0 := Aside0.mk hc0
  clear hr0 hc0
  have HR1 := Aside0.mk hr1
  have HC1 := Aside0.mk hc1
  clear hr1 hc1
  have H : (if (l0.length : Int) = (l1.length : Int) then (musterref07_SameTexts.l0 k l0 l1 0) else (some false)) = some r := h
  clear h
  by_cases c3 : (l0.length : Int) = (l1.length : Int)
  · rw [if_pos c3] at H
    have c3b0 : ((l0.length : Int) == (l1.length : Int)) = true := beq_iff_eq.mpr c3
    have c3b1 : ((l0.length : Int) != (l1.length : Int)) = false := bne_eq_false_iff_eq.mpr c3
    have c3b2 : (l0.length == l1.length) = true := by first | simpa using c3 | (simp at c3 ⊢; omega)
    clear c3
    have H' := Aside0.mk H
    clear H
    go_enter Tryd.func44, Tryd.ntmps44
    go_wp2
    repeat (go_quiet (fail); try go_wp2)
    go_loopg [5] k (fun kq v5 w' => ∃ (x5_1 : Int), v5 = .int .i64 x5_1 ∧ Aside0 (musterref07_SameTexts.l0 kq l0 l1 x5_1 = some r) ∧ Aside0 (kq ≤ k) ∧ Drawn0 w w')
    case atStart => exact ⟨(0), (by first | rfl | (simp; done) | (simp [*]; done)), H', ⟨Nat.le_refl _⟩, by repeat (first | exact Drawn0.refl _ | apply Drawn0.step)⟩
    case round =>
      clear H'
      try clear c1
      try clear p2
      try clear c3
      try clear c3b0
      try clear c3b1
      try clear c3b2
      obtain ⟨x5_1, rfl, HA, HK1, ⟨m1, rfl⟩⟩ := hrel
      cases gk with
      | zero => exact absurd HA.out (by simp [musterref07_SameTexts.l0])
      | succ k1 =>
        have H := HA.out
        clear HA
        simp only [musterref07_SameTexts.l0] at H
        by_cases c4 : x5_1 < (l0.length : Int)
        · rw [if_pos c4] at H
          have c4b0 : decide (x5_1 < (l0.length : Int)) = true := decide_eq_true c4
          clear c4
          by_cases c5 : 0 ≤ x5_1
          · rw [if_pos c5] at H
            have c5b0 : decide (0 ≤ x5_1) = true := decide_eq_true c5
            clear c5
            by_cases c6 : x5_1 < (l1.length : Int)
            · rw [if_pos c6] at H
              have c6b0 : decide (x5_1 < (l1.length : Int)) = true := decide_eq_true c6
              clear c6
              by_cases c7 : (rdOf ByteArray.empty l0 x5_1).toList = (rdOf ByteArray.empty l1 x5_1).toList
              · rw [if_pos c7] at H
                have c7b0 : ((rdOf ByteArray.empty l0 x5_1).toList == (rdOf ByteArray.empty l1 x5_1).toList) = true := beq_iff_eq.mpr c7
                have c7b1 : ((rdOf ByteArray.empty l0 x5_1).toList != (rdOf ByteArray.empty l1 x5_1).toList) = false := bne_eq_false_iff_eq.mpr c7
                clear c7
                have H' := Aside0.mk H
                clear H
                have p158 : 0 ≤ (x5_1 : Int) := of_decide_eq_true (by first | (with_reducible assumption) | assumption)
                have q158 : x5_1 < (l0.length : Int) := of_decide_eq_true (by first | (with_reducible assumption) | assumption)
                obtain ⟨ad158, e158, hx158_0⟩ := Kd.at_string HR0.out x5_1 p158 q158
                cases e158
                replace p158 := eq_true p158
                replace q158 := eq_true q158
                have p159 : 0 ≤ (x5_1 : Int) := of_decide_eq_true (by first | (with_reducible assumption) | assumption)
                have q159 : x5_1 < (l1.length : Int) := of_decide_eq_true (by first | (with_reducible assumption) | assumption)
                obtain ⟨ad159, e159, hx159_0⟩ := Kd.at_string HR1.out x5_1 p159 q159
                cases e159
                replace p159 := eq_true p159
                replace q159 := eq_true q159
                go_wp2
                repeat (go_quiet (fail); try go_wp2)
                go_roundg k1
                case measure => have := HK1.out; omega
                case rel => exact ⟨(wrap64 (x5_1 + 1)), (by first | rfl | (simp; done) | (simp [*]; done)), H', ⟨by have := HK1.out; omega⟩, by repeat (first | exact Drawn0.refl _ | apply Drawn0.step)⟩
              · rw [if_neg c7] at H
                have c7b0 : ((rdOf ByteArray.empty l0 x5_1).toList == (rdOf ByteArray.empty l1 x5_1).toList) = false := beq_eq_false_iff_ne.mpr c7
                have c7b1 : ((rdOf ByteArray.empty l0 x5_1).toList != (rdOf ByteArray.empty l1 x5_1).toList) = true := bne_iff_ne.mpr c7
                obtain rfl := Option.some.inj H
                have p158 : 0 ≤ (x5_1 : Int) := of_decide_eq_true (by first | (with_reducible assumption) | assumption)
                have q158 : x5_1 < (l0.length : Int) := of_decide_eq_true (by first | (with_reducible assumption) | assumption)
                obtain ⟨ad158, e158, hx158_0⟩ := Kd.at_string HR0.out x5_1 p158 q158
                cases e158
                replace p158 := eq_true p158
                replace q158 := eq_true q158
                have p159 : 0 ≤ (x5_1 : Int) := of_decide_eq_true (by first | (with_reducible assumption) | assumption)
                have q159 : x5_1 < (l1.length : Int) := of_decide_eq_true (by first | (with_reducible assumption) | assumption)
                obtain ⟨ad159, e159, hx159_0⟩ := Kd.at_string HR1.out x5_1 p159 q159
                cases e159
                replace p159 := eq_true p159
                replace q159 := eq_true q159
                go_wp2
                repeat (go_quiet (fail); try go_wp2)
                go_ret
                exact ⟨by first | rfl | (simp; done) | (simp [*]; done), by repeat (first | exact Drawn0.refl _ | apply Drawn0.step)⟩
            · rw [if_neg c6] at H
              exact absurd H (by simp)
          · rw [if_neg c5] at H
            exact absurd H (by simp)
        · rw [if_neg c4] at H
          have c4b0 : decide (x5_1 < (l0.length : Int)) = false := decide_eq_false c4
          clear c4
          obtain rfl := Option.some.inj H
          go_wp2
          repeat (go_quiet (fail); try go_wp2)
          go_ret
          exact ⟨by first | rfl | (simp; done) | (simp [*]; done), by repeat (first | exact Drawn0.refl _ | apply Drawn0.step)⟩
  · rw [if_neg c3] at H
    have c3b0 : ((l0.length : Int) == (l1.length : Int)) = false := beq_eq_false_iff_ne.mpr c3
    have c3b1 : ((l0.length : Int) != (l1.length : Int)) = true := bne_iff_ne.mpr c3
    have c3b2 : (l0.length == l1.length) = false := by first | simpa using c3 | (simp at c3 ⊢; omega)
    obtain rfl := Option.some.inj H
    go_enter Tryd.func44, Tryd.ntmps44
    go_wp2
    repeat (go_quiet (fail); try go_wp2)
    go_ret
    exact ⟨by first | rfl | (simp; done) | (simp [*]; done), by repeat (first | exact Drawn0.refl _ | apply Drawn0.step)⟩

/-! ### musterref09_SameService: function 21 -/
def musterref09_SameService.f (k : Nat) (a0_0 : ByteArray) (a0_1 : ByteArray) (a0_2 : ByteArray) (a0_3 : Int) (l0_4 : List ByteArray) (a0_5 : Int) (a0_6 : Int) (a1_0 : ByteArray) (a1_1 : ByteArray) (a1_2 : ByteArray) (a1_3 : Int) (l1_4 : List ByteArray) (a1_5 : Int) (a1_6 : Int) : Option (Bool) := if a0_0.toList = a1_0.toList then (if a0_1.toList = a1_1.toList then (if a0_2.toList = a1_2.toList then (if a0_3 = a1_3 then ((musterref07_SameTexts.f k l0_4 l1_4).bind fun t162 => (if t162 = true then (if a0_5 = a1_5 then (some (a0_6 == a1_6)) else (some false)) else (some false))) else (some false)) else (some false)) else (some false)) else (some false)
theorem musterref09_SameService.mono : ∀ a0 a1 a2 a3 a4 a5 a6 a7 a8 a9 a10 a11 a12 a13 k, LeO (musterref09_SameService.f k a0 a1 a2 a3 a4 a5 a6 a7 a8 a9 a10 a11 a12 a13) (musterref09_SameService.f (k + 1) a0 a1 a2 a3 a4 a5 a6 a7 a8 a9 a10 a11 a12 a13) := by
  intro a0 a1 a2 a3 a4 a5 a6 a7 a8 a9 a10 a11 a12 a13 k
  unfold musterref09_SameService.f
  repeat' first
      | (with_reducible exact musterref07_SameTexts.mono _ _ _)
      | (with_reducible exact LeO.refl _)
      | (with_reducible exact LeO.none _)
      | (with_reducible refine LeO.ite ?_ ?_)
      | (with_reducible refine LeO.bind ?_ (fun _ => ?_))
      | exact musterref07_SameTexts.mono _ _ _
      | exact LeO.none _
      | refine LeO.ite ?_ ?_
      | refine LeO.bind ?_ (fun _ => ?_)
set_option maxHeartbeats 8000000 in
set_option maxRecDepth 100000 in
theorem musterref09_SameService.calls (k : Nat) (a0_0 : ByteArray) (a0_1 : ByteArray) (a0_2 : ByteArray) (a0_3 : Int) (A0_4 : Option Addr) (c0_4 : Nat) (l0_4 : List ByteArray) (a0_5 : Int) (a0_6 : Int) (a1_0 : ByteArray) (a1_1 : ByteArray) (a1_2 : ByteArray) (a1_3 : Int) (A1_4 : Option Addr) (c1_4 : Nat) (l1_4 : List ByteArray) (a1_5 : Int) (a1_6 : Int) (r : Bool) (w : World) (hr0_4 : Kd.C Kd.string w A0_4 l0_4.length l0_4) (hc0_4 : l0_4.length ≤ c0_4) (hr1_4 : Kd.C Kd.string w A1_4 l1_4.length l1_4) (hc1_4 : l1_4.length ≤ c1_4) (h : musterref09_SameService.f k a0_0 a0_1 a0_2 a0_3 l0_4 a0_5 a0_6 a1_0 a1_1 a1_2 a1_3 l1_4 a1_5 a1_6 = some r) :
    Calls Tryd.prog 21 #[.agg #[.string a0_0, .string a0_1, .string a0_2, .int .i64 a0_3, .slice A0_4 l0_4.length c0_4, .int .u64 a0_5, .int .u64 a0_6], .agg #[.string a1_0, .string a1_1, .string a1_2, .int .i64 a1_3, .slice A1_4 l1_4.length c1_4, .int .u64 a1_5, .int .u64 a1_6]] w fun e w' => e = .returned (.bool r) ∧ Below w.heap.size w w' := by
  have hu39 := Tryd.underlying39
  have HR0_4 := Aside0.mk hr0_4
  have HC0_4 := Aside0.mk hc0_4
  clear hr0_4 hc0_4
  have HR1_4 := Aside0.mk hr1_4
  have HC1_4 := Aside0.mk hc1_4
  clear hr1_4 hc1_4
  have HB := Aside0.mk (Below.refl w.heap.size w)
  have H : (if a0_0.toList = a1_0.toList then (if a0_1.toList = a1_1.toList then (if a0_2.toList = a1_2.toList then (if a0_3 = a1_3 then ((musterref07_SameTexts.f k l0_4 l1_4).bind fun t162 => (if t162 = true then (if a0_5 = a1_5 then (some (a0_6 == a1_6)) else (some false)) else (some false))) else (some false)) else (some false)) else (some false)) else (some false)) = some r := h
  clear h
  by_cases c3 : a0_0.toList = a1_0.toList
  · rw [if_pos c3] at H
    have c3b0 : (a0_0.toList == a1_0.toList) = true := beq_iff_eq.mpr c3
    have c3b1 : (a0_0.toList != a1_0.toList) = false := bne_eq_false_iff_eq.mpr c3
    clear c3
    by_cases c4 : a0_1.toList = a1_1.toList
    · rw [if_pos c4] at H
      have c4b0 : (a0_1.toList == a1_1.toList) = true := beq_iff_eq.mpr c4
      have c4b1 : (a0_1.toList != a1_1.toList) = false := bne_eq_false_iff_eq.mpr c4
      clear c4
      by_cases c5 : a0_2.toList = a1_2.toList
      · rw [if_pos c5] at H
        have c5b0 : (a0_2.toList == a1_2.toList) = true := beq_iff_eq.mpr c5
        have c5b1 : (a0_2.toList != a1_2.toList) = false := bne_eq_false_iff_eq.mpr c5
        clear c5
        by_cases c6 : a0_3 = a1_3
        · rw [if_pos c6] at H
          have c6b0 : (a0_3 == a1_3) = true := beq_iff_eq.mpr c6
          have c6b1 : (a0_3 != a1_3) = false := bne_eq_false_iff_eq.mpr c6
          clear c6
          replace H := Option.bind_eq_some_iff.mp H
          obtain ⟨t162, A70, H⟩ := H
          replace H : (if t162 = true then (if a0_5 = a1_5 then (some (a0_6 == a1_6)) else (some false)) else (some false)) = some r := H
          have A7 := Aside0.mk A70
          clear A70
          by_cases c8 : t162 = true
          · subst c8
            have H1 : (if a0_5 = a1_5 then (some (a0_6 == a1_6)) else (some false)) = some r := by rw [if_pos rfl] at H; exact H
            clear H
            have H := H1
            clear H1
            by_cases c9 : a0_5 = a1_5
            · rw [if_pos c9] at H
              have c9b0 : (a0_5 == a1_5) = true := beq_iff_eq.mpr c9
              have c9b1 : (a0_5 != a1_5) = false := bne_eq_false_iff_eq.mpr c9
              clear c9
              obtain rfl := Option.some.inj H
              go_enter Tryd.func21, Tryd.ntmps21
              go_wp2_with (first | ((with_reducible refine gate_dst (N := 2) rfl ?_); refine box_event ?hg (N := 2) ?hd (cs := #[.string a0_0, .string a0_1, .string a0_2, .int .i64 a0_3, .slice A0_4 l0_4.length c0_4, .int .u64 a0_5, .int .u64 a0_6]) (t := 39) ?hr ?_; (case hd => rfl); (case hg => rfl); (case hr => first | (go_simp; done) | (go_simp; rfl)); intro gb160 hg w10 hbox hb; have n0_ := Aside0.mk (below_step (by repeat (first | (with_reducible first | exact HB.out | apply below_alloc | apply pw_below_drewN | apply below_drew1) | exact HB.out)) hb); have n1_ := Aside0.mk (hbox); have n2_ := Aside0.mk ((by rw [hg]; exact (below_size (by repeat (first | (with_reducible first | exact HB.out | apply below_alloc | apply pw_below_drewN | apply below_drew1) | exact HB.out))) : w.heap.size ≤ gb160)); have n3_ := Aside0.mk ((by rw [hg]; exact (below_size (by repeat (first | (with_reducible first | exact HB.out | apply below_alloc | apply pw_below_drewN | apply below_drew1) | exact HB.out))) : w.heap.size ≤ gb160)); clear HB; have HB := n0_; have BK160 := n1_; have GW160 := n2_; have GE160 := n3_; clear n0_ n1_ n2_ n3_; clear hb hbox hg) | ((with_reducible refine gate_dst (N := 3) rfl ?_); refine box_event ?hg (N := 3) ?hd (cs := #[.string a1_0, .string a1_1, .string a1_2, .int .i64 a1_3, .slice A1_4 l1_4.length c1_4, .int .u64 a1_5, .int .u64 a1_6]) (t := 39) ?hr ?_; (case hd => rfl); (case hg => rfl); (case hr => first | (go_simp; done) | (go_simp; rfl)); intro gb161 hg w11 hbox hb; have n0_ := Aside0.mk (blk_below (g := gb160) (o := .cells #[.string a0_0, .string a0_1, .string a0_2, .int .i64 a0_3, .slice A0_4 l0_4.length c0_4, .int .u64 a0_5, .int .u64 a0_6] 39 (0, 0)) (by (with_reducible repeat (first | refine blk_drewN ?_ _ | refine blk_drew ?_ | refine blk_alloc ?_ _)); exact BK160.out) hb); have n1_ := Aside0.mk (below_step (by repeat (first | (with_reducible first | exact HB.out | apply below_alloc | apply pw_below_drewN | apply below_drew1 | refine below_set ?_ GE160.out) | exact HB.out)) hb); have n2_ := Aside0.mk (hbox); have n3_ := Aside0.mk ((by rw [hg]; exact (below_size (by repeat (first | (with_reducible first | exact HB.out | apply below_alloc | apply pw_below_drewN | apply below_drew1 | refine below_set ?_ GE160.out) | exact HB.out))) : w.heap.size ≤ gb161)); have n4_ := Aside0.mk ((by rw [hg]; exact (below_size (by repeat (first | (with_reducible first | exact HB.out | apply below_alloc | apply pw_below_drewN | apply below_drew1 | refine below_set ?_ GE160.out) | exact HB.out))) : w.heap.size ≤ gb161)); have n5_ := Aside0.mk ((by rw [hg]; exact Nat.ne_of_lt (blk_lt (g := gb160) (o := .cells #[.string a0_0, .string a0_1, .string a0_2, .int .i64 a0_3, .slice A0_4 l0_4.length c0_4, .int .u64 a0_5, .int .u64 a0_6] 39 (0, 0)) (by (with_reducible repeat (first | refine blk_drewN ?_ _ | refine blk_drew ?_ | refine blk_alloc ?_ _)); exact BK160.out)) : gb160 ≠ gb161)); have n6_ := Aside0.mk ((by rw [hg]; exact Nat.ne_of_gt (blk_lt (g := gb160) (o := .cells #[.string a0_0, .string a0_1, .string a0_2, .int .i64 a0_3, .slice A0_4 l0_4.length c0_4, .int .u64 a0_5, .int .u64 a0_6] 39 (0, 0)) (by (with_reducible repeat (first | refine blk_drewN ?_ _ | refine blk_drew ?_ | refine blk_alloc ?_ _)); exact BK160.out)) : gb161 ≠ gb160)); clear BK160; clear HB; have BK160 := n0_; have HB := n1_; have BK161 := n2_; have GW161 := n3_; have GE161 := n4_; have NB160_161 := n5_; have NB161_160 := n6_; clear n0_ n1_ n2_ n3_ n4_ n5_ n6_; clear hb hbox hg; have hnb12 := NB160_161.out; have hnc12 := NB161_160.out; have hcz13_0 : w11.cell? ⟨gb160, 0, none⟩ = some (.string a0_0) := (blk_cell BK160.out 0).trans rfl; have hcz13_1 : w11.cell? ⟨gb160, 1, none⟩ = some (.string a0_1) := (blk_cell BK160.out 1).trans rfl; have hcz13_2 : w11.cell? ⟨gb160, 2, none⟩ = some (.string a0_2) := (blk_cell BK160.out 2).trans rfl; have hcz13_3 : w11.cell? ⟨gb160, 3, none⟩ = some (.int .i64 a0_3) := (blk_cell BK160.out 3).trans rfl; have hcz13_4 : w11.cell? ⟨gb160, 4, none⟩ = some (.slice A0_4 l0_4.length c0_4) := (blk_cell BK160.out 4).trans rfl; have hcz13_5 : w11.cell? ⟨gb160, 5, none⟩ = some (.int .u64 a0_5) := (blk_cell BK160.out 5).trans rfl; have hcz13_6 : w11.cell? ⟨gb160, 6, none⟩ = some (.int .u64 a0_6) := (blk_cell BK160.out 6).trans rfl; have hfz13_0 := blk_frozen BK160.out 0; have hfz13_1 := blk_frozen BK160.out 1; have hfz13_2 := blk_frozen BK160.out 2; have hfz13_3 := blk_frozen BK160.out 3; have hfz13_4 := blk_frozen BK160.out 4; have hfz13_5 := blk_frozen BK160.out 5; have hfz13_6 := blk_frozen BK160.out 6; have hcz14_0 : w11.cell? ⟨gb161, 0, none⟩ = some (.string a1_0) := (blk_cell BK161.out 0).trans rfl; have hcz14_1 : w11.cell? ⟨gb161, 1, none⟩ = some (.string a1_1) := (blk_cell BK161.out 1).trans rfl; have hcz14_2 : w11.cell? ⟨gb161, 2, none⟩ = some (.string a1_2) := (blk_cell BK161.out 2).trans rfl; have hcz14_3 : w11.cell? ⟨gb161, 3, none⟩ = some (.int .i64 a1_3) := (blk_cell BK161.out 3).trans rfl; have hcz14_4 : w11.cell? ⟨gb161, 4, none⟩ = some (.slice A1_4 l1_4.length c1_4) := (blk_cell BK161.out 4).trans rfl; have hcz14_5 : w11.cell? ⟨gb161, 5, none⟩ = some (.int .u64 a1_5) := (blk_cell BK161.out 5).trans rfl; have hcz14_6 : w11.cell? ⟨gb161, 6, none⟩ = some (.int .u64 a1_6) := (blk_cell BK161.out 6).trans rfl; have hfz14_0 := blk_frozen BK161.out 0; have hfz14_1 := blk_frozen BK161.out 1; have hfz14_2 := blk_frozen BK161.out 2; have hfz14_3 := blk_frozen BK161.out 3; have hfz14_4 := blk_frozen BK161.out 4; have hfz14_5 := blk_frozen BK161.out 5; have hfz14_6 := blk_frozen BK161.out 6) | (go_at_call 44; (with_reducible refine (musterref07_SameTexts.calls k _ _ l0_4 _ _ l1_4 true _ ?side1 ?side2 ?side3 ?side4 A7.out).mono ?_); (case side1 => repeat (first | exact (Kd.C_below HR0_4.out HB.out) | (with_reducible refine Kd.C_alloc ?_ _) | (with_reducible refine Kd.C_drewN ?_ _) | (with_reducible refine Kd.C_drew ?_))); (case side2 => exact HC0_4.out); (case side3 => repeat (first | exact (Kd.C_below HR1_4.out HB.out) | (with_reducible refine Kd.C_alloc ?_ _) | (with_reducible refine Kd.C_drewN ?_ _) | (with_reducible refine Kd.C_drew ?_))); (case side4 => exact HC1_4.out); rintro e w' ⟨rfl, ⟨nd, rfl⟩⟩))
              go_ret
              exact ⟨by first | rfl | (simp [errW_none, errW_some] <;> rfl) | (simp [*, errW_none, errW_some] <;> rfl), by repeat (first | (with_reducible first | exact HB.out | apply below_alloc | apply pw_below_drewN | apply below_drew1 | refine below_set ?_ GE160.out | refine below_set ?_ GE161.out) | exact HB.out)⟩
            · rw [if_neg c9] at H
              have c9b0 : (a0_5 == a1_5) = false := beq_eq_false_iff_ne.mpr c9
              have c9b1 : (a0_5 != a1_5) = true := bne_iff_ne.mpr c9
              obtain rfl := Option.some.inj H
              go_enter Tryd.func21, Tryd.ntmps21
              go_wp2_with (first | ((with_reducible refine gate_dst (N := 2) rfl ?_); refine box_event ?hg (N := 2) ?hd (cs := #[.string a0_0, .string a0_1, .string a0_2, .int .i64 a0_3, .slice A0_4 l0_4.length c0_4, .int .u64 a0_5, .int .u64 a0_6]) (t := 39) ?hr ?_; (case hd => rfl); (case hg => rfl); (case hr => first | (go_simp; done) | (go_simp; rfl)); intro gb160 hg w15 hbox hb; have n0_ := Aside0.mk (below_step (by repeat (first | (with_reducible first | exact HB.out | apply below_alloc | apply pw_below_drewN | apply below_drew1) | exact HB.out)) hb); have n1_ := Aside0.mk (hbox); have n2_ := Aside0.mk ((by rw [hg]; exact (below_size (by repeat (first | (with_reducible first | exact HB.out | apply below_alloc | apply pw_below_drewN | apply below_drew1) | exact HB.out))) : w.heap.size ≤ gb160)); have n3_ := Aside0.mk ((by rw [hg]; exact (below_size (by repeat (first | (with_reducible first | exact HB.out | apply below_alloc | apply pw_below_drewN | apply below_drew1) | exact HB.out))) : w.heap.size ≤ gb160)); clear HB; have HB := n0_; have BK160 := n1_; have GW160 := n2_; have GE160 := n3_; clear n0_ n1_ n2_ n3_; clear hb hbox hg) | ((with_reducible refine gate_dst (N := 3) rfl ?_); refine box_event ?hg (N := 3) ?hd (cs := #[.string a1_0, .string a1_1, .string a1_2, .int .i64 a1_3, .slice A1_4 l1_4.length c1_4, .int .u64 a1_5, .int .u64 a1_6]) (t := 39) ?hr ?_; (case hd => rfl); (case hg => rfl); (case hr => first | (go_simp; done) | (go_simp; rfl)); intro gb161 hg w16 hbox hb; have n0_ := Aside0.mk (blk_below (g := gb160) (o := .cells #[.string a0_0, .string a0_1, .string a0_2, .int .i64 a0_3, .slice A0_4 l0_4.length c0_4, .int .u64 a0_5, .int .u64 a0_6] 39 (0, 0)) (by (with_reducible repeat (first | refine blk_drewN ?_ _ | refine blk_drew ?_ | refine blk_alloc ?_ _)); exact BK160.out) hb); have n1_ := Aside0.mk (below_step (by repeat (first | (with_reducible first | exact HB.out | apply below_alloc | apply pw_below_drewN | apply below_drew1 | refine below_set ?_ GE160.out) | exact HB.out)) hb); have n2_ := Aside0.mk (hbox); have n3_ := Aside0.mk ((by rw [hg]; exact (below_size (by repeat (first | (with_reducible first | exact HB.out | apply below_alloc | apply pw_below_drewN | apply below_drew1 | refine below_set ?_ GE160.out) | exact HB.out))) : w.heap.size ≤ gb161)); have n4_ := Aside0.mk ((by rw [hg]; exact (below_size (by repeat (first | (with_reducible first | exact HB.out | apply below_alloc | apply pw_below_drewN | apply below_drew1 | refine below_set ?_ GE160.out) | exact HB.out))) : w.heap.size ≤ gb161)); have n5_ := Aside0.mk ((by rw [hg]; exact Nat.ne_of_lt (blk_lt (g := gb160) (o := .cells #[.string a0_0, .string a0_1, .string a0_2, .int .i64 a0_3, .slice A0_4 l0_4.length c0_4, .int .u64 a0_5, .int .u64 a0_6] 39 (0, 0)) (by (with_reducible repeat (first | refine blk_drewN ?_ _ | refine blk_drew ?_ | refine blk_alloc ?_ _)); exact BK160.out)) : gb160 ≠ gb161)); have n6_ := Aside0.mk ((by rw [hg]; exact Nat.ne_of_gt (blk_lt (g := gb160) (o := .cells #[.string a0_0, .string a0_1, .string a0_2, .int .i64 a0_3, .slice A0_4 l0_4.length c0_4, .int .u64 a0_5, .int .u64 a0_6] 39 (0, 0)) (by (with_reducible repeat (first | refine blk_drewN ?_ _ | refine blk_drew ?_ | refine blk_alloc ?_ _)); exact BK160.out)) : gb161 ≠ gb160)); clear BK160; clear HB; have BK160 := n0_; have HB := n1_; have BK161 := n2_; have GW161 := n3_; have GE161 := n4_; have NB160_161 := n5_; have NB161_160 := n6_; clear n0_ n1_ n2_ n3_ n4_ n5_ n6_; clear hb hbox hg; have hnb17 := NB160_161.out; have hnc17 := NB161_160.out; have hcz18_0 : w16.cell? ⟨gb160, 0, none⟩ = some (.string a0_0) := (blk_cell BK160.out 0).trans rfl; have hcz18_1 : w16.cell? ⟨gb160, 1, none⟩ = some (.string a0_1) := (blk_cell BK160.out 1).trans rfl; have hcz18_2 : w16.cell? ⟨gb160, 2, none⟩ = some (.string a0_2) := (blk_cell BK160.out 2).trans rfl; have hcz18_3 : w16.cell? ⟨gb160, 3, none⟩ = some (.int .i64 a0_3) := (blk_cell BK160.out 3).trans rfl; have hcz18_4 : w16.cell? ⟨gb160, 4, none⟩ = some (.slice A0_4 l0_4.length c0_4) := (blk_cell BK160.out 4).trans rfl; have hcz18_5 : w16.cell? ⟨gb160, 5, none⟩ = some (.int .u64 a0_5) := (blk_cell BK160.out 5).trans rfl; have hcz18_6 : w16.cell? ⟨gb160, 6, none⟩ = some (.int .u64 a0_6) := (blk_cell BK160.out 6).trans rfl; have hfz18_0 := blk_frozen BK160.out 0; have hfz18_1 := blk_frozen BK160.out 1; have hfz18_2 := blk_frozen BK160.out 2; have hfz18_3 := blk_frozen BK160.out 3; have hfz18_4 := blk_frozen BK160.out 4; have hfz18_5 := blk_frozen BK160.out 5; have hfz18_6 := blk_frozen BK160.out 6; have hcz19_0 : w16.cell? ⟨gb161, 0, none⟩ = some (.string a1_0) := (blk_cell BK161.out 0).trans rfl; have hcz19_1 : w16.cell? ⟨gb161, 1, none⟩ = some (.string a1_1) := (blk_cell BK161.out 1).trans rfl; have hcz19_2 : w16.cell? ⟨gb161, 2, none⟩ = some (.string a1_2) := (blk_cell BK161.out 2).trans rfl; have hcz19_3 : w16.cell? ⟨gb161, 3, none⟩ = some (.int .i64 a1_3) := (blk_cell BK161.out 3).trans rfl; have hcz19_4 : w16.cell? ⟨gb161, 4, none⟩ = some (.slice A1_4 l1_4.length c1_4) := (blk_cell BK161.out 4).trans rfl; have hcz19_5 : w16.cell? ⟨gb161, 5, none⟩ = some (.int .u64 a1_5) := (blk_cell BK161.out 5).trans rfl; have hcz19_6 : w16.cell? ⟨gb161, 6, none⟩ = some (.int .u64 a1_6) := (blk_cell BK161.out 6).trans rfl; have hfz19_0 := blk_frozen BK161.out 0; have hfz19_1 := blk_frozen BK161.out 1; have hfz19_2 := blk_frozen BK161.out 2; have hfz19_3 := blk_frozen BK161.out 3; have hfz19_4 := blk_frozen BK161.out 4; have hfz19_5 := blk_frozen BK161.out 5; have hfz19_6 := blk_frozen BK161.out 6) | (go_at_call 44; (with_reducible refine (musterref07_SameTexts.calls k _ _ l0_4 _ _ l1_4 true _ ?side1 ?side2 ?side3 ?side4 A7.out).mono ?_); (case side1 => repeat (first | exact (Kd.C_below HR0_4.out HB.out) | (with_reducible refine Kd.C_alloc ?_ _) | (with_reducible refine Kd.C_drewN ?_ _) | (with_reducible refine Kd.C_drew ?_))); (case side2 => exact HC0_4.out); (case side3 => repeat (first | exact (Kd.C_below HR1_4.out HB.out) | (with_reducible refine Kd.C_alloc ?_ _) | (with_reducible refine Kd.C_drewN ?_ _) | (with_reducible refine Kd.C_drew ?_))); (case side4 => exact HC1_4.out); rintro e w' ⟨rfl, ⟨nd, rfl⟩⟩))
              go_ret
              exact ⟨by first | rfl | (simp [errW_none, errW_some] <;> rfl) | (simp [*, errW_none, errW_some] <;> rfl), by repeat (first | (with_reducible first | exact HB.out | apply below_alloc | apply pw_below_drewN | apply below_drew1 | refine below_set ?_ GE160.out | refine below_set ?_ GE161.out) | exact HB.out)⟩
          · replace c8 := Bool.eq_false_iff.mpr c8
            subst c8
            have H1 : (some false) = some r := by rw [if_neg (show ¬ (false = true) by decide)] at H; exact H
            clear H
            have H := H1
            clear H1
            obtain rfl := Option.some.inj H
            go_enter Tryd.func21, Tryd.ntmps21
            go_wp2_with (first | ((with_reducible refine gate_dst (N := 2) rfl ?_); refine box_event ?hg (N := 2) ?hd (cs := #[.string a0_0, .string a0_1, .string a0_2, .int .i64 a0_3, .slice A0_4 l0_4.length c0_4, .int .u64 a0_5, .int .u64 a0_6]) (t := 39) ?hr ?_; (case hd => rfl); (case hg => rfl); (case hr => first | (go_simp; done) | (go_simp; rfl)); intro gb160 hg w20 hbox hb; have n0_ := Aside0.mk (below_step (by repeat (first | (with_reducible first | exact HB.out | apply below_alloc | apply pw_below_drewN | apply below_drew1) | exact HB.out)) hb); have n1_ := Aside0.mk (hbox); have n2_ := Aside0.mk ((by rw [hg]; exact (below_size (by repeat (first | (with_reducible first | exact HB.out | apply below_alloc | apply pw_below_drewN | apply below_drew1) | exact HB.out))) : w.heap.size ≤ gb160)); have n3_ := Aside0.mk ((by rw [hg]; exact (below_size (by repeat (first | (with_reducible first | exact HB.out | apply below_alloc | apply pw_below_drewN | apply below_drew1) | exact HB.out))) : w.heap.size ≤ gb160)); clear HB; have HB := n0_; have BK160 := n1_; have GW160 := n2_; have GE160 := n3_; clear n0_ n1_ n2_ n3_; clear hb hbox hg) | ((with_reducible refine gate_dst (N := 3) rfl ?_); refine box_event ?hg (N := 3) ?hd (cs := #[.string a1_0, .string a1_1, .string a1_2, .int .i64 a1_3, .slice A1_4 l1_4.length c1_4, .int .u64 a1_5, .int .u64 a1_6]) (t := 39) ?hr ?_; (case hd => rfl); (case hg => rfl); (case hr => first | (go_simp; done) | (go_simp; rfl)); intro gb161 hg w21 hbox hb; have n0_ := Aside0.mk (blk_below (g := gb160) (o := .cells #[.string a0_0, .string a0_1, .string a0_2, .int .i64 a0_3, .slice A0_4 l0_4.length c0_4, .int .u64 a0_5, .int .u64 a0_6] 39 (0, 0)) (by (with_reducible repeat (first | refine blk_drewN ?_ _ | refine blk_drew ?_ | refine blk_alloc ?_ _)); exact BK160.out) hb); have n1_ := Aside0.mk (below_step (by repeat (first | (with_reducible first | exact HB.out | apply below_alloc | apply pw_below_drewN | apply below_drew1 | refine below_set ?_ GE160.out) | exact HB.out)) hb); have n2_ := Aside0.mk (hbox); have n3_ := Aside0.mk ((by rw [hg]; exact (below_size (by repeat (first | (with_reducible first | exact HB.out | apply below_alloc | apply pw_below_drewN | apply below_drew1 | refine below_set ?_ GE160.out) | exact HB.out))) : w.heap.size ≤ gb161)); have n4_ := Aside0.mk ((by rw [hg]; exact (below_size (by repeat (first | (with_reducible first | exact HB.out | apply below_alloc | apply pw_below_drewN | apply below_drew1 | refine below_set ?_ GE160.out) | exact HB.out))) : w.heap.size ≤ gb161)); have n5_ := Aside0.mk ((by rw [hg]; exact Nat.ne_of_lt (blk_lt (g := gb160) (o := .cells #[.string a0_0, .string a0_1, .string a0_2, .int .i64 a0_3, .slice A0_4 l0_4.length c0_4, .int .u64 a0_5, .int .u64 a0_6] 39 (0, 0)) (by (with_reducible repeat (first | refine blk_drewN ?_ _ | refine blk_drew ?_ | refine blk_alloc ?_ _)); exact BK160.out)) : gb160 ≠ gb161)); have n6_ := Aside0.mk ((by rw [hg]; exact Nat.ne_of_gt (blk_lt (g := gb160) (o := .cells #[.string a0_0, .string a0_1, .string a0_2, .int .i64 a0_3, .slice A0_4 l0_4.length c0_4, .int .u64 a0_5, .int .u64 a0_6] 39 (0, 0)) (by (with_reducible repeat (first | refine blk_drewN ?_ _ | refine blk_drew ?_ | refine blk_alloc ?_ _)); exact BK160.out)) : gb161 ≠ gb160)); clear BK160; clear HB; have BK160 := n0_; have HB := n1_; have BK161 := n2_; have GW161 := n3_; have GE161 := n4_; have NB160_161 := n5_; have NB161_160 := n6_; clear n0_ n1_ n2_ n3_ n4_ n5_ n6_; clear hb hbox hg; have hnb22 := NB160_161.out; have hnc22 := NB161_160.out; have hcz23_0 : w21.cell? ⟨gb160, 0, none⟩ = some (.string a0_0) := (blk_cell BK160.out 0).trans rfl; have hcz23_1 : w21.cell? ⟨gb160, 1, none⟩ = some (.string a0_1) := (blk_cell BK160.out 1).trans rfl; have hcz23_2 : w21.cell? ⟨gb160, 2, none⟩ = some (.string a0_2) := (blk_cell BK160.out 2).trans rfl; have hcz23_3 : w21.cell? ⟨gb160, 3, none⟩ = some (.int .i64 a0_3) := (blk_cell BK160.out 3).trans rfl; have hcz23_4 : w21.cell? ⟨gb160, 4, none⟩ = some (.slice A0_4 l0_4.length c0_4) := (blk_cell BK160.out 4).trans rfl; have hcz23_5 : w21.cell? ⟨gb160, 5, none⟩ = some (.int .u64 a0_5) := (blk_cell BK160.out 5).trans rfl; have hcz23_6 : w21.cell? ⟨gb160, 6, none⟩ = some (.int .u64 a0_6) := (blk_cell BK160.out 6).trans rfl; have hfz23_0 := blk_frozen BK160.out 0; have hfz23_1 := blk_frozen BK160.out 1; have hfz23_2 := blk_frozen BK160.out 2; have hfz23_3 := blk_frozen BK160.out 3; have hfz23_4 := blk_frozen BK160.out 4; have hfz23_5 := blk_frozen BK160.out 5; have hfz23_6 := blk_frozen BK160.out 6; have hcz24_0 : w21.cell? ⟨gb161, 0, none⟩ = some (.string a1_0) := (blk_cell BK161.out 0).trans rfl; have hcz24_1 : w21.cell? ⟨gb161, 1, none⟩ = some (.string a1_1) := (blk_cell BK161.out 1).trans rfl; have hcz24_2 : w21.cell? ⟨gb161, 2, none⟩ = some (.string a1_2) := (blk_cell BK161.out 2).trans rfl; have hcz24_3 : w21.cell? ⟨gb161, 3, none⟩ = some (.int .i64 a1_3) := (blk_cell BK161.out 3).trans rfl; have hcz24_4 : w21.cell? ⟨gb161, 4, none⟩ = some (.slice A1_4 l1_4.length c1_4) := (blk_cell BK161.out 4).trans rfl; have hcz24_5 : w21.cell? ⟨gb161, 5, none⟩ = some (.int .u64 a1_5) := (blk_cell BK161.out 5).trans rfl; have hcz24_6 : w21.cell? ⟨gb161, 6, none⟩ = some (.int .u64 a1_6) := (blk_cell BK161.out 6).trans rfl; have hfz24_0 := blk_frozen BK161.out 0; have hfz24_1 := blk_frozen BK161.out 1; have hfz24_2 := blk_frozen BK161.out 2; have hfz24_3 := blk_frozen BK161.out 3; have hfz24_4 := blk_frozen BK161.out 4; have hfz24_5 := blk_frozen BK161.out 5; have hfz24_6 := blk_frozen BK161.out 6) | (go_at_call 44; (with_reducible refine (musterref07_SameTexts.calls k _ _ l0_4 _ _ l1_4 false _ ?side1 ?side2 ?side3 ?side4 A7.out).mono ?_); (case side1 => repeat (first | exact (Kd.C_below HR0_4.out HB.out) | (with_reducible refine Kd.C_alloc ?_ _) | (with_reducible refine Kd.C_drewN ?_ _) | (with_reducible refine Kd.C_drew ?_))); (case side2 => exact HC0_4.out); (case side3 => repeat (first | exact (Kd.C_below HR1_4.out HB.out) | (with_reducible refine Kd.C_alloc ?_ _) | (with_reducible refine Kd.C_drewN ?_ _) | (with_reducible refine Kd.C_drew ?_))); (case side4 => exact HC1_4.out); rintro e w' ⟨rfl, ⟨nd, rfl⟩⟩))
            go_ret
            exact ⟨by first | rfl | (simp [errW_none, errW_some] <;> rfl) | (simp [*, errW_none, errW_some] <;> rfl), by repeat (first | (with_reducible first | exact HB.out | apply below_alloc | apply pw_below_drewN | apply below_drew1 | refine below_set ?_ GE160.out | refine below_set ?_ GE161.out) | exact HB.out)⟩
        · rw [if_neg c6] at H
          have c6b0 : (a0_3 == a1_3) = false := beq_eq_false_iff_ne.mpr c6
          have c6b1 : (a0_3 != a1_3) = true := bne_iff_ne.mpr c6
          obtain rfl := Option.some.inj H
          go_enter Tryd.func21, Tryd.ntmps21
          go_wp2_with (first | ((with_reducible refine gate_dst (N := 2) rfl ?_); refine box_event ?hg (N := 2) ?hd (cs := #[.string a0_0, .string a0_1, .string a0_2, .int .i64 a0_3, .slice A0_4 l0_4.length c0_4, .int .u64 a0_5, .int .u64 a0_6]) (t := 39) ?hr ?_; (case hd => rfl); (case hg => rfl); (case hr => first | (go_simp; done) | (go_simp; rfl)); intro gb160 hg w25 hbox hb; have n0_ := Aside0.mk (below_step (by repeat (first | (with_reducible first | exact HB.out | apply below_alloc | apply pw_below_drewN | apply below_drew1) | exact HB.out)) hb); have n1_ := Aside0.mk (hbox); have n2_ := Aside0.mk ((by rw [hg]; exact (below_size (by repeat (first | (with_reducible first | exact HB.out | apply below_alloc | apply pw_below_drewN | apply below_drew1) | exact HB.out))) : w.heap.size ≤ gb160)); have n3_ := Aside0.mk ((by rw [hg]; exact (below_size (by repeat (first | (with_reducible first | exact HB.out | apply below_alloc | apply pw_below_drewN | apply below_drew1) | exact HB.out))) : w.heap.size ≤ gb160)); clear HB; have HB := n0_; have BK160 := n1_; have GW160 := n2_; have GE160 := n3_; clear n0_ n1_ n2_ n3_; clear hb hbox hg) | ((with_reducible refine gate_dst (N := 3) rfl ?_); refine box_event ?hg (N := 3) ?hd (cs := #[.string a1_0, .string a1_1, .string a1_2, .int .i64 a1_3, .slice A1_4 l1_4.length c1_4, .int .u64 a1_5, .int .u64 a1_6]) (t := 39) ?hr ?_; (case hd => rfl); (case hg => rfl); (case hr => first | (go_simp; done) | (go_simp; rfl)); intro gb161 hg w26 hbox hb; have n0_ := Aside0.mk (blk_below (g := gb160) (o := .cells #[.string a0_0, .string a0_1, .string a0_2, .int .i64 a0_3, .slice A0_4 l0_4.length c0_4, .int .u64 a0_5, .int .u64 a0_6] 39 (0, 0)) (by (with_reducible repeat (first | refine blk_drewN ?_ _ | refine blk_drew ?_ | refine blk_alloc ?_ _)); exact BK160.out) hb); have n1_ := Aside0.mk (below_step (by repeat (first | (with_reducible first | exact HB.out | apply below_alloc | apply pw_below_drewN | apply below_drew1 | refine below_set ?_ GE160.out) | exact HB.out)) hb); have n2_ := Aside0.mk (hbox); have n3_ := Aside0.mk ((by rw [hg]; exact (below_size (by repeat (first | (with_reducible first | exact HB.out | apply below_alloc | apply pw_below_drewN | apply below_drew1 | refine below_set ?_ GE160.out) | exact HB.out))) : w.heap.size ≤ gb161)); have n4_ := Aside0.mk ((by rw [hg]; exact (below_size (by repeat (first | (with_reducible first | exact HB.out | apply below_alloc | apply pw_below_drewN | apply below_drew1 | refine below_set ?_ GE160.out) | exact HB.out))) : w.heap.size ≤ gb161)); have n5_ := Aside0.mk ((by rw [hg]; exact Nat.ne_of_lt (blk_lt (g := gb160) (o := .cells #[.string a0_0, .string a0_1, .string a0_2, .int .i64 a0_3, .slice A0_4 l0_4.length c0_4, .int .u64 a0_5, .int .u64 a0_6] 39 (0, 0)) (by (with_reducible repeat (first | refine blk_drewN ?_ _ | refine blk_drew ?_ | refine blk_alloc ?_ _)); exact BK160.out)) : gb160 ≠ gb161)); have n6_ := Aside0.mk ((by rw [hg]; exact Nat.ne_of_gt (blk_lt (g := gb160) (o := .cells #[.string a0_0, .string a0_1, .string a0_2, .int .i64 a0_3, .slice A0_4 l0_4.length c0_4, .int .u64 a0_5, .int .u64 a0_6] 39 (0, 0)) (by (with_reducible repeat (first | refine blk_drewN ?_ _ | refine blk_drew ?_ | refine blk_alloc ?_ _)); exact BK160.out)) : gb161 ≠ gb160)); clear BK160; clear HB; have BK160 := n0_; have HB := n1_; have BK161 := n2_; have GW161 := n3_; have GE161 := n4_; have NB160_161 := n5_; have NB161_160 := n6_; clear n0_ n1_ n2_ n3_ n4_ n5_ n6_; clear hb hbox hg; have hnb27 := NB160_161.out; have hnc27 := NB161_160.out; have hcz28_0 : w26.cell? ⟨gb160, 0, none⟩ = some (.string a0_0) := (blk_cell BK160.out 0).trans rfl; have hcz28_1 : w26.cell? ⟨gb160, 1, none⟩ = some (.string a0_1) := (blk_cell BK160.out 1).trans rfl; have hcz28_2 : w26.cell? ⟨gb160, 2, none⟩ = some (.string a0_2) := (blk_cell BK160.out 2).trans rfl; have hcz28_3 : w26.cell? ⟨gb160, 3, none⟩ = some (.int .i64 a0_3) := (blk_cell BK160.out 3).trans rfl; have hcz28_4 : w26.cell? ⟨gb160, 4, none⟩ = some (.slice A0_4 l0_4.length c0_4) := (blk_cell BK160.out 4).trans rfl; have hcz28_5 : w26.cell? ⟨gb160, 5, none⟩ = some (.int .u64 a0_5) := (blk_cell BK160.out 5).trans rfl; have hcz28_6 : w26.cell? ⟨gb160, 6, none⟩ = some (.int .u64 a0_6) := (blk_cell BK160.out 6).trans rfl; have hfz28_0 := blk_frozen BK160.out 0; have hfz28_1 := blk_frozen BK160.out 1; have hfz28_2 := blk_frozen BK160.out 2; have hfz28_3 := blk_frozen BK160.out 3; have hfz28_4 := blk_frozen BK160.out 4; have hfz28_5 := blk_frozen BK160.out 5; have hfz28_6 := blk_frozen BK160.out 6; have hcz29_0 : w26.cell? ⟨gb161, 0, none⟩ = some (.string a1_0) := (blk_cell BK161.out 0).trans rfl; have hcz29_1 : w26.cell? ⟨gb161, 1, none⟩ = some (.string a1_1) := (blk_cell BK161.out 1).trans rfl; have hcz29_2 : w26.cell? ⟨gb161, 2, none⟩ = some (.string a1_2) := (blk_cell BK161.out 2).trans rfl; have hcz29_3 : w26.cell? ⟨gb161, 3, none⟩ = some (.int .i64 a1_3) := (blk_cell BK161.out 3).trans rfl; have hcz29_4 : w26.cell? ⟨gb161, 4, none⟩ = some (.slice A1_4 l1_4.length c1_4) := (blk_cell BK161.out 4).trans rfl; have hcz29_5 : w26.cell? ⟨gb161, 5, none⟩ = some (.int .u64 a1_5) := (blk_cell BK161.out 5).trans rfl; have hcz29_6 : w26.cell? ⟨gb161, 6, none⟩ = some (.int .u64 a1_6) := (blk_cell BK161.out 6).trans rfl; have hfz29_0 := blk_frozen BK161.out 0; have hfz29_1 := blk_frozen BK161.out 1; have hfz29_2 := blk_frozen BK161.out 2; have hfz29_3 := blk_frozen BK161.out 3; have hfz29_4 := blk_frozen BK161.out 4; have hfz29_5 := blk_frozen BK161.out 5; have hfz29_6 := blk_frozen BK161.out 6))
          go_ret
          exact ⟨by first | rfl | (simp [errW_none, errW_some] <;> rfl) | (simp [*, errW_none, errW_some] <;> rfl), by repeat (first | (with_reducible first | exact HB.out | apply below_alloc | apply pw_below_drewN | apply below_drew1 | refine below_set ?_ GE160.out | refine below_set ?_ GE161.out) | exact HB.out)⟩
      · rw [if_neg c5] at H
        have c5b0 : (a0_2.toList == a1_2.toList) = false := beq_eq_false_iff_ne.mpr c5
        have c5b1 : (a0_2.toList != a1_2.toList) = true := bne_iff_ne.mpr c5
        obtain rfl := Option.some.inj H
        go_enter Tryd.func21, Tryd.ntmps21
        go_wp2_with (first | ((with_reducible refine gate_dst (N := 2) rfl ?_); refine box_event ?hg (N := 2) ?hd (cs := #[.string a0_0, .string a0_1, .string a0_2, .int .i64 a0_3, .slice A0_4 l0_4.length c0_4, .int .u64 a0_5, .int .u64 a0_6]) (t := 39) ?hr ?_; (case hd => rfl); (case hg => rfl); (case hr => first | (go_simp; done) | (go_simp; rfl)); intro gb160 hg w30 hbox hb; have n0_ := Aside0.mk (below_step (by repeat (first | (with_reducible first | exact HB.out | apply below_alloc | apply pw_below_drewN | apply below_drew1) | exact HB.out)) hb); have n1_ := Aside0.mk (hbox); have n2_ := Aside0.mk ((by rw [hg]; exact (below_size (by repeat (first | (with_reducible first | exact HB.out | apply below_alloc | apply pw_below_drewN | apply below_drew1) | exact HB.out))) : w.heap.size ≤ gb160)); have n3_ := Aside0.mk ((by rw [hg]; exact (below_size (by repeat (first | (with_reducible first | exact HB.out | apply below_alloc | apply pw_below_drewN | apply below_drew1) | exact HB.out))) : w.heap.size ≤ gb160)); clear HB; have HB := n0_; have BK160 := n1_; have GW160 := n2_; have GE160 := n3_; clear n0_ n1_ n2_ n3_; clear hb hbox hg) | ((with_reducible refine gate_dst (N := 3) rfl ?_); refine box_event ?hg (N := 3) ?hd (cs := #[.string a1_0, .string a1_1, .string a1_2, .int .i64 a1_3, .slice A1_4 l1_4.length c1_4, .int .u64 a1_5, .int .u64 a1_6]) (t := 39) ?hr ?_; (case hd => rfl); (case hg => rfl); (case hr => first | (go_simp; done) | (go_simp; rfl)); intro gb161 hg w31 hbox hb; have n0_ := Aside0.mk (blk_below (g := gb160) (o := .cells #[.string a0_0, .string a0_1, .string a0_2, .int .i64 a0_3, .slice A0_4 l0_4.length c0_4, .int .u64 a0_5, .int .u64 a0_6] 39 (0, 0)) (by (with_reducible repeat (first | refine blk_drewN ?_ _ | refine blk_drew ?_ | refine blk_alloc ?_ _)); exact BK160.out) hb); have n1_ := Aside0.mk (below_step (by repeat (first | (with_reducible first | exact HB.out | apply below_alloc | apply pw_below_drewN | apply below_drew1 | refine below_set ?_ GE160.out) | exact HB.out)) hb); have n2_ := Aside0.mk (hbox); have n3_ := Aside0.mk ((by rw [hg]; exact (below_size (by repeat (first | (with_reducible first | exact HB.out | apply below_alloc | apply pw_below_drewN | apply below_drew1 | refine below_set ?_ GE160.out) | exact HB.out))) : w.heap.size ≤ gb161)); have n4_ := Aside0.mk ((by rw [hg]; exact (below_size (by repeat (first | (with_reducible first | exact HB.out | apply below_alloc | apply pw_below_drewN | apply below_drew1 | refine below_set ?_ GE160.out) | exact HB.out))) : w.heap.size ≤ gb161)); have n5_ := Aside0.mk ((by rw [hg]; exact Nat.ne_of_lt (blk_lt (g := gb160) (o := .cells #[.string a0_0, .string a0_1, .string a0_2, .int .i64 a0_3, .slice A0_4 l0_4.length c0_4, .int .u64 a0_5, .int .u64 a0_6] 39 (0, 0)) (by (with_reducible repeat (first | refine blk_drewN ?_ _ | refine blk_drew ?_ | refine blk_alloc ?_ _)); exact BK160.out)) : gb160 ≠ gb161)); have n6_ := Aside0.mk ((by rw [hg]; exact Nat.ne_of_gt (blk_lt (g := gb160) (o := .cells #[.string a0_0, .string a0_1, .string a0_2, .int .i64 a0_3, .slice A0_4 l0_4.length c0_4, .int .u64 a0_5, .int .u64 a0_6] 39 (0, 0)) (by (with_reducible repeat (first | refine blk_drewN ?_ _ | refine blk_drew ?_ | refine blk_alloc ?_ _)); exact BK160.out)) : gb161 ≠ gb160)); clear BK160; clear HB; have BK160 := n0_; have HB := n1_; have BK161 := n2_; have GW161 := n3_; have GE161 := n4_; have NB160_161 := n5_; have NB161_160 := n6_; clear n0_ n1_ n2_ n3_ n4_ n5_ n6_; clear hb hbox hg; have hnb32 := NB160_161.out; have hnc32 := NB161_160.out; have hcz33_0 : w31.cell? ⟨gb160, 0, none⟩ = some (.string a0_0) := (blk_cell BK160.out 0).trans rfl; have hcz33_1 : w31.cell? ⟨gb160, 1, none⟩ = some (.string a0_1) := (blk_cell BK160.out 1).trans rfl; have hcz33_2 : w31.cell? ⟨gb160, 2, none⟩ = some (.string a0_2) := (blk_cell BK160.out 2).trans rfl; have hcz33_3 : w31.cell? ⟨gb160, 3, none⟩ = some (.int .i64 a0_3) := (blk_cell BK160.out 3).trans rfl; have hcz33_4 : w31.cell? ⟨gb160, 4, none⟩ = some (.slice A0_4 l0_4.length c0_4) := (blk_cell BK160.out 4).trans rfl; have hcz33_5 : w31.cell? ⟨gb160, 5, none⟩ = some (.int .u64 a0_5) := (blk_cell BK160.out 5).trans rfl; have hcz33_6 : w31.cell? ⟨gb160, 6, none⟩ = some (.int .u64 a0_6) := (blk_cell BK160.out 6).trans rfl; have hfz33_0 := blk_frozen BK160.out 0; have hfz33_1 := blk_frozen BK160.out 1; have hfz33_2 := blk_frozen BK160.out 2; have hfz33_3 := blk_frozen BK160.out 3; have hfz33_4 := blk_frozen BK160.out 4; have hfz33_5 := blk_frozen BK160.out 5; have hfz33_6 := blk_frozen BK160.out 6; have hcz34_0 : w31.cell? ⟨gb161, 0, none⟩ = some (.string a1_0) := (blk_cell BK161.out 0).trans rfl; have hcz34_1 : w31.cell? ⟨gb161, 1, none⟩ = some (.string a1_1) := (blk_cell BK161.out 1).trans rfl; have hcz34_2 : w31.cell? ⟨gb161, 2, none⟩ = some (.string a1_2) := (blk_cell BK161.out 2).trans rfl; have hcz34_3 : w31.cell? ⟨gb161, 3, none⟩ = some (.int .i64 a1_3) := (blk_cell BK161.out 3).trans rfl; have hcz34_4 : w31.cell? ⟨gb161, 4, none⟩ = some (.slice A1_4 l1_4.length c1_4) := (blk_cell BK161.out 4).trans rfl; have hcz34_5 : w31.cell? ⟨gb161, 5, none⟩ = some (.int .u64 a1_5) := (blk_cell BK161.out 5).trans rfl; have hcz34_6 : w31.cell? ⟨gb161, 6, none⟩ = some (.int .u64 a1_6) := (blk_cell BK161.out 6).trans rfl; have hfz34_0 := blk_frozen BK161.out 0; have hfz34_1 := blk_frozen BK161.out 1; have hfz34_2 := blk_frozen BK161.out 2; have hfz34_3 := blk_frozen BK161.out 3; have hfz34_4 := blk_frozen BK161.out 4; have hfz34_5 := blk_frozen BK161.out 5; have hfz34_6 := blk_frozen BK161.out 6))
        go_ret
        exact ⟨by first | rfl | (simp [errW_none, errW_some] <;> rfl) | (simp [*, errW_none, errW_some] <;> rfl), by repeat (first | (with_reducible first | exact HB.out | apply below_alloc | apply pw_below_drewN | apply below_drew1 | refine below_set ?_ GE160.out | refine below_set ?_ GE161.out) | exact HB.out)⟩
    · rw [if_neg c4] at H
      have c4b0 : (a0_1.toList == a1_1.toList) = false := beq_eq_false_iff_ne.mpr c4
      have c4b1 : (a0_1.toList != a1_1.toList) = true := bne_iff_ne.mpr c4
      obtain rfl := Option.some.inj H
      go_enter Tryd.func21, Tryd.ntmps21
      go_wp2_with (first | ((with_reducible refine gate_dst (N := 2) rfl ?_); refine box_event ?hg (N := 2) ?hd (cs := #[.string a0_0, .string a0_1, .string a0_2, .int .i64 a0_3, .slice A0_4 l0_4.length c0_4, .int .u64 a0_5, .int .u64 a0_6]) (t := 39) ?hr ?_; (case hd => rfl); (case hg => rfl); (case hr => first | (go_simp; done) | (go_simp; rfl)); intro gb160 hg w35 hbox hb; have n0_ := Aside0.mk (below_step (by repeat (first | (with_reducible first | exact HB.out | apply below_alloc | apply pw_below_drewN | apply below_drew1) | exact HB.out)) hb); have n1_ := Aside0.mk (hbox); have n2_ := Aside0.mk ((by rw [hg]; exact (below_size (by repeat (first | (with_reducible first | exact HB.out | apply below_alloc | apply pw_below_drewN | apply below_drew1) | exact HB.out))) : w.heap.size ≤ gb160)); have n3_ := Aside0.mk ((by rw [hg]; exact (below_size (by repeat (first | (with_reducible first | exact HB.out | apply below_alloc | apply pw_below_drewN | apply below_drew1) | exact HB.out))) : w.heap.size ≤ gb160)); clear HB; have HB := n0_; have BK160 := n1_; have GW160 := n2_; have GE160 := n3_; clear n0_ n1_ n2_ n3_; clear hb hbox hg) | ((with_reducible refine gate_dst (N := 3) rfl ?_); refine box_event ?hg (N := 3) ?hd (cs := #[.string a1_0, .string a1_1, .string a1_2, .int .i64 a1_3, .slice A1_4 l1_4.length c1_4, .int .u64 a1_5, .int .u64 a1_6]) (t := 39) ?hr ?_; (case hd => rfl); (case hg => rfl); (case hr => first | (go_simp; done) | (go_simp; rfl)); intro gb161 hg w36 hbox hb; have n0_ := Aside0.mk (blk_below (g := gb160) (o := .cells #[.string a0_0, .string a0_1, .string a0_2, .int .i64 a0_3, .slice A0_4 l0_4.length c0_4, .int .u64 a0_5, .int .u64 a0_6] 39 (0, 0)) (by (with_reducible repeat (first | refine blk_drewN ?_ _ | refine blk_drew ?_ | refine blk_alloc ?_ _)); exact BK160.out) hb); have n1_ := Aside0.mk (below_step (by repeat (first | (with_reducible first | exact HB.out | apply below_alloc | apply pw_below_drewN | apply below_drew1 | refine below_set ?_ GE160.out) | exact HB.out)) hb); have n2_ := Aside0.mk (hbox); have n3_ := Aside0.mk ((by rw [hg]; exact (below_size (by repeat (first | (with_reducible first | exact HB.out | apply below_alloc | apply pw_below_drewN | apply below_drew1 | refine below_set ?_ GE160.out) | exact HB.out))) : w.heap.size ≤ gb161)); have n4_ := Aside0.mk ((by rw [hg]; exact (below_size (by repeat (first | (with_reducible first | exact HB.out | apply below_alloc | apply pw_below_drewN | apply below_drew1 | refine below_set ?_ GE160.out) | exact HB.out))) : w.heap.size ≤ gb161)); have n5_ := Aside0.mk ((by rw [hg]; exact Nat.ne_of_lt (blk_lt (g := gb160) (o := .cells #[.string a0_0, .string a0_1, .string a0_2, .int .i64 a0_3, .slice A0_4 l0_4.length c0_4, .int .u64 a0_5, .int .u64 a0_6] 39 (0, 0)) (by (with_reducible repeat (first | refine blk_drewN ?_ _ | refine blk_drew ?_ | refine blk_alloc ?_ _)); exact BK160.out)) : gb160 ≠ gb161)); have n6_ := Aside0.mk ((by rw [hg]; exact Nat.ne_of_gt (blk_lt (g := gb160) (o := .cells #[.string a0_0, .string a0_1, .string a0_2, .int .i64 a0_3, .slice A0_4 l0_4.length c0_4, .int .u64 a0_5, .int .u64 a0_6] 39 (0, 0)) (by (with_reducible repeat (first | refine blk_drewN ?_ _ | refine blk_drew ?_ | refine blk_alloc ?_ _)); exact BK160.out)) : gb161 ≠ gb160)); clear BK160; clear HB; have BK160 := n0_; have HB := n1_; have BK161 := n2_; have GW161 := n3_; have GE161 := n4_; have NB160_161 := n5_; have NB161_160 := n6_; clear n0_ n1_ n2_ n3_ n4_ n5_ n6_; clear hb hbox hg; have hnb37 := NB160_161.out; have hnc37 := NB161_160.out; have hcz38_0 : w36.cell? ⟨gb160, 0, none⟩ = some (.string a0_0) := (blk_cell BK160.out 0).trans rfl; have hcz38_1 : w36.cell? ⟨gb160, 1, none⟩ = some (.string a0_1) := (blk_cell BK160.out 1).trans rfl; have hcz38_2 : w36.cell? ⟨gb160, 2, none⟩ = some (.string a0_2) := (blk_cell BK160.out 2).trans rfl; have hcz38_3 : w36.cell? ⟨gb160, 3, none⟩ = some (.int .i64 a0_3) := (blk_cell BK160.out 3).trans rfl; have hcz38_4 : w36.cell? ⟨gb160, 4, none⟩ = some (.slice A0_4 l0_4.length c0_4) := (blk_cell BK160.out 4).trans rfl; have hcz38_5 : w36.cell? ⟨gb160, 5, none⟩ = some (.int .u64 a0_5) := (blk_cell BK160.out 5).trans rfl; have hcz38_6 : w36.cell? ⟨gb160, 6, none⟩ = some (.int .u64 a0_6) := (blk_cell BK160.out 6).trans rfl; have hfz38_0 := blk_frozen BK160.out 0; have hfz38_1 := blk_frozen BK160.out 1; have hfz38_2 := blk_frozen BK160.out 2; have hfz38_3 := blk_frozen BK160.out 3; have hfz38_4 := blk_frozen BK160.out 4; have hfz38_5 := blk_frozen BK160.out 5; have hfz38_6 := blk_frozen BK160.out 6; have hcz39_0 : w36.cell? ⟨gb161, 0, none⟩ = some (.string a1_0) := (blk_cell BK161.out 0).trans rfl; have hcz39_1 : w36.cell? ⟨gb161, 1, none⟩ = some (.string a1_1) := (blk_cell BK161.out 1).trans rfl; have hcz39_2 : w36.cell? ⟨gb161, 2, none⟩ = some (.string a1_2) := (blk_cell BK161.out 2).trans rfl; have hcz39_3 : w36.cell? ⟨gb161, 3, none⟩ = some (.int .i64 a1_3) := (blk_cell BK161.out 3).trans rfl; have hcz39_4 : w36.cell? ⟨gb161, 4, none⟩ = some (.slice A1_4 l1_4.length c1_4) := (blk_cell BK161.out 4).trans rfl; have hcz39_5 : w36.cell? ⟨gb161, 5, none⟩ = some (.int .u64 a1_5) := (blk_cell BK161.out 5).trans rfl; have hcz39_6 : w36.cell? ⟨gb161, 6, none⟩ = some (.int .u64 a1_6) := (blk_cell BK161.out 6).trans rfl; have hfz39_0 := blk_frozen BK161.out 0; have hfz39_1 := blk_frozen BK161.out 1; have hfz39_2 := blk_frozen BK161.out 2; have hfz39_3 := blk_frozen BK161.out 3; have hfz39_4 := blk_frozen BK161.out 4; have hfz39_5 := blk_frozen BK161.out 5; have hfz39_6 := blk_frozen BK161.out 6))
      go_ret
      exact ⟨by first | rfl | (simp [errW_none, errW_some] <;> rfl) | (simp [*, errW_none, errW_some] <;> rfl), by repeat (first | (with_reducible first | exact HB.out | apply below_alloc | apply pw_below_drewN | apply below_drew1 | refine below_set ?_ GE160.out | refine below_set ?_ GE161.out) | exact HB.out)⟩
  · rw [if_neg c3] at H
    have c3b0 : (a0_0.toList == a1_0.toList) = false := beq_eq_false_iff_ne.mpr c3
    have c3b1 : (a0_0.toList != a1_0.toList) = true := bne_iff_ne.mpr c3
    obtain rfl := Option.some.inj H
    go_enter Tryd.func21, Tryd.ntmps21
    go_wp2_with (first | ((with_reducible refine gate_dst (N := 2) rfl ?_); refine box_event ?hg (N := 2) ?hd (cs := #[.string a0_0, .string a0_1, .string a0_2, .int .i64 a0_3, .slice A0_4 l0_4.length c0_4, .int .u64 a0_5, .int .u64 a0_6]) (t := 39) ?hr ?_; (case hd => rfl); (case hg => rfl); (case hr => first | (go_simp; done) | (go_simp; rfl)); intro gb160 hg w40 hbox hb; have n0_ := Aside0.mk (below_step (by repeat (first | (with_reducible first | exact HB.out | apply below_alloc | apply pw_below_drewN | apply below_drew1) | exact HB.out)) hb); have n1_ := Aside0.mk (hbox); have n2_ := Aside0.mk ((by rw [hg]; exact (below_size (by repeat (first | (with_reducible first | exact HB.out | apply below_alloc | apply pw_below_drewN | apply below_drew1) | exact HB.out))) : w.heap.size ≤ gb160)); have n3_ := Aside0.mk ((by rw [hg]; exact (below_size (by repeat (first | (with_reducible first | exact HB.out | apply below_alloc | apply pw_below_drewN | apply below_drew1) | exact HB.out))) : w.heap.size ≤ gb160)); clear HB; have HB := n0_; have BK160 := n1_; have GW160 := n2_; have GE160 := n3_; clear n0_ n1_ n2_ n3_; clear hb hbox hg) | ((with_reducible refine gate_dst (N := 3) rfl ?_); refine box_event ?hg (N := 3) ?hd (cs := #[.string a1_0, .string a1_1, .string a1_2, .int .i64 a1_3, .slice A1_4 l1_4.length c1_4, .int .u64 a1_5, .int .u64 a1_6]) (t := 39) ?hr ?_; (case hd => rfl); (case hg => rfl); (case hr => first | (go_simp; done) | (go_simp; rfl)); intro gb161 hg w41 hbox hb; have n0_ := Aside0.mk (blk_below (g := gb160) (o := .cells #[.string a0_0, .string a0_1, .string a0_2, .int .i64 a0_3, .slice A0_4 l0_4.length c0_4, .int .u64 a0_5, .int .u64 a0_6] 39 (0, 0)) (by (with_reducible repeat (first | refine blk_drewN ?_ _ | refine blk_drew ?_ | refine blk_alloc ?_ _)); exact BK160.out) hb); have n1_ := Aside0.mk (below_step (by repeat (first | (with_reducible first | exact HB.out | apply below_alloc | apply pw_below_drewN | apply below_drew1 | refine below_set ?_ GE160.out) | exact HB.out)) hb); have n2_ := Aside0.mk (hbox); have n3_ := Aside0.mk ((by rw [hg]; exact (below_size (by repeat (first | (with_reducible first | exact HB.out | apply below_alloc | apply pw_below_drewN | apply below_drew1 | refine below_set ?_ GE160.out) | exact HB.out))) : w.heap.size ≤ gb161)); have n4_ := Aside0.mk ((by rw [hg]; exact (below_size (by repeat (first | (with_reducible first | exact HB.out | apply below_alloc | apply pw_below_drewN | apply below_drew1 | refine below_set ?_ GE160.out) | exact HB.out))) : w.heap.size ≤ gb161)); have n5_ := Aside0.mk ((by rw [hg]; exact Nat.ne_of_lt (blk_lt (g := gb160) (o := .cells #[.string a0_0, .string a0_1, .string a0_2, .int .i64 a0_3, .slice A0_4 l0_4.length c0_4, .int .u64 a0_5, .int .u64 a0_6] 39 (0, 0)) (by (with_reducible repeat (first | refine blk_drewN ?_ _ | refine blk_drew ?_ | refine blk_alloc ?_ _)); exact BK160.out)) : gb160 ≠ gb161)); have n6_ := Aside0.mk ((by rw [hg]; exact Nat.ne_of_gt (blk_lt (g := gb160) (o := .cells #[.string a0_0, .string a0_1, .string a0_2, .int .i64 a0_3, .slice A0_4 l0_4.length c0_4, .int .u64 a0_5, .int .u64 a0_6] 39 (0, 0)) (by (with_reducible repeat (first | refine blk_drewN ?_ _ | refine blk_drew ?_ | refine blk_alloc ?_ _)); exact BK160.out)) : gb161 ≠ gb160)); clear BK160; clear HB; have BK160 := n0_; have HB := n1_; have BK161 := n2_; have GW161 := n3_; have GE161 := n4_; have NB160_161 := n5_; have NB161_160 := n6_; clear n0_ n1_ n2_ n3_ n4_ n5_ n6_; clear hb hbox hg; have hnb42 := NB160_161.out; have hnc42 := NB161_160.out; have hcz43_0 : w41.cell? ⟨gb160, 0, none⟩ = some (.string a0_0) := (blk_cell BK160.out 0).trans rfl; have hcz43_1 : w41.cell? ⟨gb160, 1, none⟩ = some (.string a0_1) := (blk_cell BK160.out 1).trans rfl; have hcz43_2 : w41.cell? ⟨gb160, 2, none⟩ = some (.string a0_2) := (blk_cell BK160.out 2).trans rfl; have hcz43_3 : w41.cell? ⟨gb160, 3, none⟩ = some (.int .i64 a0_3) := (blk_cell BK160.out 3).trans rfl; have hcz43_4 : w41.cell? ⟨gb160, 4, none⟩ = some (.slice A0_4 l0_4.length c0_4) := (blk_cell BK160.out 4).trans rfl; have hcz43_5 : w41.cell? ⟨gb160, 5, none⟩ = some (.int .u64 a0_5) := (blk_cell BK160.out 5).trans rfl; have hcz43_6 : w41.cell? ⟨gb160, 6, none⟩ = some (.int .u64 a0_6) := (blk_cell BK160.out 6).trans rfl; have hfz43_0 := blk_frozen BK160.out 0; have hfz43_1 := blk_frozen BK160.out 1; have hfz43_2 := blk_frozen BK160.out 2; have hfz43_3 := blk_frozen BK160.out 3; have hfz43_4 := blk_frozen BK160.out 4; have hfz43_5 := blk_frozen BK160.out 5; have hfz43_6 := blk_frozen BK160.out 6; have hcz44_0 : w41.cell? ⟨gb161, 0, none⟩ = some (.string a1_0) := (blk_cell BK161.out 0).trans rfl; have hcz44_1 : w41.cell? ⟨gb161, 1, none⟩ = some (.string a1_1) := (blk_cell BK161.out 1).trans rfl; have hcz44_2 : w41.cell? ⟨gb161, 2, none⟩ = some (.string a1_2) := (blk_cell BK161.out 2).trans rfl; have hcz44_3 : w41.cell? ⟨gb161, 3, none⟩ = some (.int .i64 a1_3) := (blk_cell BK161.out 3).trans rfl; have hcz44_4 : w41.cell? ⟨gb161, 4, none⟩ = some (.slice A1_4 l1_4.length c1_4) := (blk_cell BK161.out 4).trans rfl; have hcz44_5 : w41.cell? ⟨gb161, 5, none⟩ = some (.int .u64 a1_5) := (blk_cell BK161.out 5).trans rfl; have hcz44_6 : w41.cell? ⟨gb161, 6, none⟩ = some (.int .u64 a1_6) := (blk_cell BK161.out 6).trans rfl; have hfz44_0 := blk_frozen BK161.out 0; have hfz44_1 := blk_frozen BK161.out 1; have hfz44_2 := blk_frozen BK161.out 2; have hfz44_3 := blk_frozen BK161.out 3; have hfz44_4 := blk_frozen BK161.out 4; have hfz44_5 := blk_frozen BK161.out 5; have hfz44_6 := blk_frozen BK161.out 6))
    go_ret
    exact ⟨by first | rfl | (simp [errW_none, errW_some] <;> rfl) | (simp [*, errW_none, errW_some] <;> rfl), by repeat (first | (with_reducible first | exact HB.out | apply below_alloc | apply pw_below_drewN | apply below_drew1 | refine below_set ?_ GE160.out | refine below_set ?_ GE161.out) | exact HB.out)⟩

/-! ### musterref09_FixNode: function 28 -/
def musterref09_FixNode.f (k : Nat) (a0_0 : ByteArray) (a0_1 : ByteArray) (a0_2 : Int) (a0_3 : Int) : Option (ByteArray × ByteArray × Int × Int × Int) := (musterref09_Label.f k a0_0).bind fun bt165 => (if bt165.2 = 0 then ((musterref09_Addr.f k a0_1).bind fun bt167 => (if bt167.2.2.2.2 = 0 then (some (bt165.1, a0_1, 0, 0, 0)) else (some ((⟨#[]⟩ : ByteArray), (⟨#[]⟩ : ByteArray), 0, 0, bt167.2.2.2.2)))) else (some ((⟨#[]⟩ : ByteArray), (⟨#[]⟩ : ByteArray), 0, 0, bt165.2)))
theorem musterref09_FixNode.mono : ∀ a0 a1 a2 a3 k, LeO (musterref09_FixNode.f k a0 a1 a2 a3) (musterref09_FixNode.f (k + 1) a0 a1 a2 a3) := by
  intro a0 a1 a2 a3 k
  unfold musterref09_FixNode.f
  repeat' first
      | (with_reducible exact musterref09_Addr.mono _ _)
      | (with_reducible exact musterref09_Label.mono _ _)
      | (with_reducible exact LeO.refl _)
      | (with_reducible exact LeO.none _)
      | (with_reducible refine LeO.ite ?_ ?_)
      | (with_reducible refine LeO.bind ?_ (fun _ => ?_))
      | exact musterref09_Addr.mono _ _
      | exact musterref09_Label.mono _ _
      | exact LeO.none _
      | refine LeO.ite ?_ ?_
      | refine LeO.bind ?_ (fun _ => ?_)
set_option maxHeartbeats 8000000 in
set_option maxRecDepth 100000 in
theorem musterref09_FixNode.calls (k : Nat) (a0_0 : ByteArray) (a0_1 : ByteArray) (a0_2 : Int) (a0_3 : Int) (r1 : ByteArray) (r2 : ByteArray) (r3 : Int) (r4 : Int) (r5 : Int) (w : World) (h : musterref09_FixNode.f k a0_0 a0_1 a0_2 a0_3 = some (r1, r2, r3, r4, r5)) :
    Calls Tryd.prog 28 #[.agg #[.string a0_0, .string a0_1, .int .u64 a0_2, .int .u64 a0_3]] w fun e w' => e = .returned (.tuple #[.agg #[.string r1, .string r2, .int .u64 r3, .int .u64 r4], .int .i64 r5]) ∧ Below w.heap.size w w' := by
  have hu36 := Tryd.underlying36
  have HB := Aside0.mk (Below.refl w.heap.size w)
  have H : ((musterref09_Label.f k a0_0).bind fun bt165 => (if bt165.2 = 0 then ((musterref09_Addr.f k a0_1).bind fun bt167 => (if bt167.2.2.2.2 = 0 then (some (bt165.1, a0_1, 0, 0, 0)) else (some ((⟨#[]⟩ : ByteArray), (⟨#[]⟩ : ByteArray), 0, 0, bt167.2.2.2.2)))) else (some ((⟨#[]⟩ : ByteArray), (⟨#[]⟩ : ByteArray), 0, 0, bt165.2)))) = some (r1, r2, r3, r4, r5) := h
  clear h
  replace H := Option.bind_eq_some_iff.mp H
  obtain ⟨⟨t165, t166⟩, A20, H⟩ := H
  replace H : (if t166 = 0 then ((musterref09_Addr.f k a0_1).bind fun bt167 => (if bt167.2.2.2.2 = 0 then (some (t165, a0_1, 0, 0, 0)) else (some ((⟨#[]⟩ : ByteArray), (⟨#[]⟩ : ByteArray), 0, 0, bt167.2.2.2.2)))) else (some ((⟨#[]⟩ : ByteArray), (⟨#[]⟩ : ByteArray), 0, 0, t166))) = some (r1, r2, r3, r4, r5) := H
  have A2 := Aside0.mk A20
  clear A20
  by_cases c3 : t166 = 0
  · rw [if_pos c3] at H
    have c3b0 : (t166 == 0) = true := beq_iff_eq.mpr c3
    have c3b1 : (t166 != 0) = false := bne_eq_false_iff_eq.mpr c3
    clear c3
    replace H := Option.bind_eq_some_iff.mp H
    obtain ⟨⟨t167, t168, t169, t170, t171⟩, A40, H⟩ := H
    replace H : (if t171 = 0 then (some (t165, a0_1, 0, 0, 0)) else (some ((⟨#[]⟩ : ByteArray), (⟨#[]⟩ : ByteArray), 0, 0, t171))) = some (r1, r2, r3, r4, r5) := H
    have A4 := Aside0.mk A40
    clear A40
    by_cases c5 : t171 = 0
    · rw [if_pos c5] at H
      have c5b0 : (t171 == 0) = true := beq_iff_eq.mpr c5
      have c5b1 : (t171 != 0) = false := bne_eq_false_iff_eq.mpr c5
      clear c5
      simp only [Option.some.injEq, Prod.mk.injEq] at H
      obtain ⟨rfl, rfl, rfl, rfl, rfl⟩ := H
      go_enter Tryd.func28, Tryd.ntmps28
      go_wp2_with (first | ((with_reducible refine gate_dst (N := 1) rfl ?_); refine box_event ?hg (N := 1) ?hd (cs := #[.string a0_0, .string a0_1, .int .u64 a0_2, .int .u64 a0_3]) (t := 36) ?hr ?_; (case hd => rfl); (case hg => rfl); (case hr => first | (go_simp; done) | (go_simp; rfl)); intro gb163 hg w6 hbox hb; have n0_ := Aside0.mk (below_step (by repeat (first | (with_reducible first | exact HB.out | apply below_alloc | apply pw_below_drewN | apply below_drew1) | exact HB.out)) hb); have n1_ := Aside0.mk (hbox); have n2_ := Aside0.mk ((by rw [hg]; exact (below_size (by repeat (first | (with_reducible first | exact HB.out | apply below_alloc | apply pw_below_drewN | apply below_drew1) | exact HB.out))) : w.heap.size ≤ gb163)); have n3_ := Aside0.mk ((by rw [hg]; exact (below_size (by repeat (first | (with_reducible first | exact HB.out | apply below_alloc | apply pw_below_drewN | apply below_drew1) | exact HB.out))) : w.heap.size ≤ gb163)); clear HB; have HB := n0_; have BK163 := n1_; have GW163 := n2_; have GE163 := n3_; clear n0_ n1_ n2_ n3_; clear hb hbox hg) | ((with_reducible refine gate_dst (N := 2) rfl ?_); refine box_event ?hg (N := 2) ?hd (cs := #[.string (⟨#[]⟩ : ByteArray), .string (⟨#[]⟩ : ByteArray), .int .u64 0, .int .u64 0]) (t := 36) ?hr ?_; (case hd => rfl); (case hg => rfl); (case hr => first | (go_simp; done) | (go_simp; rfl)); intro gb164 hg w7 hbox hb; have n0_ := Aside0.mk (blk_below (g := gb163) (o := .cells #[.string a0_0, .string a0_1, .int .u64 a0_2, .int .u64 a0_3] 36 (0, 0)) (by (with_reducible repeat (first | refine blk_drewN ?_ _ | refine blk_drew ?_ | refine blk_alloc ?_ _)); exact BK163.out) hb); have n1_ := Aside0.mk (below_step (by repeat (first | (with_reducible first | exact HB.out | apply below_alloc | apply pw_below_drewN | apply below_drew1 | refine below_set ?_ GE163.out) | exact HB.out)) hb); have n2_ := Aside0.mk (hbox); have n3_ := Aside0.mk ((by rw [hg]; exact (below_size (by repeat (first | (with_reducible first | exact HB.out | apply below_alloc | apply pw_below_drewN | apply below_drew1 | refine below_set ?_ GE163.out) | exact HB.out))) : w.heap.size ≤ gb164)); have n4_ := Aside0.mk ((by rw [hg]; exact (below_size (by repeat (first | (with_reducible first | exact HB.out | apply below_alloc | apply pw_below_drewN | apply below_drew1 | refine below_set ?_ GE163.out) | exact HB.out))) : w.heap.size ≤ gb164)); have n5_ := Aside0.mk ((by rw [hg]; exact Nat.ne_of_lt (blk_lt (g := gb163) (o := .cells #[.string a0_0, .string a0_1, .int .u64 a0_2, .int .u64 a0_3] 36 (0, 0)) (by (with_reducible repeat (first | refine blk_drewN ?_ _ | refine blk_drew ?_ | refine blk_alloc ?_ _)); exact BK163.out)) : gb163 ≠ gb164)); have n6_ := Aside0.mk ((by rw [hg]; exact Nat.ne_of_gt (blk_lt (g := gb163) (o := .cells #[.string a0_0, .string a0_1, .int .u64 a0_2, .int .u64 a0_3] 36 (0, 0)) (by (with_reducible repeat (first | refine blk_drewN ?_ _ | refine blk_drew ?_ | refine blk_alloc ?_ _)); exact BK163.out)) : gb164 ≠ gb163)); clear BK163; clear HB; have BK163 := n0_; have HB := n1_; have BK164 := n2_; have GW164 := n3_; have GE164 := n4_; have NB163_164 := n5_; have NB164_163 := n6_; clear n0_ n1_ n2_ n3_ n4_ n5_ n6_; clear hb hbox hg; have hnb8 := NB163_164.out; have hnc8 := NB164_163.out; have hcz9_0 : w7.cell? ⟨gb163, 0, none⟩ = some (.string a0_0) := (blk_cell BK163.out 0).trans rfl; have hcz9_1 : w7.cell? ⟨gb163, 1, none⟩ = some (.string a0_1) := (blk_cell BK163.out 1).trans rfl; have hcz9_2 : w7.cell? ⟨gb163, 2, none⟩ = some (.int .u64 a0_2) := (blk_cell BK163.out 2).trans rfl; have hcz9_3 : w7.cell? ⟨gb163, 3, none⟩ = some (.int .u64 a0_3) := (blk_cell BK163.out 3).trans rfl; have hfz9_0 := blk_frozen BK163.out 0; have hfz9_1 := blk_frozen BK163.out 1; have hfz9_2 := blk_frozen BK163.out 2; have hfz9_3 := blk_frozen BK163.out 3) | ((with_reducible refine gate_callee (f := 11) rfl ?_); refine goesL_ (some 9) rfl rfl Tryd.func11 (by kernel_rfl) rfl #[.string a0_0] rfl (by (try simp only [List.map_toArray, List.map_cons, List.map_nil]); first | done | rfl | (simp only [List.length_drop, List.length_take]; rfl)) ?_; (with_reducible refine (musterref09_Label.calls k a0_0 t165 t166 _ A2.out).mono ?_); rintro e w10 ⟨rfl, hb⟩; refine ⟨_, rfl, ?_⟩; have n0_ := Aside0.mk (blk_below (g := gb163) (o := .cells #[.string a0_0, .string a0_1, .int .u64 a0_2, .int .u64 a0_3] 36 (0, 0)) (by (with_reducible repeat (first | refine blk_drewN ?_ _ | refine blk_drew ?_ | refine blk_alloc ?_ _)); exact BK163.out) hb); have n1_ := Aside0.mk (blk_below (g := gb164) (o := .cells #[.string (⟨#[]⟩ : ByteArray), .string (⟨#[]⟩ : ByteArray), .int .u64 0, .int .u64 0] 36 (0, 0)) (by (with_reducible repeat (first | refine blk_drewN ?_ _ | refine blk_drew ?_ | refine blk_alloc ?_ _)); exact BK164.out) hb); have n2_ := Aside0.mk (below_step (by repeat (first | (with_reducible first | exact HB.out | apply below_alloc | apply pw_below_drewN | apply below_drew1 | refine below_set ?_ GE163.out | refine below_set ?_ GE164.out) | exact HB.out)) hb); clear BK163; clear BK164; clear HB; have BK163 := n0_; have BK164 := n1_; have HB := n2_; clear n0_ n1_ n2_; (try clear hb); (try clear hb2); (try clear hk); (try clear hi); have hcz11_0 : w10.cell? ⟨gb163, 0, none⟩ = some (.string a0_0) := (blk_cell BK163.out 0).trans rfl; have hcz11_1 : w10.cell? ⟨gb163, 1, none⟩ = some (.string a0_1) := (blk_cell BK163.out 1).trans rfl; have hcz11_2 : w10.cell? ⟨gb163, 2, none⟩ = some (.int .u64 a0_2) := (blk_cell BK163.out 2).trans rfl; have hcz11_3 : w10.cell? ⟨gb163, 3, none⟩ = some (.int .u64 a0_3) := (blk_cell BK163.out 3).trans rfl; have hfz11_0 := blk_frozen BK163.out 0; have hfz11_1 := blk_frozen BK163.out 1; have hfz11_2 := blk_frozen BK163.out 2; have hfz11_3 := blk_frozen BK163.out 3) | ((with_reducible refine gate_callee (f := 13) rfl ?_); refine goesL_ (some 19) rfl rfl Tryd.func13 (by kernel_rfl) rfl #[.string a0_1] rfl (by (try simp only [List.map_toArray, List.map_cons, List.map_nil]); first | done | rfl | (simp only [List.length_drop, List.length_take]; rfl)) ?_; (with_reducible refine (musterref09_Addr.calls k a0_1 t167 t168 t169 t170 t171 _ A4.out).mono ?_); rintro e w12 ⟨rfl, hb⟩; refine ⟨_, rfl, ?_⟩; have n0_ := Aside0.mk (blk_below (g := gb163) (o := .cells #[.string a0_0, .string a0_1, .int .u64 a0_2, .int .u64 a0_3] 36 (0, 0)) (by (with_reducible repeat (first | refine blk_drewN ?_ _ | refine blk_drew ?_ | refine blk_alloc ?_ _)); exact BK163.out) hb); have n1_ := Aside0.mk (blk_below (g := gb164) (o := .cells #[.string (⟨#[]⟩ : ByteArray), .string (⟨#[]⟩ : ByteArray), .int .u64 0, .int .u64 0] 36 (0, 0)) (by (with_reducible repeat (first | refine blk_drewN ?_ _ | refine blk_drew ?_ | refine blk_alloc ?_ _)); exact BK164.out) hb); have n2_ := Aside0.mk (below_step (by repeat (first | (with_reducible first | exact HB.out | apply below_alloc | apply pw_below_drewN | apply below_drew1 | refine below_set ?_ GE163.out | refine below_set ?_ GE164.out) | exact HB.out)) hb); clear BK163; clear BK164; clear HB; have BK163 := n0_; have BK164 := n1_; have HB := n2_; clear n0_ n1_ n2_; (try clear hb); (try clear hb2); (try clear hk); (try clear hi); have hcz13_0 : w12.cell? ⟨gb163, 0, none⟩ = some (.string a0_0) := (blk_cell BK163.out 0).trans rfl; have hcz13_1 : w12.cell? ⟨gb163, 1, none⟩ = some (.string a0_1) := (blk_cell BK163.out 1).trans rfl; have hcz13_2 : w12.cell? ⟨gb163, 2, none⟩ = some (.int .u64 a0_2) := (blk_cell BK163.out 2).trans rfl; have hcz13_3 : w12.cell? ⟨gb163, 3, none⟩ = some (.int .u64 a0_3) := (blk_cell BK163.out 3).trans rfl; have hfz13_0 := blk_frozen BK163.out 0; have hfz13_1 := blk_frozen BK163.out 1; have hfz13_2 := blk_frozen BK163.out 2; have hfz13_3 := blk_frozen BK163.out 3; have hcz14_0 : w12.cell? ⟨gb164, 0, none⟩ = some (.string (⟨#[]⟩ : ByteArray)) := (blk_cell BK164.out 0).trans rfl; have hcz14_1 : w12.cell? ⟨gb164, 1, none⟩ = some (.string (⟨#[]⟩ : ByteArray)) := (blk_cell BK164.out 1).trans rfl; have hcz14_2 : w12.cell? ⟨gb164, 2, none⟩ = some (.int .u64 0) := (blk_cell BK164.out 2).trans rfl; have hcz14_3 : w12.cell? ⟨gb164, 3, none⟩ = some (.int .u64 0) := (blk_cell BK164.out 3).trans rfl; have hfz14_0 := blk_frozen BK164.out 0; have hfz14_1 := blk_frozen BK164.out 1; have hfz14_2 := blk_frozen BK164.out 2; have hfz14_3 := blk_frozen BK164.out 3))
      refine bodyPost_ret (results_ct rfl _ _ gb164 36 #[.string t165, .string a0_1, .int .u64 0, .int .u64 0] (0, 0) _ rfl (by (with_reducible repeat (first | refine blk_drewN ?_ _ | refine blk_drew ?_ | refine blk_alloc ?_ _)); refine blk_put (cs := #[.string t165, .string a0_1, .int .u64 0, .int .u64 0]) ?_ 3 _ rfl; (with_reducible repeat (first | refine blk_drewN ?_ _ | refine blk_drew ?_ | refine blk_alloc ?_ _)); refine blk_put (cs := #[.string t165, .string a0_1, .int .u64 0, .int .u64 0]) ?_ 2 _ rfl; (with_reducible repeat (first | refine blk_drewN ?_ _ | refine blk_drew ?_ | refine blk_alloc ?_ _)); refine blk_put (cs := #[.string t165, .string (⟨#[]⟩ : ByteArray), .int .u64 0, .int .u64 0]) ?_ 1 _ rfl; (with_reducible repeat (first | refine blk_drewN ?_ _ | refine blk_drew ?_ | refine blk_alloc ?_ _)); refine blk_put (cs := #[.string (⟨#[]⟩ : ByteArray), .string (⟨#[]⟩ : ByteArray), .int .u64 0, .int .u64 0]) ?_ 0 _ rfl; (with_reducible repeat (first | refine blk_drewN ?_ _ | refine blk_drew ?_ | refine blk_alloc ?_ _)); exact BK164.out) Tryd.underlying36 rfl (by kernel_rfl)) rfl ?_
      exact ⟨by first | rfl | (simp [errW_none, errW_some] <;> rfl) | (simp [*, errW_none, errW_some] <;> rfl), by repeat (first | (with_reducible first | exact HB.out | apply below_alloc | apply pw_below_drewN | apply below_drew1 | refine below_set ?_ GE163.out | refine below_set ?_ GE164.out) | exact HB.out)⟩
    · rw [if_neg c5] at H
      have c5b0 : (t171 == 0) = false := beq_eq_false_iff_ne.mpr c5
      have c5b1 : (t171 != 0) = true := bne_iff_ne.mpr c5
      simp only [Option.some.injEq, Prod.mk.injEq] at H
      obtain ⟨rfl, rfl, rfl, rfl, rfl⟩ := H
      go_enter Tryd.func28, Tryd.ntmps28
      go_wp2_with (first | ((with_reducible refine gate_dst (N := 1) rfl ?_); refine box_event ?hg (N := 1) ?hd (cs := #[.string a0_0, .string a0_1, .int .u64 a0_2, .int .u64 a0_3]) (t := 36) ?hr ?_; (case hd => rfl); (case hg => rfl); (case hr => first | (go_simp; done) | (go_simp; rfl)); intro gb163 hg w15 hbox hb; have n0_ := Aside0.mk (below_step (by repeat (first | (with_reducible first | exact HB.out | apply below_alloc | apply pw_below_drewN | apply below_drew1) | exact HB.out)) hb); have n1_ := Aside0.mk (hbox); have n2_ := Aside0.mk ((by rw [hg]; exact (below_size (by repeat (first | (with_reducible first | exact HB.out | apply below_alloc | apply pw_below_drewN | apply below_drew1) | exact HB.out))) : w.heap.size ≤ gb163)); have n3_ := Aside0.mk ((by rw [hg]; exact (below_size (by repeat (first | (with_reducible first | exact HB.out | apply below_alloc | apply pw_below_drewN | apply below_drew1) | exact HB.out))) : w.heap.size ≤ gb163)); clear HB; have HB := n0_; have BK163 := n1_; have GW163 := n2_; have GE163 := n3_; clear n0_ n1_ n2_ n3_; clear hb hbox hg) | ((with_reducible refine gate_dst (N := 2) rfl ?_); refine box_event ?hg (N := 2) ?hd (cs := #[.string (⟨#[]⟩ : ByteArray), .string (⟨#[]⟩ : ByteArray), .int .u64 0, .int .u64 0]) (t := 36) ?hr ?_; (case hd => rfl); (case hg => rfl); (case hr => first | (go_simp; done) | (go_simp; rfl)); intro gb164 hg w16 hbox hb; have n0_ := Aside0.mk (blk_below (g := gb163) (o := .cells #[.string a0_0, .string a0_1, .int .u64 a0_2, .int .u64 a0_3] 36 (0, 0)) (by (with_reducible repeat (first | refine blk_drewN ?_ _ | refine blk_drew ?_ | refine blk_alloc ?_ _)); exact BK163.out) hb); have n1_ := Aside0.mk (below_step (by repeat (first | (with_reducible first | exact HB.out | apply below_alloc | apply pw_below_drewN | apply below_drew1 | refine below_set ?_ GE163.out) | exact HB.out)) hb); have n2_ := Aside0.mk (hbox); have n3_ := Aside0.mk ((by rw [hg]; exact (below_size (by repeat (first | (with_reducible first | exact HB.out | apply below_alloc | apply pw_below_drewN | apply below_drew1 | refine below_set ?_ GE163.out) | exact HB.out))) : w.heap.size ≤ gb164)); have n4_ := Aside0.mk ((by rw [hg]; exact (below_size (by repeat (first | (with_reducible first | exact HB.out | apply below_alloc | apply pw_below_drewN | apply below_drew1 | refine below_set ?_ GE163.out) | exact HB.out))) : w.heap.size ≤ gb164)); have n5_ := Aside0.mk ((by rw [hg]; exact Nat.ne_of_lt (blk_lt (g := gb163) (o := .cells #[.string a0_0, .string a0_1, .int .u64 a0_2, .int .u64 a0_3] 36 (0, 0)) (by (with_reducible repeat (first | refine blk_drewN ?_ _ | refine blk_drew ?_ | refine blk_alloc ?_ _)); exact BK163.out)) : gb163 ≠ gb164)); have n6_ := Aside0.mk ((by rw [hg]; exact Nat.ne_of_gt (blk_lt (g := gb163) (o := .cells #[.string a0_0, .string a0_1, .int .u64 a0_2, .int .u64 a0_3] 36 (0, 0)) (by (with_reducible repeat (first | refine blk_drewN ?_ _ | refine blk_drew ?_ | refine blk_alloc ?_ _)); exact BK163.out)) : gb164 ≠ gb163)); clear BK163; clear HB; have BK163 := n0_; have HB := n1_; have BK164 := n2_; have GW164 := n3_; have GE164 := n4_; have NB163_164 := n5_; have NB164_163 := n6_; clear n0_ n1_ n2_ n3_ n4_ n5_ n6_; clear hb hbox hg; have hnb17 := NB163_164.out; have hnc17 := NB164_163.out; have hcz18_0 : w16.cell? ⟨gb163, 0, none⟩ = some (.string a0_0) := (blk_cell BK163.out 0).trans rfl; have hcz18_1 : w16.cell? ⟨gb163, 1, none⟩ = some (.string a0_1) := (blk_cell BK163.out 1).trans rfl; have hcz18_2 : w16.cell? ⟨gb163, 2, none⟩ = some (.int .u64 a0_2) := (blk_cell BK163.out 2).trans rfl; have hcz18_3 : w16.cell? ⟨gb163, 3, none⟩ = some (.int .u64 a0_3) := (blk_cell BK163.out 3).trans rfl; have hfz18_0 := blk_frozen BK163.out 0; have hfz18_1 := blk_frozen BK163.out 1; have hfz18_2 := blk_frozen BK163.out 2; have hfz18_3 := blk_frozen BK163.out 3) | ((with_reducible refine gate_callee (f := 11) rfl ?_); refine goesL_ (some 9) rfl rfl Tryd.func11 (by kernel_rfl) rfl #[.string a0_0] rfl (by (try simp only [List.map_toArray, List.map_cons, List.map_nil]); first | done | rfl | (simp only [List.length_drop, List.length_take]; rfl)) ?_; (with_reducible refine (musterref09_Label.calls k a0_0 t165 t166 _ A2.out).mono ?_); rintro e w19 ⟨rfl, hb⟩; refine ⟨_, rfl, ?_⟩; have n0_ := Aside0.mk (blk_below (g := gb163) (o := .cells #[.string a0_0, .string a0_1, .int .u64 a0_2, .int .u64 a0_3] 36 (0, 0)) (by (with_reducible repeat (first | refine blk_drewN ?_ _ | refine blk_drew ?_ | refine blk_alloc ?_ _)); exact BK163.out) hb); have n1_ := Aside0.mk (blk_below (g := gb164) (o := .cells #[.string (⟨#[]⟩ : ByteArray), .string (⟨#[]⟩ : ByteArray), .int .u64 0, .int .u64 0] 36 (0, 0)) (by (with_reducible repeat (first | refine blk_drewN ?_ _ | refine blk_drew ?_ | refine blk_alloc ?_ _)); exact BK164.out) hb); have n2_ := Aside0.mk (below_step (by repeat (first | (with_reducible first | exact HB.out | apply below_alloc | apply pw_below_drewN | apply below_drew1 | refine below_set ?_ GE163.out | refine below_set ?_ GE164.out) | exact HB.out)) hb); clear BK163; clear BK164; clear HB; have BK163 := n0_; have BK164 := n1_; have HB := n2_; clear n0_ n1_ n2_; (try clear hb); (try clear hb2); (try clear hk); (try clear hi); have hcz20_0 : w19.cell? ⟨gb163, 0, none⟩ = some (.string a0_0) := (blk_cell BK163.out 0).trans rfl; have hcz20_1 : w19.cell? ⟨gb163, 1, none⟩ = some (.string a0_1) := (blk_cell BK163.out 1).trans rfl; have hcz20_2 : w19.cell? ⟨gb163, 2, none⟩ = some (.int .u64 a0_2) := (blk_cell BK163.out 2).trans rfl; have hcz20_3 : w19.cell? ⟨gb163, 3, none⟩ = some (.int .u64 a0_3) := (blk_cell BK163.out 3).trans rfl; have hfz20_0 := blk_frozen BK163.out 0; have hfz20_1 := blk_frozen BK163.out 1; have hfz20_2 := blk_frozen BK163.out 2; have hfz20_3 := blk_frozen BK163.out 3) | ((with_reducible refine gate_callee (f := 13) rfl ?_); refine goesL_ (some 19) rfl rfl Tryd.func13 (by kernel_rfl) rfl #[.string a0_1] rfl (by (try simp only [List.map_toArray, List.map_cons, List.map_nil]); first | done | rfl | (simp only [List.length_drop, List.length_take]; rfl)) ?_; (with_reducible refine (musterref09_Addr.calls k a0_1 t167 t168 t169 t170 t171 _ A4.out).mono ?_); rintro e w21 ⟨rfl, hb⟩; refine ⟨_, rfl, ?_⟩; have n0_ := Aside0.mk (blk_below (g := gb163) (o := .cells #[.string a0_0, .string a0_1, .int .u64 a0_2, .int .u64 a0_3] 36 (0, 0)) (by (with_reducible repeat (first | refine blk_drewN ?_ _ | refine blk_drew ?_ | refine blk_alloc ?_ _)); exact BK163.out) hb); have n1_ := Aside0.mk (blk_below (g := gb164) (o := .cells #[.string (⟨#[]⟩ : ByteArray), .string (⟨#[]⟩ : ByteArray), .int .u64 0, .int .u64 0] 36 (0, 0)) (by (with_reducible repeat (first | refine blk_drewN ?_ _ | refine blk_drew ?_ | refine blk_alloc ?_ _)); exact BK164.out) hb); have n2_ := Aside0.mk (below_step (by repeat (first | (with_reducible first | exact HB.out | apply below_alloc | apply pw_below_drewN | apply below_drew1 | refine below_set ?_ GE163.out | refine below_set ?_ GE164.out) | exact HB.out)) hb); clear BK163; clear BK164; clear HB; have BK163 := n0_; have BK164 := n1_; have HB := n2_; clear n0_ n1_ n2_; (try clear hb); (try clear hb2); (try clear hk); (try clear hi); have hcz22_0 : w21.cell? ⟨gb164, 0, none⟩ = some (.string (⟨#[]⟩ : ByteArray)) := (blk_cell BK164.out 0).trans rfl; have hcz22_1 : w21.cell? ⟨gb164, 1, none⟩ = some (.string (⟨#[]⟩ : ByteArray)) := (blk_cell BK164.out 1).trans rfl; have hcz22_2 : w21.cell? ⟨gb164, 2, none⟩ = some (.int .u64 0) := (blk_cell BK164.out 2).trans rfl; have hcz22_3 : w21.cell? ⟨gb164, 3, none⟩ = some (.int .u64 0) := (blk_cell BK164.out 3).trans rfl; have hfz22_0 := blk_frozen BK164.out 0; have hfz22_1 := blk_frozen BK164.out 1; have hfz22_2 := blk_frozen BK164.out 2; have hfz22_3 := blk_frozen BK164.out 3))
      refine bodyPost_ret (results_ct rfl _ _ gb164 36 #[.string (⟨#[]⟩ : ByteArray), .string (⟨#[]⟩ : ByteArray), .int .u64 0, .int .u64 0] (0, 0) _ rfl (by (with_reducible repeat (first | refine blk_drewN ?_ _ | refine blk_drew ?_ | refine blk_alloc ?_ _)); refine blk_put (cs := #[.string (⟨#[]⟩ : ByteArray), .string (⟨#[]⟩ : ByteArray), .int .u64 0, .int .u64 0]) ?_ 3 _ rfl; (with_reducible repeat (first | refine blk_drewN ?_ _ | refine blk_drew ?_ | refine blk_alloc ?_ _)); refine blk_put (cs := #[.string (⟨#[]⟩ : ByteArray), .string (⟨#[]⟩ : ByteArray), .int .u64 0, .int .u64 0]) ?_ 2 _ rfl; (with_reducible repeat (first | refine blk_drewN ?_ _ | refine blk_drew ?_ | refine blk_alloc ?_ _)); refine blk_put (cs := #[.string (⟨#[]⟩ : ByteArray), .string (⟨#[]⟩ : ByteArray), .int .u64 0, .int .u64 0]) ?_ 1 _ rfl; (with_reducible repeat (first | refine blk_drewN ?_ _ | refine blk_drew ?_ | refine blk_alloc ?_ _)); refine blk_put (cs := #[.string (⟨#[]⟩ : ByteArray), .string (⟨#[]⟩ : ByteArray), .int .u64 0, .int .u64 0]) ?_ 0 _ rfl; (with_reducible repeat (first | refine blk_drewN ?_ _ | refine blk_drew ?_ | refine blk_alloc ?_ _)); exact BK164.out) Tryd.underlying36 rfl (by kernel_rfl)) rfl ?_
      exact ⟨by first | rfl | (simp [errW_none, errW_some] <;> rfl) | (simp [*, errW_none, errW_some] <;> rfl), by repeat (first | (with_reducible first | exact HB.out | apply below_alloc | apply pw_below_drewN | apply below_drew1 | refine below_set ?_ GE163.out | refine below_set ?_ GE164.out) | exact HB.out)⟩
  · rw [if_neg c3] at H
    have c3b0 : (t166 == 0) = false := beq_eq_false_iff_ne.mpr c3
    have c3b1 : (t166 != 0) = true := bne_iff_ne.mpr c3
    simp only [Option.some.injEq, Prod.mk.injEq] at H
    obtain ⟨rfl, rfl, rfl, rfl, rfl⟩ := H
    go_enter Tryd.func28, Tryd.ntmps28
    go_wp2_with (first | ((with_reducible refine gate_dst (N := 1) rfl ?_); refine box_event ?hg (N := 1) ?hd (cs := #[.string a0_0, .string a0_1, .int .u64 a0_2, .int .u64 a0_3]) (t := 36) ?hr ?_; (case hd => rfl); (case hg => rfl); (case hr => first | (go_simp; done) | (go_simp; rfl)); intro gb163 hg w23 hbox hb; have n0_ := Aside0.mk (below_step (by repeat (first | (with_reducible first | exact HB.out | apply below_alloc | apply pw_below_drewN | apply below_drew1) | exact HB.out)) hb); have n1_ := Aside0.mk (hbox); have n2_ := Aside0.mk ((by rw [hg]; exact (below_size (by repeat (first | (with_reducible first | exact HB.out | apply below_alloc | apply pw_below_drewN | apply below_drew1) | exact HB.out))) : w.heap.size ≤ gb163)); have n3_ := Aside0.mk ((by rw [hg]; exact (below_size (by repeat (first | (with_reducible first | exact HB.out | apply below_alloc | apply pw_below_drewN | apply below_drew1) | exact HB.out))) : w.heap.size ≤ gb163)); clear HB; have HB := n0_; have BK163 := n1_; have GW163 := n2_; have GE163 := n3_; clear n0_ n1_ n2_ n3_; clear hb hbox hg) | ((with_reducible refine gate_dst (N := 2) rfl ?_); refine box_event ?hg (N := 2) ?hd (cs := #[.string (⟨#[]⟩ : ByteArray), .string (⟨#[]⟩ : ByteArray), .int .u64 0, .int .u64 0]) (t := 36) ?hr ?_; (case hd => rfl); (case hg => rfl); (case hr => first | (go_simp; done) | (go_simp; rfl)); intro gb164 hg w24 hbox hb; have n0_ := Aside0.mk (blk_below (g := gb163) (o := .cells #[.string a0_0, .string a0_1, .int .u64 a0_2, .int .u64 a0_3] 36 (0, 0)) (by (with_reducible repeat (first | refine blk_drewN ?_ _ | refine blk_drew ?_ | refine blk_alloc ?_ _)); exact BK163.out) hb); have n1_ := Aside0.mk (below_step (by repeat (first | (with_reducible first | exact HB.out | apply below_alloc | apply pw_below_drewN | apply below_drew1 | refine below_set ?_ GE163.out) | exact HB.out)) hb); have n2_ := Aside0.mk (hbox); have n3_ := Aside0.mk ((by rw [hg]; exact (below_size (by repeat (first | (with_reducible first | exact HB.out | apply below_alloc | apply pw_below_drewN | apply below_drew1 | refine below_set ?_ GE163.out) | exact HB.out))) : w.heap.size ≤ gb164)); have n4_ := Aside0.mk ((by rw [hg]; exact (below_size (by repeat (first | (with_reducible first | exact HB.out | apply below_alloc | apply pw_below_drewN | apply below_drew1 | refine below_set ?_ GE163.out) | exact HB.out))) : w.heap.size ≤ gb164)); have n5_ := Aside0.mk ((by rw [hg]; exact Nat.ne_of_lt (blk_lt (g := gb163) (o := .cells #[.string a0_0, .string a0_1, .int .u64 a0_2, .int .u64 a0_3] 36 (0, 0)) (by (with_reducible repeat (first | refine blk_drewN ?_ _ | refine blk_drew ?_ | refine blk_alloc ?_ _)); exact BK163.out)) : gb163 ≠ gb164)); have n6_ := Aside0.mk ((by rw [hg]; exact Nat.ne_of_gt (blk_lt (g := gb163) (o := .cells #[.string a0_0, .string a0_1, .int .u64 a0_2, .int .u64 a0_3] 36 (0, 0)) (by (with_reducible repeat (first | refine blk_drewN ?_ _ | refine blk_drew ?_ | refine blk_alloc ?_ _)); exact BK163.out)) : gb164 ≠ gb163)); clear BK163; clear HB; have BK163 := n0_; have HB := n1_; have BK164 := n2_; have GW164 := n3_; have GE164 := n4_; have NB163_164 := n5_; have NB164_163 := n6_; clear n0_ n1_ n2_ n3_ n4_ n5_ n6_; clear hb hbox hg; have hnb25 := NB163_164.out; have hnc25 := NB164_163.out; have hcz26_0 : w24.cell? ⟨gb163, 0, none⟩ = some (.string a0_0) := (blk_cell BK163.out 0).trans rfl; have hcz26_1 : w24.cell? ⟨gb163, 1, none⟩ = some (.string a0_1) := (blk_cell BK163.out 1).trans rfl; have hcz26_2 : w24.cell? ⟨gb163, 2, none⟩ = some (.int .u64 a0_2) := (blk_cell BK163.out 2).trans rfl; have hcz26_3 : w24.cell? ⟨gb163, 3, none⟩ = some (.int .u64 a0_3) := (blk_cell BK163.out 3).trans rfl; have hfz26_0 := blk_frozen BK163.out 0; have hfz26_1 := blk_frozen BK163.out 1; have hfz26_2 := blk_frozen BK163.out 2; have hfz26_3 := blk_frozen BK163.out 3) | ((with_reducible refine gate_callee (f := 11) rfl ?_); refine goesL_ (some 9) rfl rfl Tryd.func11 (by kernel_rfl) rfl #[.string a0_0] rfl (by (try simp only [List.map_toArray, List.map_cons, List.map_nil]); first | done | rfl | (simp only [List.length_drop, List.length_take]; rfl)) ?_; (with_reducible refine (musterref09_Label.calls k a0_0 t165 t166 _ A2.out).mono ?_); rintro e w27 ⟨rfl, hb⟩; refine ⟨_, rfl, ?_⟩; have n0_ := Aside0.mk (blk_below (g := gb163) (o := .cells #[.string a0_0, .string a0_1, .int .u64 a0_2, .int .u64 a0_3] 36 (0, 0)) (by (with_reducible repeat (first | refine blk_drewN ?_ _ | refine blk_drew ?_ | refine blk_alloc ?_ _)); exact BK163.out) hb); have n1_ := Aside0.mk (blk_below (g := gb164) (o := .cells #[.string (⟨#[]⟩ : ByteArray), .string (⟨#[]⟩ : ByteArray), .int .u64 0, .int .u64 0] 36 (0, 0)) (by (with_reducible repeat (first | refine blk_drewN ?_ _ | refine blk_drew ?_ | refine blk_alloc ?_ _)); exact BK164.out) hb); have n2_ := Aside0.mk (below_step (by repeat (first | (with_reducible first | exact HB.out | apply below_alloc | apply pw_below_drewN | apply below_drew1 | refine below_set ?_ GE163.out | refine below_set ?_ GE164.out) | exact HB.out)) hb); clear BK163; clear BK164; clear HB; have BK163 := n0_; have BK164 := n1_; have HB := n2_; clear n0_ n1_ n2_; (try clear hb); (try clear hb2); (try clear hk); (try clear hi); have hcz28_0 : w27.cell? ⟨gb164, 0, none⟩ = some (.string (⟨#[]⟩ : ByteArray)) := (blk_cell BK164.out 0).trans rfl; have hcz28_1 : w27.cell? ⟨gb164, 1, none⟩ = some (.string (⟨#[]⟩ : ByteArray)) := (blk_cell BK164.out 1).trans rfl; have hcz28_2 : w27.cell? ⟨gb164, 2, none⟩ = some (.int .u64 0) := (blk_cell BK164.out 2).trans rfl; have hcz28_3 : w27.cell? ⟨gb164, 3, none⟩ = some (.int .u64 0) := (blk_cell BK164.out 3).trans rfl; have hfz28_0 := blk_frozen BK164.out 0; have hfz28_1 := blk_frozen BK164.out 1; have hfz28_2 := blk_frozen BK164.out 2; have hfz28_3 := blk_frozen BK164.out 3))
    refine bodyPost_ret (results_ct rfl _ _ gb164 36 #[.string (⟨#[]⟩ : ByteArray), .string (⟨#[]⟩ : ByteArray), .int .u64 0, .int .u64 0] (0, 0) _ rfl (by (with_reducible repeat (first | refine blk_drewN ?_ _ | refine blk_drew ?_ | refine blk_alloc ?_ _)); refine blk_put (cs := #[.string (⟨#[]⟩ : ByteArray), .string (⟨#[]⟩ : ByteArray), .int .u64 0, .int .u64 0]) ?_ 3 _ rfl; (with_reducible repeat (first | refine blk_drewN ?_ _ | refine blk_drew ?_ | refine blk_alloc ?_ _)); refine blk_put (cs := #[.string (⟨#[]⟩ : ByteArray), .string (⟨#[]⟩ : ByteArray), .int .u64 0, .int .u64 0]) ?_ 2 _ rfl; (with_reducible repeat (first | refine blk_drewN ?_ _ | refine blk_drew ?_ | refine blk_alloc ?_ _)); refine blk_put (cs := #[.string (⟨#[]⟩ : ByteArray), .string (⟨#[]⟩ : ByteArray), .int .u64 0, .int .u64 0]) ?_ 1 _ rfl; (with_reducible repeat (first | refine blk_drewN ?_ _ | refine blk_drew ?_ | refine blk_alloc ?_ _)); refine blk_put (cs := #[.string (⟨#[]⟩ : ByteArray), .string (⟨#[]⟩ : ByteArray), .int .u64 0, .int .u64 0]) ?_ 0 _ rfl; (with_reducible repeat (first | refine blk_drewN ?_ _ | refine blk_drew ?_ | refine blk_alloc ?_ _)); exact BK164.out) Tryd.underlying36 rfl (by kernel_rfl)) rfl ?_
    exact ⟨by first | rfl | (simp [errW_none, errW_some] <;> rfl) | (simp [*, errW_none, errW_some] <;> rfl), by repeat (first | (with_reducible first | exact HB.out | apply below_alloc | apply pw_below_drewN | apply below_drew1 | refine below_set ?_ GE163.out | refine below_set ?_ GE164.out) | exact HB.out)⟩

/-! ### musterref09_Three: function 58 -/
def musterref09_Three.f (k : Nat) (a0 : ByteArray) (a1 : ByteArray) (a2 : ByteArray) : Option (ByteArray × ByteArray × ByteArray × Int) := (musterref09_Label.f k a0).bind fun bt172 => ((musterref09_Label.f k a1).bind fun bt174 => ((musterref09_Label.f k a2).bind fun bt176 => (if bt172.2 = 0 then (if bt174.2 = 0 then (if bt176.2 = 0 then (some (bt172.1, bt174.1, bt176.1, 0)) else (some ((⟨#[]⟩ : ByteArray), (⟨#[]⟩ : ByteArray), (⟨#[]⟩ : ByteArray), 90))) else (some ((⟨#[]⟩ : ByteArray), (⟨#[]⟩ : ByteArray), (⟨#[]⟩ : ByteArray), 90))) else (some ((⟨#[]⟩ : ByteArray), (⟨#[]⟩ : ByteArray), (⟨#[]⟩ : ByteArray), 90)))))
theorem musterref09_Three.mono : ∀ a0 a1 a2 k, LeO (musterref09_Three.f k a0 a1 a2) (musterref09_Three.f (k + 1) a0 a1 a2) := by
  intro a0 a1 a2 k
  unfold musterref09_Three.f
  repeat' first
      | (with_reducible exact musterref09_Label.mono _ _)
      | (with_reducible exact LeO.refl _)
      | (with_reducible exact LeO.none _)
      | (with_reducible refine LeO.ite ?_ ?_)
      | (with_reducible refine LeO.bind ?_ (fun _ => ?_))
      | exact musterref09_Label.mono _ _
      | exact LeO.none _
      | refine LeO.ite ?_ ?_
      | refine LeO.bind ?_ (fun _ => ?_)
set_option maxHeartbeats 8000000 in
set_option maxRecDepth 100000 in
theorem musterref09_Three.calls (k : Nat) (a0 : ByteArray) (a1 : ByteArray) (a2 : ByteArray) (r1 : ByteArray) (r2 : ByteArray) (r3 : ByteArray) (r4 : Int) (w : World) (h : musterref09_Three.f k a0 a1 a2 = some (r1, r2, r3, r4)) :
    Calls Tryd.prog 58 #[.string a0, .string a1, .string a2] w fun e w' => e = .returned (.tuple #[.string r1, .string r2, .string r3, .int .i64 r4]) ∧ Below w.heap.size w w' := by
  have HB := Aside0.mk (Below.refl w.heap.size w)
  have H : ((musterref09_Label.f k a0).bind fun bt172 => ((musterref09_Label.f k a1).bind fun bt174 => ((musterref09_Label.f k a2).bind fun bt176 => (if bt172.2 = 0 then (if bt174.2 = 0 then (if bt176.2 = 0 then (some (bt172.1, bt174.1, bt176.1, 0)) else (some ((⟨#[]⟩ : ByteArray), (⟨#[]⟩ : ByteArray), (⟨#[]⟩ : ByteArray), 90))) else (some ((⟨#[]⟩ : ByteArray), (⟨#[]⟩ : ByteArray), (⟨#[]⟩ : ByteArray), 90))) else (some ((⟨#[]⟩ : ByteArray), (⟨#[]⟩ : ByteArray), (⟨#[]⟩ : ByteArray), 90)))))) = some (r1, r2, r3, r4) := h
  clear h
  replace H := Option.bind_eq_some_iff.mp H
  obtain ⟨⟨t172, t173⟩, A40, H⟩ := H
  replace H : ((musterref09_Label.f k a1).bind fun bt174 => ((musterref09_Label.f k a2).bind fun bt176 => (if t173 = 0 then (if bt174.2 = 0 then (if bt176.2 = 0 then (some (t172, bt174.1, bt176.1, 0)) else (some ((⟨#[]⟩ : ByteArray), (⟨#[]⟩ : ByteArray), (⟨#[]⟩ : ByteArray), 90))) else (some ((⟨#[]⟩ : ByteArray), (⟨#[]⟩ : ByteArray), (⟨#[]⟩ : ByteArray), 90))) else (some ((⟨#[]⟩ : ByteArray), (⟨#[]⟩ : ByteArray), (⟨#[]⟩ : ByteArray), 90))))) = some (r1, r2, r3, r4) := H
  have A4 := Aside0.mk A40
  clear A40
  replace H := Option.bind_eq_some_iff.mp H
  obtain ⟨⟨t174, t175⟩, A50, H⟩ := H
  replace H : ((musterref09_Label.f k a2).bind fun bt176 => (if t173 = 0 then (if t175 = 0 then (if bt176.2 = 0 then (some (t172, t174, bt176.1, 0)) else (some ((⟨#[]⟩ : ByteArray), (⟨#[]⟩ : ByteArray), (⟨#[]⟩ : ByteArray), 90))) else (some ((⟨#[]⟩ : ByteArray), (⟨#[]⟩ : ByteArray), (⟨#[]⟩ : ByteArray), 90))) else (some ((⟨#[]⟩ : ByteArray), (⟨#[]⟩ : ByteArray), (⟨#[]⟩ : ByteArray), 90)))) = some (r1, r2, r3, r4) := H
  have A5 := Aside0.mk A50
  clear A50
  replace H := Option.bind_eq_some_iff.mp H
  obtain ⟨⟨t176, t177⟩, A60, H⟩ := H
  replace H : (if t173 = 0 then (if t175 = 0 then (if t177 = 0 then (some (t172, t174, t176, 0)) else (some ((⟨#[]⟩ : ByteArray), (⟨#[]⟩ : ByteArray), (⟨#[]⟩ : ByteArray), 90))) else (some ((⟨#[]⟩ : ByteArray), (⟨#[]⟩ : ByteArray), (⟨#[]⟩ : ByteArray), 90))) else (some ((⟨#[]⟩ : ByteArray), (⟨#[]⟩ : ByteArray), (⟨#[]⟩ : ByteArray), 90))) = some (r1, r2, r3, r4) := H
  have A6 := Aside0.mk A60
  clear A60
  by_cases c7 : t173 = 0
  · rw [if_pos c7] at H
    have c7b0 : (t173 == 0) = true := beq_iff_eq.mpr c7
    have c7b1 : (t173 != 0) = false := bne_eq_false_iff_eq.mpr c7
    clear c7
    by_cases c8 : t175 = 0
    · rw [if_pos c8] at H
      have c8b0 : (t175 == 0) = true := beq_iff_eq.mpr c8
      have c8b1 : (t175 != 0) = false := bne_eq_false_iff_eq.mpr c8
      clear c8
      by_cases c9 : t177 = 0
      · rw [if_pos c9] at H
        have c9b0 : (t177 == 0) = true := beq_iff_eq.mpr c9
        have c9b1 : (t177 != 0) = false := bne_eq_false_iff_eq.mpr c9
        clear c9
        simp only [Option.some.injEq, Prod.mk.injEq] at H
        obtain ⟨rfl, rfl, rfl, rfl⟩ := H
        go_enter Tryd.func58, Tryd.ntmps58
        go_wp2_with (first | ((with_reducible refine gate_callee (f := 11) rfl ?_); refine goesL_ (some 18) rfl rfl Tryd.func11 (by kernel_rfl) rfl #[.string a0] rfl (by (try simp only [List.map_toArray, List.map_cons, List.map_nil]); first | done | rfl | (simp only [List.length_drop, List.length_take]; rfl)) ?_; (with_reducible refine (musterref09_Label.calls k a0 t172 t173 _ A4.out).mono ?_); rintro e w10 ⟨rfl, hb⟩; refine ⟨_, rfl, ?_⟩; have n0_ := Aside0.mk (below_step (by repeat (first | (with_reducible first | exact HB.out | apply below_alloc | apply pw_below_drewN | apply below_drew1) | exact HB.out)) hb); clear HB; have HB := n0_; clear n0_; (try clear hb); (try clear hb2); (try clear hk); (try clear hi)) | ((with_reducible refine gate_callee (f := 11) rfl ?_); refine goesL_ (some 23) rfl rfl Tryd.func11 (by kernel_rfl) rfl #[.string a1] rfl (by (try simp only [List.map_toArray, List.map_cons, List.map_nil]); first | done | rfl | (simp only [List.length_drop, List.length_take]; rfl)) ?_; (with_reducible refine (musterref09_Label.calls k a1 t174 t175 _ A5.out).mono ?_); rintro e w11 ⟨rfl, hb⟩; refine ⟨_, rfl, ?_⟩; have n0_ := Aside0.mk (below_step (by repeat (first | (with_reducible first | exact HB.out | apply below_alloc | apply pw_below_drewN | apply below_drew1) | exact HB.out)) hb); clear HB; have HB := n0_; clear n0_; (try clear hb); (try clear hb2); (try clear hk); (try clear hi)) | ((with_reducible refine gate_callee (f := 11) rfl ?_); refine goesL_ (some 28) rfl rfl Tryd.func11 (by kernel_rfl) rfl #[.string a2] rfl (by (try simp only [List.map_toArray, List.map_cons, List.map_nil]); first | done | rfl | (simp only [List.length_drop, List.length_take]; rfl)) ?_; (with_reducible refine (musterref09_Label.calls k a2 t176 t177 _ A6.out).mono ?_); rintro e w12 ⟨rfl, hb⟩; refine ⟨_, rfl, ?_⟩; have n0_ := Aside0.mk (below_step (by repeat (first | (with_reducible first | exact HB.out | apply below_alloc | apply pw_below_drewN | apply below_drew1) | exact HB.out)) hb); clear HB; have HB := n0_; clear n0_; (try clear hb); (try clear hb2); (try clear hk); (try clear hi)))
        refine bodyPost_ret (results_list (rs := [.tmp 6, .tmp 7, .tmp 8, .tmp 9]) rfl (by simp) (.tmp (.tmp (.tmp (.tmp .nil))))) rfl ?_
        exact ⟨by first | rfl | (simp [errW_none, errW_some] <;> rfl) | (simp [*, errW_none, errW_some] <;> rfl), by repeat (first | (with_reducible first | exact HB.out | apply below_alloc | apply pw_below_drewN | apply below_drew1) | exact HB.out)⟩
      · rw [if_neg c9] at H
        have c9b0 : (t177 == 0) = false := beq_eq_false_iff_ne.mpr c9
        have c9b1 : (t177 != 0) = true := bne_iff_ne.mpr c9
        simp only [Option.some.injEq, Prod.mk.injEq] at H
        obtain ⟨rfl, rfl, rfl, rfl⟩ := H
        go_enter Tryd.func58, Tryd.ntmps58
        go_wp2_with (first | ((with_reducible refine gate_callee (f := 11) rfl ?_); refine goesL_ (some 18) rfl rfl Tryd.func11 (by kernel_rfl) rfl #[.string a0] rfl (by (try simp only [List.map_toArray, List.map_cons, List.map_nil]); first | done | rfl | (simp only [List.length_drop, List.length_take]; rfl)) ?_; (with_reducible refine (musterref09_Label.calls k a0 t172 t173 _ A4.out).mono ?_); rintro e w13 ⟨rfl, hb⟩; refine ⟨_, rfl, ?_⟩; have n0_ := Aside0.mk (below_step (by repeat (first | (with_reducible first | exact HB.out | apply below_alloc | apply pw_below_drewN | apply below_drew1) | exact HB.out)) hb); clear HB; have HB := n0_; clear n0_; (try clear hb); (try clear hb2); (try clear hk); (try clear hi)) | ((with_reducible refine gate_callee (f := 11) rfl ?_); refine goesL_ (some 23) rfl rfl Tryd.func11 (by kernel_rfl) rfl #[.string a1] rfl (by (try simp only [List.map_toArray, List.map_cons, List.map_nil]); first | done | rfl | (simp only [List.length_drop, List.length_take]; rfl)) ?_; (with_reducible refine (musterref09_Label.calls k a1 t174 t175 _ A5.out).mono ?_); rintro e w14 ⟨rfl, hb⟩; refine ⟨_, rfl, ?_⟩; have n0_ := Aside0.mk (below_step (by repeat (first | (with_reducible first | exact HB.out | apply below_alloc | apply pw_below_drewN | apply below_drew1) | exact HB.out)) hb); clear HB; have HB := n0_; clear n0_; (try clear hb); (try clear hb2); (try clear hk); (try clear hi)) | ((with_reducible refine gate_callee (f := 11) rfl ?_); refine goesL_ (some 28) rfl rfl Tryd.func11 (by kernel_rfl) rfl #[.string a2] rfl (by (try simp only [List.map_toArray, List.map_cons, List.map_nil]); first | done | rfl | (simp only [List.length_drop, List.length_take]; rfl)) ?_; (with_reducible refine (musterref09_Label.calls k a2 t176 t177 _ A6.out).mono ?_); rintro e w15 ⟨rfl, hb⟩; refine ⟨_, rfl, ?_⟩; have n0_ := Aside0.mk (below_step (by repeat (first | (with_reducible first | exact HB.out | apply below_alloc | apply pw_below_drewN | apply below_drew1) | exact HB.out)) hb); clear HB; have HB := n0_; clear n0_; (try clear hb); (try clear hb2); (try clear hk); (try clear hi)))
        refine bodyPost_ret (results_list (rs := [.tmp 6, .tmp 7, .tmp 8, .tmp 9]) rfl (by simp) (.tmp (.tmp (.tmp (.tmp .nil))))) rfl ?_
        exact ⟨by first | rfl | (simp [errW_none, errW_some] <;> rfl) | (simp [*, errW_none, errW_some] <;> rfl), by repeat (first | (with_reducible first | exact HB.out | apply below_alloc | apply pw_below_drewN | apply below_drew1) | exact HB.out)⟩
    · rw [if_neg c8] at H
      have c8b0 : (t175 == 0) = false := beq_eq_false_iff_ne.mpr c8
      have c8b1 : (t175 != 0) = true := bne_iff_ne.mpr c8
      simp only [Option.some.injEq, Prod.mk.injEq] at H
      obtain ⟨rfl, rfl, rfl, rfl⟩ := H
      go_enter Tryd.func58, Tryd.ntmps58
      go_wp2_with (first | ((with_reducible refine gate_callee (f := 11) rfl ?_); refine goesL_ (some 18) rfl rfl Tryd.func11 (by kernel_rfl) rfl #[.string a0] rfl (by (try simp only [List.map_toArray, List.map_cons, List.map_nil]); first | done | rfl | (simp only [List.length_drop, List.length_take]; rfl)) ?_; (with_reducible refine (musterref09_Label.calls k a0 t172 t173 _ A4.out).mono ?_); rintro e w16 ⟨rfl, hb⟩; refine ⟨_, rfl, ?_⟩; have n0_ := Aside0.mk (below_step (by repeat (first | (with_reducible first | exact HB.out | apply below_alloc | apply pw_below_drewN | apply below_drew1) | exact HB.out)) hb); clear HB; have HB := n0_; clear n0_; (try clear hb); (try clear hb2); (try clear hk); (try clear hi)) | ((with_reducible refine gate_callee (f := 11) rfl ?_); refine goesL_ (some 23) rfl rfl Tryd.func11 (by kernel_rfl) rfl #[.string a1] rfl (by (try simp only [List.map_toArray, List.map_cons, List.map_nil]); first | done | rfl | (simp only [List.length_drop, List.length_take]; rfl)) ?_; (with_reducible refine (musterref09_Label.calls k a1 t174 t175 _ A5.out).mono ?_); rintro e w17 ⟨rfl, hb⟩; refine ⟨_, rfl, ?_⟩; have n0_ := Aside0.mk (below_step (by repeat (first | (with_reducible first | exact HB.out | apply below_alloc | apply pw_below_drewN | apply below_drew1) | exact HB.out)) hb); clear HB; have HB := n0_; clear n0_; (try clear hb); (try clear hb2); (try clear hk); (try clear hi)) | ((with_reducible refine gate_callee (f := 11) rfl ?_); refine goesL_ (some 28) rfl rfl Tryd.func11 (by kernel_rfl) rfl #[.string a2] rfl (by (try simp only [List.map_toArray, List.map_cons, List.map_nil]); first | done | rfl | (simp only [List.length_drop, List.length_take]; rfl)) ?_; (with_reducible refine (musterref09_Label.calls k a2 t176 t177 _ A6.out).mono ?_); rintro e w18 ⟨rfl, hb⟩; refine ⟨_, rfl, ?_⟩; have n0_ := Aside0.mk (below_step (by repeat (first | (with_reducible first | exact HB.out | apply below_alloc | apply pw_below_drewN | apply below_drew1) | exact HB.out)) hb); clear HB; have HB := n0_; clear n0_; (try clear hb); (try clear hb2); (try clear hk); (try clear hi)))
      refine bodyPost_ret (results_list (rs := [.tmp 6, .tmp 7, .tmp 8, .tmp 9]) rfl (by simp) (.tmp (.tmp (.tmp (.tmp .nil))))) rfl ?_
      exact ⟨by first | rfl | (simp [errW_none, errW_some] <;> rfl) | (simp [*, errW_none, errW_some] <;> rfl), by repeat (first | (with_reducible first | exact HB.out | apply below_alloc | apply pw_below_drewN | apply below_drew1) | exact HB.out)⟩
  · rw [if_neg c7] at H
    have c7b0 : (t173 == 0) = false := beq_eq_false_iff_ne.mpr c7
    have c7b1 : (t173 != 0) = true := bne_iff_ne.mpr c7
    simp only [Option.some.injEq, Prod.mk.injEq] at H
    obtain ⟨rfl, rfl, rfl, rfl⟩ := H
    go_enter Tryd.func58, Tryd.ntmps58
    go_wp2_with (first | ((with_reducible refine gate_callee (f := 11) rfl ?_); refine goesL_ (some 18) rfl rfl Tryd.func11 (by kernel_rfl) rfl #[.string a0] rfl (by (try simp only [List.map_toArray, List.map_cons, List.map_nil]); first | done | rfl | (simp only [List.length_drop, List.length_take]; rfl)) ?_; (with_reducible refine (musterref09_Label.calls k a0 t172 t173 _ A4.out).mono ?_); rintro e w19 ⟨rfl, hb⟩; refine ⟨_, rfl, ?_⟩; have n0_ := Aside0.mk (below_step (by repeat (first | (with_reducible first | exact HB.out | apply below_alloc | apply pw_below_drewN | apply below_drew1) | exact HB.out)) hb); clear HB; have HB := n0_; clear n0_; (try clear hb); (try clear hb2); (try clear hk); (try clear hi)) | ((with_reducible refine gate_callee (f := 11) rfl ?_); refine goesL_ (some 23) rfl rfl Tryd.func11 (by kernel_rfl) rfl #[.string a1] rfl (by (try simp only [List.map_toArray, List.map_cons, List.map_nil]); first | done | rfl | (simp only [List.length_drop, List.length_take]; rfl)) ?_; (with_reducible refine (musterref09_Label.calls k a1 t174 t175 _ A5.out).mono ?_); rintro e w20 ⟨rfl, hb⟩; refine ⟨_, rfl, ?_⟩; have n0_ := Aside0.mk (below_step (by repeat (first | (with_reducible first | exact HB.out | apply below_alloc | apply pw_below_drewN | apply below_drew1) | exact HB.out)) hb); clear HB; have HB := n0_; clear n0_; (try clear hb); (try clear hb2); (try clear hk); (try clear hi)) | ((with_reducible refine gate_callee (f := 11) rfl ?_); refine goesL_ (some 28) rfl rfl Tryd.func11 (by kernel_rfl) rfl #[.string a2] rfl (by (try simp only [List.map_toArray, List.map_cons, List.map_nil]); first | done | rfl | (simp only [List.length_drop, List.length_take]; rfl)) ?_; (with_reducible refine (musterref09_Label.calls k a2 t176 t177 _ A6.out).mono ?_); rintro e w21 ⟨rfl, hb⟩; refine ⟨_, rfl, ?_⟩; have n0_ := Aside0.mk (below_step (by repeat (first | (with_reducible first | exact HB.out | apply below_alloc | apply pw_below_drewN | apply below_drew1) | exact HB.out)) hb); clear HB; have HB := n0_; clear n0_; (try clear hb); (try clear hb2); (try clear hk); (try clear hi)))
    refine bodyPost_ret (results_list (rs := [.tmp 6, .tmp 7, .tmp 8, .tmp 9]) rfl (by simp) (.tmp (.tmp (.tmp (.tmp .nil))))) rfl ?_
    exact ⟨by first | rfl | (simp [errW_none, errW_some] <;> rfl) | (simp [*, errW_none, errW_some] <;> rfl), by repeat (first | (with_reducible first | exact HB.out | apply below_alloc | apply pw_below_drewN | apply below_drew1) | exact HB.out)⟩

/-! ### musterref01_Less: function 93 -/
mutual
def musterref01_Less.l0 : Nat → ByteArray → ByteArray → Int → Option (Bool)
  | 0, _, _, _ => none
  | k + 1, x0, x1, x5 => if x5 < (x1.size : Int) then (if x5 ≥ (x0.size : Int) then (musterref01_Less.j1 k x0 x1 x5 true) else (if 0 ≤ x5 then (if x5 < (x0.size : Int) then (musterref01_Less.j1 k x0 x1 x5 (decide ((bt x0 x5) < (bt x1 x5)))) else (none)) else (none))) else (some false)
def musterref01_Less.j1 : Nat → ByteArray → ByteArray → Int → Bool → Option (Bool)
  | 0, _, _, _, _ => none
  | k + 1, x0, x1, x5, x24 => if x24 = true then (some true) else (if 0 ≤ x5 then (if x5 < (x0.size : Int) then (if x5 < (x1.size : Int) then (if (bt x0 x5) > (bt x1 x5) then (some false) else (musterref01_Less.l0 k x0 x1 (wrap64 (x5 + 1)))) else (none)) else (none)) else (none))
end
def musterref01_Less.f (k : Nat) (a0 : ByteArray) (a1 : ByteArray) : Option (Bool) := musterref01_Less.l0 k a0 a1 0
theorem musterref01_Less.mono_l : ∀ k, (∀ y0 y1 y2, LeO (musterref01_Less.l0 k y0 y1 y2) (musterref01_Less.l0 (k + 1) y0 y1 y2)) ∧ (∀ y0 y1 y2 y3, LeO (musterref01_Less.j1 k y0 y1 y2 y3) (musterref01_Less.j1 (k + 1) y0 y1 y2 y3))
  | 0 => ⟨fun _ _ _ r h => by simp [musterref01_Less.l0] at h, fun _ _ _ _ r h => by simp [musterref01_Less.j1] at h⟩
  | k + 1 => by
    obtain ⟨ih0, ih1⟩ := musterref01_Less.mono_l k
    refine ⟨?_, ?_⟩
    · intro y0 y1 y2
      unfold musterref01_Less.l0
      repeat' first
      | (with_reducible exact ih0 _ _ _)
      | (with_reducible exact ih1 _ _ _ _)
      | (with_reducible exact LeO.refl _)
      | (with_reducible exact LeO.none _)
      | (with_reducible refine LeO.ite ?_ ?_)
      | (with_reducible refine LeO.bind ?_ (fun _ => ?_))
      | exact ih0 _ _ _
      | exact ih1 _ _ _ _
      | exact LeO.none _
      | refine LeO.ite ?_ ?_
      | refine LeO.bind ?_ (fun _ => ?_)
    · intro y0 y1 y2 y3
      unfold musterref01_Less.j1
      repeat' first
      | (with_reducible exact ih0 _ _ _)
      | (with_reducible exact ih1 _ _ _ _)
      | (with_reducible exact LeO.refl _)
      | (with_reducible exact LeO.none _)
      | (with_reducible refine LeO.ite ?_ ?_)
      | (with_reducible refine LeO.bind ?_ (fun _ => ?_))
      | exact ih0 _ _ _
      | exact ih1 _ _ _ _
      | exact LeO.none _
      | refine LeO.ite ?_ ?_
      | refine LeO.bind ?_ (fun _ => ?_)
theorem musterref01_Less.mono : ∀ a0 a1 k, LeO (musterref01_Less.f k a0 a1) (musterref01_Less.f (k + 1) a0 a1) := by
  intro a0 a1 k
  obtain ⟨ih0, ih1⟩ := musterref01_Less.mono_l k
  unfold musterref01_Less.f
  repeat' first
      | (with_reducible exact ih0 _ _ _)
      | (with_reducible exact ih1 _ _ _ _)
      | (with_reducible exact LeO.refl _)
      | (with_reducible exact LeO.none _)
      | (with_reducible refine LeO.ite ?_ ?_)
      | (with_reducible refine LeO.bind ?_ (fun _ => ?_))
      | exact ih0 _ _ _
      | exact ih1 _ _ _ _
      | exact LeO.none _
      | refine LeO.ite ?_ ?_
      | refine LeO.bind ?_ (fun _ => ?_)
set_option maxHeartbeats 8000000 in
set_option maxRecDepth 100000 in
theorem musterref01_Less.calls (k : Nat) (a0 : ByteArray) (a1 : ByteArray) (r : Bool) (w : World) (h : musterref01_Less.f k a0 a1 = some r) :
    Calls Tryd.prog 93 #[.string a0, .string a1] w fun e w' => e = .returned (.bool r) ∧ Drawn0 w w' := by
  have H : (musterref01_Less.l0 k a0 a1 0) = some r := h
  clear h
  have H' := Aside0.mk H
  clear H
  go_enter Tryd.func93, Tryd.ntmps93
  go_wp2
  repeat (go_quiet (fail); try go_wp2)
  go_loopg [5] k (fun kq v5 w' => ∃ (x5_1 : Int), v5 = .int .i64 x5_1 ∧ Aside0 (musterref01_Less.l0 kq a0 a1 x5_1 = some r) ∧ Aside0 (kq ≤ k) ∧ Drawn0 w w')
  case atStart => exact ⟨(0), (by first | rfl | (simp; done) | (simp [*]; done)), H', ⟨Nat.le_refl _⟩, by repeat (first | exact Drawn0.refl _ | apply Drawn0.step)⟩
  case round =>
    clear H'
    try clear p2
    obtain ⟨x5_1, rfl, HA, HK1, ⟨m1, rfl⟩⟩ := hrel
    cases gk with
    | zero => exact absurd HA.out (by simp [musterref01_Less.l0])
    | succ k1 =>
      have H := HA.out
      clear HA
      simp only [musterref01_Less.l0] at H
      by_cases c3 : x5_1 < (a1.size : Int)
      · rw [if_pos c3] at H
        have c3b0 : decide (x5_1 < (a1.size : Int)) = true := decide_eq_true c3
        clear c3
        have HC4 := Aside0.mk H
        clear H
        go_upto_region 4 with (fail)
        repeat (go_quiet (fail); go_upto_region 4 with (fail))
        go_cut [24] (fun v24 wc => ∃ (kq : Nat) (x24_3 : Bool), v24 = .bool x24_3 ∧ Aside0 (musterref01_Less.j1 kq a0 a1 x5_1 x24_3 = some r) ∧ Aside0 (kq ≤ k1) ∧ Drawn0 w wc)
        case first =>
          have H := HC4.out
          clear HC4
          by_cases c5 : x5_1 ≥ (a0.size : Int)
          · rw [if_pos c5] at H
            have c5b0 : decide ((a0.size : Int) ≤ x5_1) = true := decide_eq_true c5
            clear c5
            (first | rw [c5b0] | (simp only [i64_w, i32_w]; rw [c5b0]) | skip)
            have H' := Aside0.mk H
            clear H
            go_wp2
            repeat (go_quiet (fail); try go_wp2)
            go_meet
            case rel => exact ⟨_, (true), (by first | rfl | (simp; done) | (simp [*]; done)), H', ⟨by have := HK1.out; first | omega | exact Nat.le_refl _⟩, by repeat (first | exact Drawn0.refl _ | apply Drawn0.step)⟩
          · rw [if_neg c5] at H
            have c5b0 : decide ((a0.size : Int) ≤ x5_1) = false := decide_eq_false c5
            clear c5
            (first | rw [c5b0] | (simp only [i64_w, i32_w]; rw [c5b0]) | skip)
            by_cases c6 : 0 ≤ x5_1
            · rw [if_pos c6] at H
              have c6b0 : decide (0 ≤ x5_1) = true := decide_eq_true c6
              clear c6
              by_cases c7 : x5_1 < (a0.size : Int)
              · rw [if_pos c7] at H
                have c7b0 : decide (x5_1 < (a0.size : Int)) = true := decide_eq_true c7
                clear c7
                have H' := Aside0.mk H
                clear H
                have p8 : 0 ≤ (x5_1 : Int) := of_decide_eq_true (by first | (with_reducible assumption) | assumption)
                have q8 : x5_1 < (a0.size : Int) := of_decide_eq_true (by first | (with_reducible assumption) | assumption)
                have hx8 := bt_at a0 x5_1
                replace p8 := eq_true p8
                replace q8 := eq_true q8
                have p9 : 0 ≤ (x5_1 : Int) := of_decide_eq_true (by first | (with_reducible assumption) | assumption)
                have q9 : x5_1 < (a1.size : Int) := of_decide_eq_true (by first | (with_reducible assumption) | assumption)
                have hx9 := bt_at a1 x5_1
                replace p9 := eq_true p9
                replace q9 := eq_true q9
                go_wp2
                repeat (go_quiet (fail); try go_wp2)
                go_meet
                case rel => exact ⟨_, (decide ((bt a0 x5_1) < (bt a1 x5_1))), (by first | rfl | (simp; done) | (simp [*]; done)), H', ⟨by have := HK1.out; first | omega | exact Nat.le_refl _⟩, by repeat (first | exact Drawn0.refl _ | apply Drawn0.step)⟩
              · rw [if_neg c7] at H
                exact absurd H (by simp)
            · rw [if_neg c6] at H
              exact absurd H (by simp)
        case rest =>
          clear HC4
          try clear p2
          try clear c3
          try clear c3b0
          try clear c5
          try clear c5b0
          try clear c6
          try clear c6b0
          try clear c7
          try clear c7b0
          try clear p8
          try clear q8
          try clear hx8
          try clear c9
          try clear p9
          try clear q9
          try clear hx9
          try clear p2
          try clear p8
          try clear p9
          try clear q8
          try clear q9
          obtain ⟨kq, x24_3, rfl, HA, HJ3, ⟨mc3, rfl⟩⟩ := hcut
          cases kq with
          | zero => exact absurd HA.out (by simp [musterref01_Less.j1])
          | succ kj3 =>
            have H := HA.out
            clear HA
            simp only [musterref01_Less.j1] at H
            by_cases c10 : x24_3 = true
            · subst c10
              have H1 : (some true) = some r := by rw [if_pos rfl] at H; exact H
              clear H
              have H := H1
              clear H1
              obtain rfl := Option.some.inj H
              go_wp2
              repeat (go_quiet (fail); try go_wp2)
              go_ret
              exact ⟨by first | rfl | (simp; done) | (simp [*]; done), by repeat (first | exact Drawn0.refl _ | apply Drawn0.step)⟩
            · replace c10 := Bool.eq_false_iff.mpr c10
              subst c10
              have H1 : (if 0 ≤ x5_1 then (if x5_1 < (a0.size : Int) then (if x5_1 < (a1.size : Int) then (if (bt a0 x5_1) > (bt a1 x5_1) then (some false) else (musterref01_Less.l0 kj3 a0 a1 (wrap64 (x5_1 + 1)))) else (none)) else (none)) else (none)) = some r := by rw [if_neg (show ¬ (false = true) by decide)] at H; exact H
              clear H
              have H := H1
              clear H1
              by_cases c11 : 0 ≤ x5_1
              · rw [if_pos c11] at H
                have c11b0 : decide (0 ≤ x5_1) = true := decide_eq_true c11
                clear c11
                by_cases c12 : x5_1 < (a0.size : Int)
                · rw [if_pos c12] at H
                  have c12b0 : decide (x5_1 < (a0.size : Int)) = true := decide_eq_true c12
                  clear c12
                  by_cases c14 : x5_1 < (a1.size : Int)
                  · rw [if_pos c14] at H
                    have c14b0 : decide (x5_1 < (a1.size : Int)) = true := decide_eq_true c14
                    clear c14
                    by_cases c16 : (bt a0 x5_1) > (bt a1 x5_1)
                    · rw [if_pos c16] at H
                      have c16b0 : decide ((bt a1 x5_1) < (bt a0 x5_1)) = true := decide_eq_true c16
                      clear c16
                      obtain rfl := Option.some.inj H
                      have p13 : 0 ≤ (x5_1 : Int) := of_decide_eq_true (by first | (with_reducible assumption) | assumption)
                      have q13 : x5_1 < (a0.size : Int) := of_decide_eq_true (by first | (with_reducible assumption) | assumption)
                      have hx13 := bt_at a0 x5_1
                      replace p13 := eq_true p13
                      replace q13 := eq_true q13
                      have p15 : 0 ≤ (x5_1 : Int) := of_decide_eq_true (by first | (with_reducible assumption) | assumption)
                      have q15 : x5_1 < (a1.size : Int) := of_decide_eq_true (by first | (with_reducible assumption) | assumption)
                      have hx15 := bt_at a1 x5_1
                      replace p15 := eq_true p15
                      replace q15 := eq_true q15
                      go_wp2
                      repeat (go_quiet (fail); try go_wp2)
                      go_ret
                      exact ⟨by first | rfl | (simp; done) | (simp [*]; done), by repeat (first | exact Drawn0.refl _ | apply Drawn0.step)⟩
                    · rw [if_neg c16] at H
                      have c16b0 : decide ((bt a1 x5_1) < (bt a0 x5_1)) = false := decide_eq_false c16
                      clear c16
                      have H' := Aside0.mk H
                      clear H
                      have p13 : 0 ≤ (x5_1 : Int) := of_decide_eq_true (by first | (with_reducible assumption) | assumption)
                      have q13 : x5_1 < (a0.size : Int) := of_decide_eq_true (by first | (with_reducible assumption) | assumption)
                      have hx13 := bt_at a0 x5_1
                      replace p13 := eq_true p13
                      replace q13 := eq_true q13
                      have p15 : 0 ≤ (x5_1 : Int) := of_decide_eq_true (by first | (with_reducible assumption) | assumption)
                      have q15 : x5_1 < (a1.size : Int) := of_decide_eq_true (by first | (with_reducible assumption) | assumption)
                      have hx15 := bt_at a1 x5_1
                      replace p15 := eq_true p15
                      replace q15 := eq_true q15
                      go_wp2
                      repeat (go_quiet (fail); try go_wp2)
                      go_roundg kj3
                      case measure => have := HK1.out; have := HJ3.out; omega
                      case rel => exact ⟨(wrap64 (x5_1 + 1)), (by first | rfl | (simp; done) | (simp [*]; done)), H', ⟨by have := HK1.out; have := HJ3.out; omega⟩, by repeat (first | exact Drawn0.refl _ | apply Drawn0.step)⟩
                  · rw [if_neg c14] at H
                    exact absurd H (by simp)
                · rw [if_neg c12] at H
                  exact absurd H (by simp)
              · rw [if_neg c11] at H
                exact absurd H (by simp)
      · rw [if_neg c3] at H
        have c3b0 : decide (x5_1 < (a1.size : Int)) = false := decide_eq_false c3
        clear c3
        obtain rfl := Option.some.inj H
        go_wp2
        repeat (go_quiet (fail); try go_wp2)
        go_ret
        exact ⟨by first | rfl | (simp; done) | (simp [*]; done), by repeat (first | exact Drawn0.refl _ | apply Drawn0.step)⟩

end Go.Proofs.YtagbpjegdfhmpaaDoor.P
