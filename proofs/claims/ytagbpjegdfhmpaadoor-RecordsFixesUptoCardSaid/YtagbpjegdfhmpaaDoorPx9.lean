-- Written by a program of this session (mp.py) over the kit's print.
import Derived.Test.YtagbpjegdfhmpaaDoorPx0
import Derived.Test.YtagbpjegdfhmpaaDoorPx7
namespace Go.Proofs.YtagbpjegdfhmpaaDoor.P
open Go.RowKit Go.Proofs.YtagbpjegdfhmpaaDoorW.PrintWords Go.Proofs.YtagbpjegdfhmpaaDoorW.PrintLast Go.Proofs.YtagbpjegdfhmpaaDoorW.PrintMore
attribute [local go_sem] max2_int min2_int max_two min_two max_three min_three max_four min_four   -- for this text's walks alone
open Go.Proofs.YtagbpjegdfhmpaaDoor.G
set_option linter.unusedVariables false
set_option linter.unusedSimpArgs false

/-! ### musterref09_FixCheck: function 30 -/
mutual
def musterref09_FixCheck.j0 : Nat → ByteArray → ByteArray → ByteArray → ByteArray → Int → ByteArray → Int → Int → Option (ByteArray × ByteArray × ByteArray × Int × ByteArray × Int × Int × Int)
  | 0, _, _, _, _, _, _, _, _ => none
  | k + 1, x4, x212000, x212001, x212002, x212003, x212004, x212005, x212006 => (musterref09_Three.f k x212000 x212001 x4).bind fun bt213 => (if bt213.2.2.2 = 0 then (if x212002.toList = ([] : List UInt8) then (musterref09_FixCheck.j1 k bt213.1 bt213.2.1 (⟨#[]⟩ : ByteArray) x212000 x212001 x212002 x212003 x212004 x212005 x212006) else (musterref09_FixCheck.j1 k bt213.1 bt213.2.1 bt213.2.2.1 x212000 x212001 x212002 x212003 x212004 x212005 x212006)) else (some ((⟨#[]⟩ : ByteArray), (⟨#[]⟩ : ByteArray), (⟨#[]⟩ : ByteArray), 0, (⟨#[]⟩ : ByteArray), 0, 0, bt213.2.2.2)))
def musterref09_FixCheck.j1 : Nat → ByteArray → ByteArray → ByteArray → ByteArray → ByteArray → ByteArray → Int → ByteArray → Int → Int → Option (ByteArray × ByteArray × ByteArray × Int × ByteArray × Int × Int × Int)
  | 0, _, _, _, _, _, _, _, _, _, _ => none
  | k + 1, x5, x6, x7, x212000, x212001, x212002, x212003, x212004, x212005, x212006 => if x212003 = 1 then (musterref09_FixCheck.j2 k x5 x6 x7 false x212000 x212001 x212002 x212003 x212004 x212005 x212006) else (if x212003 = 2 then (musterref09_FixCheck.j2 k x5 x6 x7 false x212000 x212001 x212002 x212003 x212004 x212005 x212006) else (musterref09_FixCheck.j2 k x5 x6 x7 (x212003 != 3) x212000 x212001 x212002 x212003 x212004 x212005 x212006))
def musterref09_FixCheck.j2 : Nat → ByteArray → ByteArray → ByteArray → Bool → ByteArray → ByteArray → ByteArray → Int → ByteArray → Int → Int → Option (ByteArray × ByteArray × ByteArray × Int × ByteArray × Int × Int × Int)
  | 0, _, _, _, _, _, _, _, _, _, _, _ => none
  | k + 1, x5, x6, x7, x44, x212000, x212001, x212002, x212003, x212004, x212005, x212006 => if x44 = true then (some ((⟨#[]⟩ : ByteArray), (⟨#[]⟩ : ByteArray), (⟨#[]⟩ : ByteArray), 0, (⟨#[]⟩ : ByteArray), 0, 0, 94)) else (if (x212004.size : Int) > 200 then (some ((⟨#[]⟩ : ByteArray), (⟨#[]⟩ : ByteArray), (⟨#[]⟩ : ByteArray), 0, (⟨#[]⟩ : ByteArray), 0, 0, 95)) else (musterref09_FixCheck.l0 k x5 x6 x7 0 x212000 x212001 x212002 x212003 x212004 x212005 x212006))
def musterref09_FixCheck.l0 : Nat → ByteArray → ByteArray → ByteArray → Int → ByteArray → ByteArray → ByteArray → Int → ByteArray → Int → Int → Option (ByteArray × ByteArray × ByteArray × Int × ByteArray × Int × Int × Int)
  | 0, _, _, _, _, _, _, _, _, _, _, _ => none
  | k + 1, x5, x6, x7, x9, x212000, x212001, x212002, x212003, x212004, x212005, x212006 => if x9 < (x212004.size : Int) then (if 0 ≤ x9 then (if (bt x212004 x9) < 32 then (some ((⟨#[]⟩ : ByteArray), (⟨#[]⟩ : ByteArray), (⟨#[]⟩ : ByteArray), 0, (⟨#[]⟩ : ByteArray), 0, 0, 95)) else (if (bt x212004 x9) > 126 then (some ((⟨#[]⟩ : ByteArray), (⟨#[]⟩ : ByteArray), (⟨#[]⟩ : ByteArray), 0, (⟨#[]⟩ : ByteArray), 0, 0, 95)) else (musterref09_FixCheck.l0 k x5 x6 x7 (wrap64 (x9 + 1)) x212000 x212001 x212002 x212003 x212004 x212005 x212006))) else (none)) else (some (x5, x6, x7, x212003, x212004, 0, 0, 0))
end
def musterref09_FixCheck.f (k : Nat) (a0_0 : ByteArray) (a0_1 : ByteArray) (a0_2 : ByteArray) (a0_3 : Int) (a0_4 : ByteArray) (a0_5 : Int) (a0_6 : Int) : Option (ByteArray × ByteArray × ByteArray × Int × ByteArray × Int × Int × Int) := if a0_2.toList = ([] : List UInt8) then (musterref09_FixCheck.j0 k (⟨#[120]⟩ : ByteArray) a0_0 a0_1 a0_2 a0_3 a0_4 a0_5 a0_6) else (musterref09_FixCheck.j0 k a0_2 a0_0 a0_1 a0_2 a0_3 a0_4 a0_5 a0_6)
theorem musterref09_FixCheck.mono_l : ∀ k, (∀ y0 y1 y2 y3 y4 y5 y6 y7, LeO (musterref09_FixCheck.j0 k y0 y1 y2 y3 y4 y5 y6 y7) (musterref09_FixCheck.j0 (k + 1) y0 y1 y2 y3 y4 y5 y6 y7)) ∧ (∀ y0 y1 y2 y3 y4 y5 y6 y7 y8 y9, LeO (musterref09_FixCheck.j1 k y0 y1 y2 y3 y4 y5 y6 y7 y8 y9) (musterref09_FixCheck.j1 (k + 1) y0 y1 y2 y3 y4 y5 y6 y7 y8 y9)) ∧ (∀ y0 y1 y2 y3 y4 y5 y6 y7 y8 y9 y10, LeO (musterref09_FixCheck.j2 k y0 y1 y2 y3 y4 y5 y6 y7 y8 y9 y10) (musterref09_FixCheck.j2 (k + 1) y0 y1 y2 y3 y4 y5 y6 y7 y8 y9 y10)) ∧ (∀ y0 y1 y2 y3 y4 y5 y6 y7 y8 y9 y10, LeO (musterref09_FixCheck.l0 k y0 y1 y2 y3 y4 y5 y6 y7 y8 y9 y10) (musterref09_FixCheck.l0 (k + 1) y0 y1 y2 y3 y4 y5 y6 y7 y8 y9 y10))
  | 0 => ⟨fun _ _ _ _ _ _ _ _ r h => by simp [musterref09_FixCheck.j0] at h, fun _ _ _ _ _ _ _ _ _ _ r h => by simp [musterref09_FixCheck.j1] at h, fun _ _ _ _ _ _ _ _ _ _ _ r h => by simp [musterref09_FixCheck.j2] at h, fun _ _ _ _ _ _ _ _ _ _ _ r h => by simp [musterref09_FixCheck.l0] at h⟩
  | k + 1 => by
    obtain ⟨ih0, ih1, ih2, ih3⟩ := musterref09_FixCheck.mono_l k
    refine ⟨?_, ?_, ?_, ?_⟩
    · intro y0 y1 y2 y3 y4 y5 y6 y7
      unfold musterref09_FixCheck.j0
      repeat' first
      | (with_reducible exact ih0 _ _ _ _ _ _ _ _)
      | (with_reducible exact ih1 _ _ _ _ _ _ _ _ _ _)
      | (with_reducible exact ih2 _ _ _ _ _ _ _ _ _ _ _)
      | (with_reducible exact ih3 _ _ _ _ _ _ _ _ _ _ _)
      | (with_reducible exact musterref09_Three.mono _ _ _ _)
      | (with_reducible exact LeO.refl _)
      | (with_reducible exact LeO.none _)
      | (with_reducible refine LeO.ite ?_ ?_)
      | (with_reducible refine LeO.bind ?_ (fun _ => ?_))
      | exact ih0 _ _ _ _ _ _ _ _
      | exact ih1 _ _ _ _ _ _ _ _ _ _
      | exact ih2 _ _ _ _ _ _ _ _ _ _ _
      | exact ih3 _ _ _ _ _ _ _ _ _ _ _
      | exact musterref09_Three.mono _ _ _ _
      | exact LeO.none _
      | refine LeO.ite ?_ ?_
      | refine LeO.bind ?_ (fun _ => ?_)
    · intro y0 y1 y2 y3 y4 y5 y6 y7 y8 y9
      unfold musterref09_FixCheck.j1
      repeat' first
      | (with_reducible exact ih0 _ _ _ _ _ _ _ _)
      | (with_reducible exact ih1 _ _ _ _ _ _ _ _ _ _)
      | (with_reducible exact ih2 _ _ _ _ _ _ _ _ _ _ _)
      | (with_reducible exact ih3 _ _ _ _ _ _ _ _ _ _ _)
      | (with_reducible exact musterref09_Three.mono _ _ _ _)
      | (with_reducible exact LeO.refl _)
      | (with_reducible exact LeO.none _)
      | (with_reducible refine LeO.ite ?_ ?_)
      | (with_reducible refine LeO.bind ?_ (fun _ => ?_))
      | exact ih0 _ _ _ _ _ _ _ _
      | exact ih1 _ _ _ _ _ _ _ _ _ _
      | exact ih2 _ _ _ _ _ _ _ _ _ _ _
      | exact ih3 _ _ _ _ _ _ _ _ _ _ _
      | exact musterref09_Three.mono _ _ _ _
      | exact LeO.none _
      | refine LeO.ite ?_ ?_
      | refine LeO.bind ?_ (fun _ => ?_)
    · intro y0 y1 y2 y3 y4 y5 y6 y7 y8 y9 y10
      unfold musterref09_FixCheck.j2
      repeat' first
      | (with_reducible exact ih0 _ _ _ _ _ _ _ _)
      | (with_reducible exact ih1 _ _ _ _ _ _ _ _ _ _)
      | (with_reducible exact ih2 _ _ _ _ _ _ _ _ _ _ _)
      | (with_reducible exact ih3 _ _ _ _ _ _ _ _ _ _ _)
      | (with_reducible exact musterref09_Three.mono _ _ _ _)
      | (with_reducible exact LeO.refl _)
      | (with_reducible exact LeO.none _)
      | (with_reducible refine LeO.ite ?_ ?_)
      | (with_reducible refine LeO.bind ?_ (fun _ => ?_))
      | exact ih0 _ _ _ _ _ _ _ _
      | exact ih1 _ _ _ _ _ _ _ _ _ _
      | exact ih2 _ _ _ _ _ _ _ _ _ _ _
      | exact ih3 _ _ _ _ _ _ _ _ _ _ _
      | exact musterref09_Three.mono _ _ _ _
      | exact LeO.none _
      | refine LeO.ite ?_ ?_
      | refine LeO.bind ?_ (fun _ => ?_)
    · intro y0 y1 y2 y3 y4 y5 y6 y7 y8 y9 y10
      unfold musterref09_FixCheck.l0
      repeat' first
      | (with_reducible exact ih0 _ _ _ _ _ _ _ _)
      | (with_reducible exact ih1 _ _ _ _ _ _ _ _ _ _)
      | (with_reducible exact ih2 _ _ _ _ _ _ _ _ _ _ _)
      | (with_reducible exact ih3 _ _ _ _ _ _ _ _ _ _ _)
      | (with_reducible exact musterref09_Three.mono _ _ _ _)
      | (with_reducible exact LeO.refl _)
      | (with_reducible exact LeO.none _)
      | (with_reducible refine LeO.ite ?_ ?_)
      | (with_reducible refine LeO.bind ?_ (fun _ => ?_))
      | exact ih0 _ _ _ _ _ _ _ _
      | exact ih1 _ _ _ _ _ _ _ _ _ _
      | exact ih2 _ _ _ _ _ _ _ _ _ _ _
      | exact ih3 _ _ _ _ _ _ _ _ _ _ _
      | exact musterref09_Three.mono _ _ _ _
      | exact LeO.none _
      | refine LeO.ite ?_ ?_
      | refine LeO.bind ?_ (fun _ => ?_)
theorem musterref09_FixCheck.mono : ∀ a0 a1 a2 a3 a4 a5 a6 k, LeO (musterref09_FixCheck.f k a0 a1 a2 a3 a4 a5 a6) (musterref09_FixCheck.f (k + 1) a0 a1 a2 a3 a4 a5 a6) := by
  intro a0 a1 a2 a3 a4 a5 a6 k
  obtain ⟨ih0, ih1, ih2, ih3⟩ := musterref09_FixCheck.mono_l k
  unfold musterref09_FixCheck.f
  repeat' first
      | (with_reducible exact ih0 _ _ _ _ _ _ _ _)
      | (with_reducible exact ih1 _ _ _ _ _ _ _ _ _ _)
      | (with_reducible exact ih2 _ _ _ _ _ _ _ _ _ _ _)
      | (with_reducible exact ih3 _ _ _ _ _ _ _ _ _ _ _)
      | (with_reducible exact musterref09_Three.mono _ _ _ _)
      | (with_reducible exact LeO.refl _)
      | (with_reducible exact LeO.none _)
      | (with_reducible refine LeO.ite ?_ ?_)
      | (with_reducible refine LeO.bind ?_ (fun _ => ?_))
      | exact ih0 _ _ _ _ _ _ _ _
      | exact ih1 _ _ _ _ _ _ _ _ _ _
      | exact ih2 _ _ _ _ _ _ _ _ _ _ _
      | exact ih3 _ _ _ _ _ _ _ _ _ _ _
      | exact musterref09_Three.mono _ _ _ _
      | exact LeO.none _
      | refine LeO.ite ?_ ?_
      | refine LeO.bind ?_ (fun _ => ?_)
set_option maxHeartbeats 8000000 in
set_option maxRecDepth 100000 in
theorem musterref09_FixCheck.calls (k : Nat) (a0_0 : ByteArray) (a0_1 : ByteArray) (a0_2 : ByteArray) (a0_3 : Int) (a0_4 : ByteArray) (a0_5 : Int) (a0_6 : Int) (r1 : ByteArray) (r2 : ByteArray) (r3 : ByteArray) (r4 : Int) (r5 : ByteArray) (r6 : Int) (r7 : Int) (r8 : Int) (w : World) (h : musterref09_FixCheck.f k a0_0 a0_1 a0_2 a0_3 a0_4 a0_5 a0_6 = some (r1, r2, r3, r4, r5, r6, r7, r8)) :
    Calls Tryd.prog 30 #[.agg #[.string a0_0, .string a0_1, .string a0_2, .int .i64 a0_3, .string a0_4, .int .u64 a0_5, .int .u64 a0_6]] w fun e w' => e = .returned (.tuple #[.agg #[.string r1, .string r2, .string r3, .int .i64 r4, .string r5, .int .u64 r6, .int .u64 r7], .int .i64 r8]) ∧ Below w.heap.size w w' := by
  have hu41 := Tryd.underlying41
  have HB := Aside0.mk (Below.refl w.heap.size w)
  have H : (if a0_2.toList = ([] : List UInt8) then (musterref09_FixCheck.j0 k (⟨#[120]⟩ : ByteArray) a0_0 a0_1 a0_2 a0_3 a0_4 a0_5 a0_6) else (musterref09_FixCheck.j0 k a0_2 a0_0 a0_1 a0_2 a0_3 a0_4 a0_5 a0_6)) = some (r1, r2, r3, r4, r5, r6, r7, r8) := h
  clear h
  have HC2 := Aside0.mk H
  clear H
  go_enter Tryd.func30, Tryd.ntmps30
  go_upto_if 13 with (first | ((with_reducible refine gate_dst (N := 1) rfl ?_); refine box_event ?hg (N := 1) ?hd (cs := #[.string a0_0, .string a0_1, .string a0_2, .int .i64 a0_3, .string a0_4, .int .u64 a0_5, .int .u64 a0_6]) (t := 41) ?hr ?_; (case hd => rfl); (case hg => rfl); (case hr => first | (go_simp; done) | (go_simp; rfl)); intro gb211 hg w3 hbox hb; have n0_ := Aside0.mk (below_step (by repeat (first | (with_reducible first | exact HB.out | apply below_alloc | apply pw_below_drewN | apply below_drew1) | exact HB.out)) hb); have n1_ := Aside0.mk (hbox); have n2_ := Aside0.mk ((by rw [hg]; exact (below_size (by repeat (first | (with_reducible first | exact HB.out | apply below_alloc | apply pw_below_drewN | apply below_drew1) | exact HB.out))) : w.heap.size ≤ gb211)); have n3_ := Aside0.mk ((by rw [hg]; exact (below_size (by repeat (first | (with_reducible first | exact HB.out | apply below_alloc | apply pw_below_drewN | apply below_drew1) | exact HB.out))) : w.heap.size ≤ gb211)); clear HB; have HB := n0_; have BK211 := n1_; have GW211 := n2_; have GE211 := n3_; clear n0_ n1_ n2_ n3_; clear hb hbox hg) | ((with_reducible refine gate_dst (N := 2) rfl ?_); refine box_event ?hg (N := 2) ?hd (cs := #[.string (⟨#[]⟩ : ByteArray), .string (⟨#[]⟩ : ByteArray), .string (⟨#[]⟩ : ByteArray), .int .i64 0, .string (⟨#[]⟩ : ByteArray), .int .u64 0, .int .u64 0]) (t := 41) ?hr ?_; (case hd => rfl); (case hg => rfl); (case hr => first | (go_simp; done) | (go_simp; rfl)); intro gb212 hg w4 hbox hb; have n0_ := Aside0.mk (blk_below (g := gb211) (o := .cells #[.string a0_0, .string a0_1, .string a0_2, .int .i64 a0_3, .string a0_4, .int .u64 a0_5, .int .u64 a0_6] 41 (0, 0)) (by (with_reducible repeat (first | refine blk_drewN ?_ _ | refine blk_drew ?_ | refine blk_alloc ?_ _)); exact BK211.out) hb); have n1_ := Aside0.mk (below_step (by repeat (first | (with_reducible first | exact HB.out | apply below_alloc | apply pw_below_drewN | apply below_drew1 | refine below_set ?_ GE211.out) | exact HB.out)) hb); have n2_ := Aside0.mk (hbox); have n3_ := Aside0.mk ((by rw [hg]; exact (below_size (by repeat (first | (with_reducible first | exact HB.out | apply below_alloc | apply pw_below_drewN | apply below_drew1 | refine below_set ?_ GE211.out) | exact HB.out))) : w.heap.size ≤ gb212)); have n4_ := Aside0.mk ((by rw [hg]; exact (below_size (by repeat (first | (with_reducible first | exact HB.out | apply below_alloc | apply pw_below_drewN | apply below_drew1 | refine below_set ?_ GE211.out) | exact HB.out))) : w.heap.size ≤ gb212)); have n5_ := Aside0.mk ((by rw [hg]; exact Nat.ne_of_lt (blk_lt (g := gb211) (o := .cells #[.string a0_0, .string a0_1, .string a0_2, .int .i64 a0_3, .string a0_4, .int .u64 a0_5, .int .u64 a0_6] 41 (0, 0)) (by (with_reducible repeat (first | refine blk_drewN ?_ _ | refine blk_drew ?_ | refine blk_alloc ?_ _)); exact BK211.out)) : gb211 ≠ gb212)); have n6_ := Aside0.mk ((by rw [hg]; exact Nat.ne_of_gt (blk_lt (g := gb211) (o := .cells #[.string a0_0, .string a0_1, .string a0_2, .int .i64 a0_3, .string a0_4, .int .u64 a0_5, .int .u64 a0_6] 41 (0, 0)) (by (with_reducible repeat (first | refine blk_drewN ?_ _ | refine blk_drew ?_ | refine blk_alloc ?_ _)); exact BK211.out)) : gb212 ≠ gb211)); clear BK211; clear HB; have BK211 := n0_; have HB := n1_; have BK212 := n2_; have GW212 := n3_; have GE212 := n4_; have NB211_212 := n5_; have NB212_211 := n6_; clear n0_ n1_ n2_ n3_ n4_ n5_ n6_; clear hb hbox hg; have hnb5 := NB211_212.out; have hnc5 := NB212_211.out; have hcz6_0 : w4.cell? ⟨gb211, 0, none⟩ = some (.string a0_0) := (blk_cell BK211.out 0).trans rfl; have hcz6_1 : w4.cell? ⟨gb211, 1, none⟩ = some (.string a0_1) := (blk_cell BK211.out 1).trans rfl; have hcz6_2 : w4.cell? ⟨gb211, 2, none⟩ = some (.string a0_2) := (blk_cell BK211.out 2).trans rfl; have hcz6_3 : w4.cell? ⟨gb211, 3, none⟩ = some (.int .i64 a0_3) := (blk_cell BK211.out 3).trans rfl; have hcz6_4 : w4.cell? ⟨gb211, 4, none⟩ = some (.string a0_4) := (blk_cell BK211.out 4).trans rfl; have hcz6_5 : w4.cell? ⟨gb211, 5, none⟩ = some (.int .u64 a0_5) := (blk_cell BK211.out 5).trans rfl; have hcz6_6 : w4.cell? ⟨gb211, 6, none⟩ = some (.int .u64 a0_6) := (blk_cell BK211.out 6).trans rfl; have hfz6_0 := blk_frozen BK211.out 0; have hfz6_1 := blk_frozen BK211.out 1; have hfz6_2 := blk_frozen BK211.out 2; have hfz6_3 := blk_frozen BK211.out 3; have hfz6_4 := blk_frozen BK211.out 4; have hfz6_5 := blk_frozen BK211.out 5; have hfz6_6 := blk_frozen BK211.out 6))
  (try simp only [Act.put, List.setIfInBounds_toArray, List.set_cons_zero, List.set_cons_succ])
  go_cut [4] (fun v4 wc => ∃ (kq : Nat) (x4_1 : ByteArray), v4 = .string x4_1 ∧ Aside0 (musterref09_FixCheck.j0 kq x4_1 a0_0 a0_1 a0_2 a0_3 a0_4 a0_5 a0_6 = some (r1, r2, r3, r4, r5, r6, r7, r8)) ∧ Aside0 (kq ≤ k) ∧ Aside0 (wc.heap[gb211]? = some (.cells #[.string a0_0, .string a0_1, .string a0_2, .int .i64 a0_3, .string a0_4, .int .u64 a0_5, .int .u64 a0_6] 41 (0, 0))) ∧ Aside0 (wc.heap[gb212]? = some (.cells #[.string (⟨#[]⟩ : ByteArray), .string (⟨#[]⟩ : ByteArray), .string (⟨#[]⟩ : ByteArray), .int .i64 0, .string (⟨#[]⟩ : ByteArray), .int .u64 0, .int .u64 0] 41 (0, 0))) ∧ Aside0 (Below w.heap.size w wc))
  case first =>
    have H := HC2.out
    clear HC2
    by_cases c7 : a0_2.toList = ([] : List UInt8)
    · rw [if_pos c7] at H
      have c7b0 : (a0_2.toList == ([] : List UInt8)) = true := beq_iff_eq.mpr c7
      have c7b1 : (a0_2.toList != ([] : List UInt8)) = false := bne_eq_false_iff_eq.mpr c7
      clear c7
      (first | rw [c7b0] | rw [ie_t c7b0] | rw [ie_f c7b0] | (simp only [i64_w, i32_w]; rw [c7b0]) | skip)
      have H' := Aside0.mk H
      clear H
      go_wp2
      go_meet
      case rel => exact ⟨_, ((⟨#[120]⟩ : ByteArray)), (by first | rfl | (simp; done) | (simp [*]; done)), H', ⟨by first | omega | exact Nat.le_refl _⟩, ⟨by (with_reducible repeat (first | refine blk_drewN ?_ _ | refine blk_drew ?_ | refine blk_alloc ?_ _)); exact BK211.out⟩, ⟨by (with_reducible repeat (first | refine blk_drewN ?_ _ | refine blk_drew ?_ | refine blk_alloc ?_ _)); exact BK212.out⟩, ⟨by repeat (first | (with_reducible first | exact HB.out | apply below_alloc | apply pw_below_drewN | apply below_drew1 | refine below_set ?_ GE211.out | refine below_set ?_ GE212.out) | exact HB.out)⟩⟩
    · rw [if_neg c7] at H
      have c7b0 : (a0_2.toList == ([] : List UInt8)) = false := beq_eq_false_iff_ne.mpr c7
      have c7b1 : (a0_2.toList != ([] : List UInt8)) = true := bne_iff_ne.mpr c7
      (first | rw [c7b0] | rw [ie_t c7b0] | rw [ie_f c7b0] | (simp only [i64_w, i32_w]; rw [c7b0]) | skip)
      have H' := Aside0.mk H
      clear H
      go_wp2
      go_meet
      case rel => exact ⟨_, (a0_2), (by first | rfl | (simp; done) | (simp [*]; done)), H', ⟨by first | omega | exact Nat.le_refl _⟩, ⟨by (with_reducible repeat (first | refine blk_drewN ?_ _ | refine blk_drew ?_ | refine blk_alloc ?_ _)); exact BK211.out⟩, ⟨by (with_reducible repeat (first | refine blk_drewN ?_ _ | refine blk_drew ?_ | refine blk_alloc ?_ _)); exact BK212.out⟩, ⟨by repeat (first | (with_reducible first | exact HB.out | apply below_alloc | apply pw_below_drewN | apply below_drew1 | refine below_set ?_ GE211.out | refine below_set ?_ GE212.out) | exact HB.out)⟩⟩
  case rest =>
    clear HC2
    try clear p2
    try clear c3
    try clear c5
    try clear c7
    try clear c7b0
    try clear c7b1
    try clear hcz6_0
    try clear hcz6_1
    try clear hcz6_2
    try clear hcz6_3
    try clear hcz6_4
    try clear hcz6_5
    try clear hcz6_6
    try clear hfz6_0
    try clear hfz6_1
    try clear hfz6_2
    try clear hfz6_3
    try clear hfz6_4
    try clear hfz6_5
    try clear hfz6_6
    obtain ⟨kq, x4_1, rfl, HA, HJ1, BK211, BK212, HB⟩ := hcut
    cases kq with
    | zero => exact absurd HA.out (by simp [musterref09_FixCheck.j0])
    | succ kj1 =>
      have H := HA.out
      clear HA
      simp only [musterref09_FixCheck.j0] at H
      replace H := Option.bind_eq_some_iff.mp H
      obtain ⟨⟨t213, t214, t215, t216⟩, A80, H⟩ := H
      replace H : (if t216 = 0 then (if a0_2.toList = ([] : List UInt8) then (musterref09_FixCheck.j1 kj1 t213 t214 (⟨#[]⟩ : ByteArray) a0_0 a0_1 a0_2 a0_3 a0_4 a0_5 a0_6) else (musterref09_FixCheck.j1 kj1 t213 t214 t215 a0_0 a0_1 a0_2 a0_3 a0_4 a0_5 a0_6)) else (some ((⟨#[]⟩ : ByteArray), (⟨#[]⟩ : ByteArray), (⟨#[]⟩ : ByteArray), 0, (⟨#[]⟩ : ByteArray), 0, 0, t216))) = some (r1, r2, r3, r4, r5, r6, r7, r8) := H
      have A8 := Aside0.mk A80
      clear A80
      by_cases c9 : t216 = 0
      · rw [if_pos c9] at H
        have c9b0 : (t216 == 0) = true := beq_iff_eq.mpr c9
        have c9b1 : (t216 != 0) = false := bne_eq_false_iff_eq.mpr c9
        clear c9
        have HC10 := Aside0.mk H
        clear H
        have hnb11 := NB211_212.out
        have hnc11 := NB212_211.out
        have hcz12_0 : wc.cell? ⟨gb211, 0, none⟩ = some (.string a0_0) := (blk_cell BK211.out 0).trans rfl
        have hcz12_1 : wc.cell? ⟨gb211, 1, none⟩ = some (.string a0_1) := (blk_cell BK211.out 1).trans rfl
        have hcz12_2 : wc.cell? ⟨gb211, 2, none⟩ = some (.string a0_2) := (blk_cell BK211.out 2).trans rfl
        have hcz12_3 : wc.cell? ⟨gb211, 3, none⟩ = some (.int .i64 a0_3) := (blk_cell BK211.out 3).trans rfl
        have hcz12_4 : wc.cell? ⟨gb211, 4, none⟩ = some (.string a0_4) := (blk_cell BK211.out 4).trans rfl
        have hcz12_5 : wc.cell? ⟨gb211, 5, none⟩ = some (.int .u64 a0_5) := (blk_cell BK211.out 5).trans rfl
        have hcz12_6 : wc.cell? ⟨gb211, 6, none⟩ = some (.int .u64 a0_6) := (blk_cell BK211.out 6).trans rfl
        have hfz12_0 := blk_frozen BK211.out 0
        have hfz12_1 := blk_frozen BK211.out 1
        have hfz12_2 := blk_frozen BK211.out 2
        have hfz12_3 := blk_frozen BK211.out 3
        have hfz12_4 := blk_frozen BK211.out 4
        have hfz12_5 := blk_frozen BK211.out 5
        have hfz12_6 := blk_frozen BK211.out 6
        go_upto_if 31 with (first | ((with_reducible refine gate_callee (f := 58) rfl ?_); refine goesL_ (some 20) rfl rfl Tryd.func58 (by kernel_rfl) rfl #[.string a0_0, .string a0_1, .string x4_1] rfl (by (try simp only [List.map_toArray, List.map_cons, List.map_nil]); first | done | rfl | (simp only [List.length_drop, List.length_take]; rfl)) ?_; (with_reducible refine (musterref09_Three.calls kj1 a0_0 a0_1 x4_1 t213 t214 t215 t216 _ A8.out).mono ?_); rintro e w13 ⟨rfl, hb⟩; refine ⟨_, rfl, ?_⟩; have n0_ := Aside0.mk (blk_below (g := gb211) (o := .cells #[.string a0_0, .string a0_1, .string a0_2, .int .i64 a0_3, .string a0_4, .int .u64 a0_5, .int .u64 a0_6] 41 (0, 0)) (by (with_reducible repeat (first | refine blk_drewN ?_ _ | refine blk_drew ?_ | refine blk_alloc ?_ _)); exact BK211.out) hb); have n1_ := Aside0.mk (blk_below (g := gb212) (o := .cells #[.string (⟨#[]⟩ : ByteArray), .string (⟨#[]⟩ : ByteArray), .string (⟨#[]⟩ : ByteArray), .int .i64 0, .string (⟨#[]⟩ : ByteArray), .int .u64 0, .int .u64 0] 41 (0, 0)) (by (with_reducible repeat (first | refine blk_drewN ?_ _ | refine blk_drew ?_ | refine blk_alloc ?_ _)); exact BK212.out) hb); have n2_ := Aside0.mk (below_step (by repeat (first | (with_reducible first | exact HB.out | apply below_alloc | apply pw_below_drewN | apply below_drew1 | refine below_set ?_ GE211.out | refine below_set ?_ GE212.out) | exact HB.out)) hb); clear BK211; clear BK212; clear HB; have BK211 := n0_; have BK212 := n1_; have HB := n2_; clear n0_ n1_ n2_; (try clear hb); (try clear hb2); (try clear hk); (try clear hi); have hcz14_0 : w13.cell? ⟨gb211, 0, none⟩ = some (.string a0_0) := (blk_cell BK211.out 0).trans rfl; have hcz14_1 : w13.cell? ⟨gb211, 1, none⟩ = some (.string a0_1) := (blk_cell BK211.out 1).trans rfl; have hcz14_2 : w13.cell? ⟨gb211, 2, none⟩ = some (.string a0_2) := (blk_cell BK211.out 2).trans rfl; have hcz14_3 : w13.cell? ⟨gb211, 3, none⟩ = some (.int .i64 a0_3) := (blk_cell BK211.out 3).trans rfl; have hcz14_4 : w13.cell? ⟨gb211, 4, none⟩ = some (.string a0_4) := (blk_cell BK211.out 4).trans rfl; have hcz14_5 : w13.cell? ⟨gb211, 5, none⟩ = some (.int .u64 a0_5) := (blk_cell BK211.out 5).trans rfl; have hcz14_6 : w13.cell? ⟨gb211, 6, none⟩ = some (.int .u64 a0_6) := (blk_cell BK211.out 6).trans rfl; have hfz14_0 := blk_frozen BK211.out 0; have hfz14_1 := blk_frozen BK211.out 1; have hfz14_2 := blk_frozen BK211.out 2; have hfz14_3 := blk_frozen BK211.out 3; have hfz14_4 := blk_frozen BK211.out 4; have hfz14_5 := blk_frozen BK211.out 5; have hfz14_6 := blk_frozen BK211.out 6))
        (try simp only [Act.put, List.setIfInBounds_toArray, List.set_cons_zero, List.set_cons_succ])
        go_cut [7] (fun v7 wc => ∃ (kq : Nat) (x7_9 : ByteArray), v7 = .string x7_9 ∧ Aside0 (musterref09_FixCheck.j1 kq t213 t214 x7_9 a0_0 a0_1 a0_2 a0_3 a0_4 a0_5 a0_6 = some (r1, r2, r3, r4, r5, r6, r7, r8)) ∧ Aside0 (kq ≤ kj1) ∧ Aside0 (wc.heap[gb211]? = some (.cells #[.string a0_0, .string a0_1, .string a0_2, .int .i64 a0_3, .string a0_4, .int .u64 a0_5, .int .u64 a0_6] 41 (0, 0))) ∧ Aside0 (wc.heap[gb212]? = some (.cells #[.string (⟨#[]⟩ : ByteArray), .string (⟨#[]⟩ : ByteArray), .string (⟨#[]⟩ : ByteArray), .int .i64 0, .string (⟨#[]⟩ : ByteArray), .int .u64 0, .int .u64 0] 41 (0, 0))) ∧ Aside0 (Below w.heap.size w wc))
        case first =>
          have H := HC10.out
          clear HC10
          by_cases c15 : a0_2.toList = ([] : List UInt8)
          · rw [if_pos c15] at H
            have c15b0 : (a0_2.toList == ([] : List UInt8)) = true := beq_iff_eq.mpr c15
            have c15b1 : (a0_2.toList != ([] : List UInt8)) = false := bne_eq_false_iff_eq.mpr c15
            clear c15
            (first | rw [c15b0] | rw [ie_t c15b0] | rw [ie_f c15b0] | (simp only [i64_w, i32_w]; rw [c15b0]) | skip)
            have H' := Aside0.mk H
            clear H
            go_wp2
            go_meet
            case rel => exact ⟨_, ((⟨#[]⟩ : ByteArray)), (by first | rfl | (simp; done) | (simp [*]; done)), H', ⟨by have := HJ1.out; first | omega | exact Nat.le_refl _⟩, ⟨by (with_reducible repeat (first | refine blk_drewN ?_ _ | refine blk_drew ?_ | refine blk_alloc ?_ _)); exact BK211.out⟩, ⟨by (with_reducible repeat (first | refine blk_drewN ?_ _ | refine blk_drew ?_ | refine blk_alloc ?_ _)); exact BK212.out⟩, ⟨by repeat (first | (with_reducible first | exact HB.out | apply below_alloc | apply pw_below_drewN | apply below_drew1 | refine below_set ?_ GE211.out | refine below_set ?_ GE212.out) | exact HB.out)⟩⟩
          · rw [if_neg c15] at H
            have c15b0 : (a0_2.toList == ([] : List UInt8)) = false := beq_eq_false_iff_ne.mpr c15
            have c15b1 : (a0_2.toList != ([] : List UInt8)) = true := bne_iff_ne.mpr c15
            (first | rw [c15b0] | rw [ie_t c15b0] | rw [ie_f c15b0] | (simp only [i64_w, i32_w]; rw [c15b0]) | skip)
            have H' := Aside0.mk H
            clear H
            go_wp2
            go_meet
            case rel => exact ⟨_, (t215), (by first | rfl | (simp; done) | (simp [*]; done)), H', ⟨by have := HJ1.out; first | omega | exact Nat.le_refl _⟩, ⟨by (with_reducible repeat (first | refine blk_drewN ?_ _ | refine blk_drew ?_ | refine blk_alloc ?_ _)); exact BK211.out⟩, ⟨by (with_reducible repeat (first | refine blk_drewN ?_ _ | refine blk_drew ?_ | refine blk_alloc ?_ _)); exact BK212.out⟩, ⟨by repeat (first | (with_reducible first | exact HB.out | apply below_alloc | apply pw_below_drewN | apply below_drew1 | refine below_set ?_ GE211.out | refine below_set ?_ GE212.out) | exact HB.out)⟩⟩
        case rest =>
          clear HC10
          try clear c1
          try clear p2
          try clear c3
          try clear c5
          try clear c7
          try clear c7b0
          try clear c7b1
          try clear c9
          try clear c9b0
          try clear c9b1
          try clear c11
          try clear c15
          try clear c15b0
          try clear c15b1
          try clear hcz12_0
          try clear hcz12_1
          try clear hcz12_2
          try clear hcz12_3
          try clear hcz12_4
          try clear hcz12_5
          try clear hcz12_6
          try clear hcz14_0
          try clear hcz14_1
          try clear hcz14_2
          try clear hcz14_3
          try clear hcz14_4
          try clear hcz14_5
          try clear hcz14_6
          try clear hcz6_0
          try clear hcz6_1
          try clear hcz6_2
          try clear hcz6_3
          try clear hcz6_4
          try clear hcz6_5
          try clear hcz6_6
          try clear hfz12_0
          try clear hfz12_1
          try clear hfz12_2
          try clear hfz12_3
          try clear hfz12_4
          try clear hfz12_5
          try clear hfz12_6
          try clear hfz14_0
          try clear hfz14_1
          try clear hfz14_2
          try clear hfz14_3
          try clear hfz14_4
          try clear hfz14_5
          try clear hfz14_6
          try clear hfz6_0
          try clear hfz6_1
          try clear hfz6_2
          try clear hfz6_3
          try clear hfz6_4
          try clear hfz6_5
          try clear hfz6_6
          try clear p2
          obtain ⟨kq, x7_9, rfl, HA, HJ9, BK211, BK212, HB⟩ := hcut
          cases kq with
          | zero => exact absurd HA.out (by simp [musterref09_FixCheck.j1])
          | succ kj9 =>
            have H := HA.out
            clear HA
            simp only [musterref09_FixCheck.j1] at H
            have HC16 := Aside0.mk H
            clear H
            go_upto_region 9 with (fail)
            go_cut [44] (fun v44 wc => ∃ (kq : Nat) (x44_15 : Bool), v44 = .bool x44_15 ∧ Aside0 (musterref09_FixCheck.j2 kq t213 t214 x7_9 x44_15 a0_0 a0_1 a0_2 a0_3 a0_4 a0_5 a0_6 = some (r1, r2, r3, r4, r5, r6, r7, r8)) ∧ Aside0 (kq ≤ kj9) ∧ Aside0 (wc.heap[gb211]? = some (.cells #[.string a0_0, .string a0_1, .string a0_2, .int .i64 a0_3, .string a0_4, .int .u64 a0_5, .int .u64 a0_6] 41 (0, 0))) ∧ Aside0 (wc.heap[gb212]? = some (.cells #[.string (⟨#[]⟩ : ByteArray), .string (⟨#[]⟩ : ByteArray), .string (⟨#[]⟩ : ByteArray), .int .i64 0, .string (⟨#[]⟩ : ByteArray), .int .u64 0, .int .u64 0] 41 (0, 0))) ∧ Aside0 (Below w.heap.size w wc))
            case first =>
              have H := HC16.out
              clear HC16
              by_cases c17 : a0_3 = 1
              · rw [if_pos c17] at H
                have c17b0 : (a0_3 == 1) = true := beq_iff_eq.mpr c17
                have c17b1 : (a0_3 != 1) = false := bne_eq_false_iff_eq.mpr c17
                clear c17
                (first | rw [c17b0] | (simp only [i64_w, i32_w]; rw [c17b0]) | skip)
                have H' := Aside0.mk H
                clear H
                have hnb18 := NB211_212.out
                have hnc18 := NB212_211.out
                have hcz19_0 : wc.cell? ⟨gb211, 0, none⟩ = some (.string a0_0) := (blk_cell BK211.out 0).trans rfl
                have hcz19_1 : wc.cell? ⟨gb211, 1, none⟩ = some (.string a0_1) := (blk_cell BK211.out 1).trans rfl
                have hcz19_2 : wc.cell? ⟨gb211, 2, none⟩ = some (.string a0_2) := (blk_cell BK211.out 2).trans rfl
                have hcz19_3 : wc.cell? ⟨gb211, 3, none⟩ = some (.int .i64 a0_3) := (blk_cell BK211.out 3).trans rfl
                have hcz19_4 : wc.cell? ⟨gb211, 4, none⟩ = some (.string a0_4) := (blk_cell BK211.out 4).trans rfl
                have hcz19_5 : wc.cell? ⟨gb211, 5, none⟩ = some (.int .u64 a0_5) := (blk_cell BK211.out 5).trans rfl
                have hcz19_6 : wc.cell? ⟨gb211, 6, none⟩ = some (.int .u64 a0_6) := (blk_cell BK211.out 6).trans rfl
                have hfz19_0 := blk_frozen BK211.out 0
                have hfz19_1 := blk_frozen BK211.out 1
                have hfz19_2 := blk_frozen BK211.out 2
                have hfz19_3 := blk_frozen BK211.out 3
                have hfz19_4 := blk_frozen BK211.out 4
                have hfz19_5 := blk_frozen BK211.out 5
                have hfz19_6 := blk_frozen BK211.out 6
                go_wp2
                go_meet
                case rel => exact ⟨_, (false), (by first | rfl | (simp; done) | (simp [*]; done)), H', ⟨by have := HJ1.out; have := HJ9.out; first | omega | exact Nat.le_refl _⟩, ⟨by (with_reducible repeat (first | refine blk_drewN ?_ _ | refine blk_drew ?_ | refine blk_alloc ?_ _)); exact BK211.out⟩, ⟨by (with_reducible repeat (first | refine blk_drewN ?_ _ | refine blk_drew ?_ | refine blk_alloc ?_ _)); exact BK212.out⟩, ⟨by repeat (first | (with_reducible first | exact HB.out | apply below_alloc | apply pw_below_drewN | apply below_drew1 | refine below_set ?_ GE211.out | refine below_set ?_ GE212.out) | exact HB.out)⟩⟩
              · rw [if_neg c17] at H
                have c17b0 : (a0_3 == 1) = false := beq_eq_false_iff_ne.mpr c17
                have c17b1 : (a0_3 != 1) = true := bne_iff_ne.mpr c17
                (first | rw [c17b0] | (simp only [i64_w, i32_w]; rw [c17b0]) | skip)
                by_cases c20 : a0_3 = 2
                · rw [if_pos c20] at H
                  have c20b0 : (a0_3 == 2) = true := beq_iff_eq.mpr c20
                  have c20b1 : (a0_3 != 2) = false := bne_eq_false_iff_eq.mpr c20
                  clear c20
                  have H' := Aside0.mk H
                  clear H
                  have hnb21 := NB211_212.out
                  have hnc21 := NB212_211.out
                  have hcz22_0 : wc.cell? ⟨gb211, 0, none⟩ = some (.string a0_0) := (blk_cell BK211.out 0).trans rfl
                  have hcz22_1 : wc.cell? ⟨gb211, 1, none⟩ = some (.string a0_1) := (blk_cell BK211.out 1).trans rfl
                  have hcz22_2 : wc.cell? ⟨gb211, 2, none⟩ = some (.string a0_2) := (blk_cell BK211.out 2).trans rfl
                  have hcz22_3 : wc.cell? ⟨gb211, 3, none⟩ = some (.int .i64 a0_3) := (blk_cell BK211.out 3).trans rfl
                  have hcz22_4 : wc.cell? ⟨gb211, 4, none⟩ = some (.string a0_4) := (blk_cell BK211.out 4).trans rfl
                  have hcz22_5 : wc.cell? ⟨gb211, 5, none⟩ = some (.int .u64 a0_5) := (blk_cell BK211.out 5).trans rfl
                  have hcz22_6 : wc.cell? ⟨gb211, 6, none⟩ = some (.int .u64 a0_6) := (blk_cell BK211.out 6).trans rfl
                  have hfz22_0 := blk_frozen BK211.out 0
                  have hfz22_1 := blk_frozen BK211.out 1
                  have hfz22_2 := blk_frozen BK211.out 2
                  have hfz22_3 := blk_frozen BK211.out 3
                  have hfz22_4 := blk_frozen BK211.out 4
                  have hfz22_5 := blk_frozen BK211.out 5
                  have hfz22_6 := blk_frozen BK211.out 6
                  go_wp2
                  go_meet
                  case rel => exact ⟨_, (false), (by first | rfl | (simp; done) | (simp [*]; done)), H', ⟨by have := HJ1.out; have := HJ9.out; first | omega | exact Nat.le_refl _⟩, ⟨by (with_reducible repeat (first | refine blk_drewN ?_ _ | refine blk_drew ?_ | refine blk_alloc ?_ _)); exact BK211.out⟩, ⟨by (with_reducible repeat (first | refine blk_drewN ?_ _ | refine blk_drew ?_ | refine blk_alloc ?_ _)); exact BK212.out⟩, ⟨by repeat (first | (with_reducible first | exact HB.out | apply below_alloc | apply pw_below_drewN | apply below_drew1 | refine below_set ?_ GE211.out | refine below_set ?_ GE212.out) | exact HB.out)⟩⟩
                · rw [if_neg c20] at H
                  have c20b0 : (a0_3 == 2) = false := beq_eq_false_iff_ne.mpr c20
                  have c20b1 : (a0_3 != 2) = true := bne_iff_ne.mpr c20
                  have H' := Aside0.mk H
                  clear H
                  have hnb23 := NB211_212.out
                  have hnc23 := NB212_211.out
                  have hcz24_0 : wc.cell? ⟨gb211, 0, none⟩ = some (.string a0_0) := (blk_cell BK211.out 0).trans rfl
                  have hcz24_1 : wc.cell? ⟨gb211, 1, none⟩ = some (.string a0_1) := (blk_cell BK211.out 1).trans rfl
                  have hcz24_2 : wc.cell? ⟨gb211, 2, none⟩ = some (.string a0_2) := (blk_cell BK211.out 2).trans rfl
                  have hcz24_3 : wc.cell? ⟨gb211, 3, none⟩ = some (.int .i64 a0_3) := (blk_cell BK211.out 3).trans rfl
                  have hcz24_4 : wc.cell? ⟨gb211, 4, none⟩ = some (.string a0_4) := (blk_cell BK211.out 4).trans rfl
                  have hcz24_5 : wc.cell? ⟨gb211, 5, none⟩ = some (.int .u64 a0_5) := (blk_cell BK211.out 5).trans rfl
                  have hcz24_6 : wc.cell? ⟨gb211, 6, none⟩ = some (.int .u64 a0_6) := (blk_cell BK211.out 6).trans rfl
                  have hfz24_0 := blk_frozen BK211.out 0
                  have hfz24_1 := blk_frozen BK211.out 1
                  have hfz24_2 := blk_frozen BK211.out 2
                  have hfz24_3 := blk_frozen BK211.out 3
                  have hfz24_4 := blk_frozen BK211.out 4
                  have hfz24_5 := blk_frozen BK211.out 5
                  have hfz24_6 := blk_frozen BK211.out 6
                  go_wp2
                  go_meet
                  case rel => exact ⟨_, ((a0_3 != 3)), (by first | rfl | (simp; done) | (simp [*]; done)), H', ⟨by have := HJ1.out; have := HJ9.out; first | omega | exact Nat.le_refl _⟩, ⟨by (with_reducible repeat (first | refine blk_drewN ?_ _ | refine blk_drew ?_ | refine blk_alloc ?_ _)); exact BK211.out⟩, ⟨by (with_reducible repeat (first | refine blk_drewN ?_ _ | refine blk_drew ?_ | refine blk_alloc ?_ _)); exact BK212.out⟩, ⟨by repeat (first | (with_reducible first | exact HB.out | apply below_alloc | apply pw_below_drewN | apply below_drew1 | refine below_set ?_ GE211.out | refine below_set ?_ GE212.out) | exact HB.out)⟩⟩
            case rest =>
              clear HC16
              try clear c1
              try clear c2
              try clear p2
              try clear c3
              try clear c5
              try clear c7
              try clear c7b0
              try clear c7b1
              try clear c9
              try clear c9b0
              try clear c9b1
              try clear c11
              try clear c15
              try clear c15b0
              try clear c15b1
              try clear c17
              try clear c17b0
              try clear c17b1
              try clear c18
              try clear c20
              try clear c20b0
              try clear c20b1
              try clear c21
              try clear c23
              try clear hcz12_0
              try clear hcz12_1
              try clear hcz12_2
              try clear hcz12_3
              try clear hcz12_4
              try clear hcz12_5
              try clear hcz12_6
              try clear hcz14_0
              try clear hcz14_1
              try clear hcz14_2
              try clear hcz14_3
              try clear hcz14_4
              try clear hcz14_5
              try clear hcz14_6
              try clear hcz19_0
              try clear hcz19_1
              try clear hcz19_2
              try clear hcz19_3
              try clear hcz19_4
              try clear hcz19_5
              try clear hcz19_6
              try clear hcz22_0
              try clear hcz22_1
              try clear hcz22_2
              try clear hcz22_3
              try clear hcz22_4
              try clear hcz22_5
              try clear hcz22_6
              try clear hcz24_0
              try clear hcz24_1
              try clear hcz24_2
              try clear hcz24_3
              try clear hcz24_4
              try clear hcz24_5
              try clear hcz24_6
              try clear hcz6_0
              try clear hcz6_1
              try clear hcz6_2
              try clear hcz6_3
              try clear hcz6_4
              try clear hcz6_5
              try clear hcz6_6
              try clear hfz12_0
              try clear hfz12_1
              try clear hfz12_2
              try clear hfz12_3
              try clear hfz12_4
              try clear hfz12_5
              try clear hfz12_6
              try clear hfz14_0
              try clear hfz14_1
              try clear hfz14_2
              try clear hfz14_3
              try clear hfz14_4
              try clear hfz14_5
              try clear hfz14_6
              try clear hfz19_0
              try clear hfz19_1
              try clear hfz19_2
              try clear hfz19_3
              try clear hfz19_4
              try clear hfz19_5
              try clear hfz19_6
              try clear hfz22_0
              try clear hfz22_1
              try clear hfz22_2
              try clear hfz22_3
              try clear hfz22_4
              try clear hfz22_5
              try clear hfz22_6
              try clear hfz24_0
              try clear hfz24_1
              try clear hfz24_2
              try clear hfz24_3
              try clear hfz24_4
              try clear hfz24_5
              try clear hfz24_6
              try clear hfz6_0
              try clear hfz6_1
              try clear hfz6_2
              try clear hfz6_3
              try clear hfz6_4
              try clear hfz6_5
              try clear hfz6_6
              try clear p2
              obtain ⟨kq, x44_15, rfl, HA, HJ15, BK211, BK212, HB⟩ := hcut
              cases kq with
              | zero => exact absurd HA.out (by simp [musterref09_FixCheck.j2])
              | succ kj15 =>
                have H := HA.out
                clear HA
                simp only [musterref09_FixCheck.j2] at H
                by_cases c25 : x44_15 = true
                · subst c25
                  have H1 : (some ((⟨#[]⟩ : ByteArray), (⟨#[]⟩ : ByteArray), (⟨#[]⟩ : ByteArray), 0, (⟨#[]⟩ : ByteArray), 0, 0, 94)) = some (r1, r2, r3, r4, r5, r6, r7, r8) := by rw [if_pos rfl] at H; exact H
                  clear H
                  have H := H1
                  clear H1
                  simp only [Option.some.injEq, Prod.mk.injEq] at H
                  obtain ⟨rfl, rfl, rfl, rfl, rfl, rfl, rfl, rfl⟩ := H
                  have hnb26 := NB212_211.out
                  have hnc26 := NB211_212.out
                  have hcz27_0 : wc.cell? ⟨gb212, 0, none⟩ = some (.string (⟨#[]⟩ : ByteArray)) := (blk_cell BK212.out 0).trans rfl
                  have hcz27_1 : wc.cell? ⟨gb212, 1, none⟩ = some (.string (⟨#[]⟩ : ByteArray)) := (blk_cell BK212.out 1).trans rfl
                  have hcz27_2 : wc.cell? ⟨gb212, 2, none⟩ = some (.string (⟨#[]⟩ : ByteArray)) := (blk_cell BK212.out 2).trans rfl
                  have hcz27_3 : wc.cell? ⟨gb212, 3, none⟩ = some (.int .i64 0) := (blk_cell BK212.out 3).trans rfl
                  have hcz27_4 : wc.cell? ⟨gb212, 4, none⟩ = some (.string (⟨#[]⟩ : ByteArray)) := (blk_cell BK212.out 4).trans rfl
                  have hcz27_5 : wc.cell? ⟨gb212, 5, none⟩ = some (.int .u64 0) := (blk_cell BK212.out 5).trans rfl
                  have hcz27_6 : wc.cell? ⟨gb212, 6, none⟩ = some (.int .u64 0) := (blk_cell BK212.out 6).trans rfl
                  have hfz27_0 := blk_frozen BK212.out 0
                  have hfz27_1 := blk_frozen BK212.out 1
                  have hfz27_2 := blk_frozen BK212.out 2
                  have hfz27_3 := blk_frozen BK212.out 3
                  have hfz27_4 := blk_frozen BK212.out 4
                  have hfz27_5 := blk_frozen BK212.out 5
                  have hfz27_6 := blk_frozen BK212.out 6
                  go_wp2
                  refine bodyPost_ret (results_ct rfl _ _ gb212 41 #[.string (⟨#[]⟩ : ByteArray), .string (⟨#[]⟩ : ByteArray), .string (⟨#[]⟩ : ByteArray), .int .i64 0, .string (⟨#[]⟩ : ByteArray), .int .u64 0, .int .u64 0] (0, 0) _ rfl (by (with_reducible repeat (first | refine blk_drewN ?_ _ | refine blk_drew ?_ | refine blk_alloc ?_ _)); refine blk_put (cs := #[.string (⟨#[]⟩ : ByteArray), .string (⟨#[]⟩ : ByteArray), .string (⟨#[]⟩ : ByteArray), .int .i64 0, .string (⟨#[]⟩ : ByteArray), .int .u64 0, .int .u64 0]) ?_ 6 _ rfl; (with_reducible repeat (first | refine blk_drewN ?_ _ | refine blk_drew ?_ | refine blk_alloc ?_ _)); refine blk_put (cs := #[.string (⟨#[]⟩ : ByteArray), .string (⟨#[]⟩ : ByteArray), .string (⟨#[]⟩ : ByteArray), .int .i64 0, .string (⟨#[]⟩ : ByteArray), .int .u64 0, .int .u64 0]) ?_ 5 _ rfl; (with_reducible repeat (first | refine blk_drewN ?_ _ | refine blk_drew ?_ | refine blk_alloc ?_ _)); refine blk_put (cs := #[.string (⟨#[]⟩ : ByteArray), .string (⟨#[]⟩ : ByteArray), .string (⟨#[]⟩ : ByteArray), .int .i64 0, .string (⟨#[]⟩ : ByteArray), .int .u64 0, .int .u64 0]) ?_ 4 _ rfl; (with_reducible repeat (first | refine blk_drewN ?_ _ | refine blk_drew ?_ | refine blk_alloc ?_ _)); refine blk_put (cs := #[.string (⟨#[]⟩ : ByteArray), .string (⟨#[]⟩ : ByteArray), .string (⟨#[]⟩ : ByteArray), .int .i64 0, .string (⟨#[]⟩ : ByteArray), .int .u64 0, .int .u64 0]) ?_ 3 _ rfl; (with_reducible repeat (first | refine blk_drewN ?_ _ | refine blk_drew ?_ | refine blk_alloc ?_ _)); refine blk_put (cs := #[.string (⟨#[]⟩ : ByteArray), .string (⟨#[]⟩ : ByteArray), .string (⟨#[]⟩ : ByteArray), .int .i64 0, .string (⟨#[]⟩ : ByteArray), .int .u64 0, .int .u64 0]) ?_ 2 _ rfl; (with_reducible repeat (first | refine blk_drewN ?_ _ | refine blk_drew ?_ | refine blk_alloc ?_ _)); refine blk_put (cs := #[.string (⟨#[]⟩ : ByteArray), .string (⟨#[]⟩ : ByteArray), .string (⟨#[]⟩ : ByteArray), .int .i64 0, .string (⟨#[]⟩ : ByteArray), .int .u64 0, .int .u64 0]) ?_ 1 _ rfl; (with_reducible repeat (first | refine blk_drewN ?_ _ | refine blk_drew ?_ | refine blk_alloc ?_ _)); refine blk_put (cs := #[.string (⟨#[]⟩ : ByteArray), .string (⟨#[]⟩ : ByteArray), .string (⟨#[]⟩ : ByteArray), .int .i64 0, .string (⟨#[]⟩ : ByteArray), .int .u64 0, .int .u64 0]) ?_ 0 _ rfl; (with_reducible repeat (first | refine blk_drewN ?_ _ | refine blk_drew ?_ | refine blk_alloc ?_ _)); exact BK212.out) Tryd.underlying41 rfl (by kernel_rfl)) rfl ?_
                  exact ⟨by first | rfl | (simp [errW_none, errW_some] <;> rfl) | (simp [*, errW_none, errW_some] <;> rfl), by repeat (first | (with_reducible first | exact HB.out | apply below_alloc | apply pw_below_drewN | apply below_drew1 | refine below_set ?_ GE211.out | refine below_set ?_ GE212.out) | exact HB.out)⟩
                · replace c25 := Bool.eq_false_iff.mpr c25
                  subst c25
                  have H1 : (if (a0_4.size : Int) > 200 then (some ((⟨#[]⟩ : ByteArray), (⟨#[]⟩ : ByteArray), (⟨#[]⟩ : ByteArray), 0, (⟨#[]⟩ : ByteArray), 0, 0, 95)) else (musterref09_FixCheck.l0 kj15 t213 t214 x7_9 0 a0_0 a0_1 a0_2 a0_3 a0_4 a0_5 a0_6)) = some (r1, r2, r3, r4, r5, r6, r7, r8) := by rw [if_neg (show ¬ (false = true) by decide)] at H; exact H
                  clear H
                  have H := H1
                  clear H1
                  by_cases c28 : (a0_4.size : Int) > 200
                  · rw [if_pos c28] at H
                    have c28b0 : decide (200 < (a0_4.size : Int)) = true := decide_eq_true c28
                    have c28b1 : decide (200 < a0_4.size) = true := decide_eq_true (by omega)
                    clear c28
                    simp only [Option.some.injEq, Prod.mk.injEq] at H
                    obtain ⟨rfl, rfl, rfl, rfl, rfl, rfl, rfl, rfl⟩ := H
                    have hnb29 := NB211_212.out
                    have hnc29 := NB212_211.out
                    have hcz30_0 : wc.cell? ⟨gb211, 0, none⟩ = some (.string a0_0) := (blk_cell BK211.out 0).trans rfl
                    have hcz30_1 : wc.cell? ⟨gb211, 1, none⟩ = some (.string a0_1) := (blk_cell BK211.out 1).trans rfl
                    have hcz30_2 : wc.cell? ⟨gb211, 2, none⟩ = some (.string a0_2) := (blk_cell BK211.out 2).trans rfl
                    have hcz30_3 : wc.cell? ⟨gb211, 3, none⟩ = some (.int .i64 a0_3) := (blk_cell BK211.out 3).trans rfl
                    have hcz30_4 : wc.cell? ⟨gb211, 4, none⟩ = some (.string a0_4) := (blk_cell BK211.out 4).trans rfl
                    have hcz30_5 : wc.cell? ⟨gb211, 5, none⟩ = some (.int .u64 a0_5) := (blk_cell BK211.out 5).trans rfl
                    have hcz30_6 : wc.cell? ⟨gb211, 6, none⟩ = some (.int .u64 a0_6) := (blk_cell BK211.out 6).trans rfl
                    have hfz30_0 := blk_frozen BK211.out 0
                    have hfz30_1 := blk_frozen BK211.out 1
                    have hfz30_2 := blk_frozen BK211.out 2
                    have hfz30_3 := blk_frozen BK211.out 3
                    have hfz30_4 := blk_frozen BK211.out 4
                    have hfz30_5 := blk_frozen BK211.out 5
                    have hfz30_6 := blk_frozen BK211.out 6
                    have hcz31_0 : wc.cell? ⟨gb212, 0, none⟩ = some (.string (⟨#[]⟩ : ByteArray)) := (blk_cell BK212.out 0).trans rfl
                    have hcz31_1 : wc.cell? ⟨gb212, 1, none⟩ = some (.string (⟨#[]⟩ : ByteArray)) := (blk_cell BK212.out 1).trans rfl
                    have hcz31_2 : wc.cell? ⟨gb212, 2, none⟩ = some (.string (⟨#[]⟩ : ByteArray)) := (blk_cell BK212.out 2).trans rfl
                    have hcz31_3 : wc.cell? ⟨gb212, 3, none⟩ = some (.int .i64 0) := (blk_cell BK212.out 3).trans rfl
                    have hcz31_4 : wc.cell? ⟨gb212, 4, none⟩ = some (.string (⟨#[]⟩ : ByteArray)) := (blk_cell BK212.out 4).trans rfl
                    have hcz31_5 : wc.cell? ⟨gb212, 5, none⟩ = some (.int .u64 0) := (blk_cell BK212.out 5).trans rfl
                    have hcz31_6 : wc.cell? ⟨gb212, 6, none⟩ = some (.int .u64 0) := (blk_cell BK212.out 6).trans rfl
                    have hfz31_0 := blk_frozen BK212.out 0
                    have hfz31_1 := blk_frozen BK212.out 1
                    have hfz31_2 := blk_frozen BK212.out 2
                    have hfz31_3 := blk_frozen BK212.out 3
                    have hfz31_4 := blk_frozen BK212.out 4
                    have hfz31_5 := blk_frozen BK212.out 5
                    have hfz31_6 := blk_frozen BK212.out 6
                    go_wp2
                    refine bodyPost_ret (results_ct rfl _ _ gb212 41 #[.string (⟨#[]⟩ : ByteArray), .string (⟨#[]⟩ : ByteArray), .string (⟨#[]⟩ : ByteArray), .int .i64 0, .string (⟨#[]⟩ : ByteArray), .int .u64 0, .int .u64 0] (0, 0) _ rfl (by (with_reducible repeat (first | refine blk_drewN ?_ _ | refine blk_drew ?_ | refine blk_alloc ?_ _)); refine blk_put (cs := #[.string (⟨#[]⟩ : ByteArray), .string (⟨#[]⟩ : ByteArray), .string (⟨#[]⟩ : ByteArray), .int .i64 0, .string (⟨#[]⟩ : ByteArray), .int .u64 0, .int .u64 0]) ?_ 6 _ rfl; (with_reducible repeat (first | refine blk_drewN ?_ _ | refine blk_drew ?_ | refine blk_alloc ?_ _)); refine blk_put (cs := #[.string (⟨#[]⟩ : ByteArray), .string (⟨#[]⟩ : ByteArray), .string (⟨#[]⟩ : ByteArray), .int .i64 0, .string (⟨#[]⟩ : ByteArray), .int .u64 0, .int .u64 0]) ?_ 5 _ rfl; (with_reducible repeat (first | refine blk_drewN ?_ _ | refine blk_drew ?_ | refine blk_alloc ?_ _)); refine blk_put (cs := #[.string (⟨#[]⟩ : ByteArray), .string (⟨#[]⟩ : ByteArray), .string (⟨#[]⟩ : ByteArray), .int .i64 0, .string (⟨#[]⟩ : ByteArray), .int .u64 0, .int .u64 0]) ?_ 4 _ rfl; (with_reducible repeat (first | refine blk_drewN ?_ _ | refine blk_drew ?_ | refine blk_alloc ?_ _)); refine blk_put (cs := #[.string (⟨#[]⟩ : ByteArray), .string (⟨#[]⟩ : ByteArray), .string (⟨#[]⟩ : ByteArray), .int .i64 0, .string (⟨#[]⟩ : ByteArray), .int .u64 0, .int .u64 0]) ?_ 3 _ rfl; (with_reducible repeat (first | refine blk_drewN ?_ _ | refine blk_drew ?_ | refine blk_alloc ?_ _)); refine blk_put (cs := #[.string (⟨#[]⟩ : ByteArray), .string (⟨#[]⟩ : ByteArray), .string (⟨#[]⟩ : ByteArray), .int .i64 0, .string (⟨#[]⟩ : ByteArray), .int .u64 0, .int .u64 0]) ?_ 2 _ rfl; (with_reducible repeat (first | refine blk_drewN ?_ _ | refine blk_drew ?_ | refine blk_alloc ?_ _)); refine blk_put (cs := #[.string (⟨#[]⟩ : ByteArray), .string (⟨#[]⟩ : ByteArray), .string (⟨#[]⟩ : ByteArray), .int .i64 0, .string (⟨#[]⟩ : ByteArray), .int .u64 0, .int .u64 0]) ?_ 1 _ rfl; (with_reducible repeat (first | refine blk_drewN ?_ _ | refine blk_drew ?_ | refine blk_alloc ?_ _)); refine blk_put (cs := #[.string (⟨#[]⟩ : ByteArray), .string (⟨#[]⟩ : ByteArray), .string (⟨#[]⟩ : ByteArray), .int .i64 0, .string (⟨#[]⟩ : ByteArray), .int .u64 0, .int .u64 0]) ?_ 0 _ rfl; (with_reducible repeat (first | refine blk_drewN ?_ _ | refine blk_drew ?_ | refine blk_alloc ?_ _)); exact BK212.out) Tryd.underlying41 rfl (by kernel_rfl)) rfl ?_
                    exact ⟨by first | rfl | (simp [errW_none, errW_some] <;> rfl) | (simp [*, errW_none, errW_some] <;> rfl), by repeat (first | (with_reducible first | exact HB.out | apply below_alloc | apply pw_below_drewN | apply below_drew1 | refine below_set ?_ GE211.out | refine below_set ?_ GE212.out) | exact HB.out)⟩
                  · rw [if_neg c28] at H
                    have c28b0 : decide (200 < (a0_4.size : Int)) = false := decide_eq_false c28
                    have c28b1 : decide (200 < a0_4.size) = false := decide_eq_false (by omega)
                    clear c28
                    have H' := Aside0.mk H
                    clear H
                    have hnb32 := NB211_212.out
                    have hnc32 := NB212_211.out
                    have hcz33_0 : wc.cell? ⟨gb211, 0, none⟩ = some (.string a0_0) := (blk_cell BK211.out 0).trans rfl
                    have hcz33_1 : wc.cell? ⟨gb211, 1, none⟩ = some (.string a0_1) := (blk_cell BK211.out 1).trans rfl
                    have hcz33_2 : wc.cell? ⟨gb211, 2, none⟩ = some (.string a0_2) := (blk_cell BK211.out 2).trans rfl
                    have hcz33_3 : wc.cell? ⟨gb211, 3, none⟩ = some (.int .i64 a0_3) := (blk_cell BK211.out 3).trans rfl
                    have hcz33_4 : wc.cell? ⟨gb211, 4, none⟩ = some (.string a0_4) := (blk_cell BK211.out 4).trans rfl
                    have hcz33_5 : wc.cell? ⟨gb211, 5, none⟩ = some (.int .u64 a0_5) := (blk_cell BK211.out 5).trans rfl
                    have hcz33_6 : wc.cell? ⟨gb211, 6, none⟩ = some (.int .u64 a0_6) := (blk_cell BK211.out 6).trans rfl
                    have hfz33_0 := blk_frozen BK211.out 0
                    have hfz33_1 := blk_frozen BK211.out 1
                    have hfz33_2 := blk_frozen BK211.out 2
                    have hfz33_3 := blk_frozen BK211.out 3
                    have hfz33_4 := blk_frozen BK211.out 4
                    have hfz33_5 := blk_frozen BK211.out 5
                    have hfz33_6 := blk_frozen BK211.out 6
                    go_wp2
                    go_loopg [9] kj15 (fun kq v9 w' => ∃ (x9_4 : Int) (x213000_4 : ByteArray) (x213001_4 : ByteArray) (x213002_4 : ByteArray) (x213003_4 : Int) (x213004_4 : ByteArray) (x213005_4 : Int) (x213006_4 : Int), v9 = .int .i64 x9_4 ∧ Aside0 (musterref09_FixCheck.l0 kq t213 t214 x7_9 x9_4 a0_0 a0_1 a0_2 a0_3 a0_4 a0_5 a0_6 = some (r1, r2, r3, r4, r5, r6, r7, r8)) ∧ Aside0 (kq ≤ kj15) ∧ Aside0 (w'.heap[gb211]? = some (.cells #[.string a0_0, .string a0_1, .string a0_2, .int .i64 a0_3, .string a0_4, .int .u64 a0_5, .int .u64 a0_6] 41 (0, 0))) ∧ Aside0 (w'.heap[gb212]? = some (.cells #[.string x213000_4, .string x213001_4, .string x213002_4, .int .i64 x213003_4, .string x213004_4, .int .u64 x213005_4, .int .u64 x213006_4] 41 (0, 0))) ∧ Aside0 (Below w.heap.size w w'))
                    case atStart => exact ⟨(0), ((⟨#[]⟩ : ByteArray)), ((⟨#[]⟩ : ByteArray)), ((⟨#[]⟩ : ByteArray)), (0), ((⟨#[]⟩ : ByteArray)), (0), (0), (by first | rfl | (simp; done) | (simp [*]; done)), H', ⟨Nat.le_refl _⟩, ⟨by (with_reducible repeat (first | refine blk_drewN ?_ _ | refine blk_drew ?_ | refine blk_alloc ?_ _)); exact BK211.out⟩, ⟨by (with_reducible repeat (first | refine blk_drewN ?_ _ | refine blk_drew ?_ | refine blk_alloc ?_ _)); exact BK212.out⟩, ⟨by repeat (first | (with_reducible first | exact HB.out | apply below_alloc | apply pw_below_drewN | apply below_drew1 | refine below_set ?_ GE211.out | refine below_set ?_ GE212.out) | exact HB.out)⟩⟩
                    case round =>
                      clear H'
                      try clear c1
                      try clear c2
                      try clear p2
                      try clear c3
                      try clear c5
                      try clear c7
                      try clear c7b0
                      try clear c7b1
                      try clear c9
                      try clear c9b0
                      try clear c9b1
                      try clear c11
                      try clear c15
                      try clear c15b0
                      try clear c15b1
                      try clear c17
                      try clear c17b0
                      try clear c17b1
                      try clear c18
                      try clear c20
                      try clear c20b0
                      try clear c20b1
                      try clear c21
                      try clear c23
                      try clear c25
                      try clear c26
                      try clear c28
                      try clear c28b0
                      try clear c28b1
                      try clear c29
                      try clear c30
                      try clear c32
                      try clear hcz12_0
                      try clear hcz12_1
                      try clear hcz12_2
                      try clear hcz12_3
                      try clear hcz12_4
                      try clear hcz12_5
                      try clear hcz12_6
                      try clear hcz14_0
                      try clear hcz14_1
                      try clear hcz14_2
                      try clear hcz14_3
                      try clear hcz14_4
                      try clear hcz14_5
                      try clear hcz14_6
                      try clear hcz19_0
                      try clear hcz19_1
                      try clear hcz19_2
                      try clear hcz19_3
                      try clear hcz19_4
                      try clear hcz19_5
                      try clear hcz19_6
                      try clear hcz22_0
                      try clear hcz22_1
                      try clear hcz22_2
                      try clear hcz22_3
                      try clear hcz22_4
                      try clear hcz22_5
                      try clear hcz22_6
                      try clear hcz24_0
                      try clear hcz24_1
                      try clear hcz24_2
                      try clear hcz24_3
                      try clear hcz24_4
                      try clear hcz24_5
                      try clear hcz24_6
                      try clear hcz27_0
                      try clear hcz27_1
                      try clear hcz27_2
                      try clear hcz27_3
                      try clear hcz27_4
                      try clear hcz27_5
                      try clear hcz27_6
                      try clear hcz30_0
                      try clear hcz30_1
                      try clear hcz30_2
                      try clear hcz30_3
                      try clear hcz30_4
                      try clear hcz30_5
                      try clear hcz30_6
                      try clear hcz31_0
                      try clear hcz31_1
                      try clear hcz31_2
                      try clear hcz31_3
                      try clear hcz31_4
                      try clear hcz31_5
                      try clear hcz31_6
                      try clear hcz33_0
                      try clear hcz33_1
                      try clear hcz33_2
                      try clear hcz33_3
                      try clear hcz33_4
                      try clear hcz33_5
                      try clear hcz33_6
                      try clear hcz6_0
                      try clear hcz6_1
                      try clear hcz6_2
                      try clear hcz6_3
                      try clear hcz6_4
                      try clear hcz6_5
                      try clear hcz6_6
                      try clear hfz12_0
                      try clear hfz12_1
                      try clear hfz12_2
                      try clear hfz12_3
                      try clear hfz12_4
                      try clear hfz12_5
                      try clear hfz12_6
                      try clear hfz14_0
                      try clear hfz14_1
                      try clear hfz14_2
                      try clear hfz14_3
                      try clear hfz14_4
                      try clear hfz14_5
                      try clear hfz14_6
                      try clear hfz19_0
                      try clear hfz19_1
                      try clear hfz19_2
                      try clear hfz19_3
                      try clear hfz19_4
                      try clear hfz19_5
                      try clear hfz19_6
                      try clear hfz22_0
                      try clear hfz22_1
                      try clear hfz22_2
                      try clear hfz22_3
                      try clear hfz22_4
                      try clear hfz22_5
                      try clear hfz22_6
                      try clear hfz24_0
                      try clear hfz24_1
                      try clear hfz24_2
                      try clear hfz24_3
                      try clear hfz24_4
                      try clear hfz24_5
                      try clear hfz24_6
                      try clear hfz27_0
                      try clear hfz27_1
                      try clear hfz27_2
                      try clear hfz27_3
                      try clear hfz27_4
                      try clear hfz27_5
                      try clear hfz27_6
                      try clear hfz30_0
                      try clear hfz30_1
                      try clear hfz30_2
                      try clear hfz30_3
                      try clear hfz30_4
                      try clear hfz30_5
                      try clear hfz30_6
                      try clear hfz31_0
                      try clear hfz31_1
                      try clear hfz31_2
                      try clear hfz31_3
                      try clear hfz31_4
                      try clear hfz31_5
                      try clear hfz31_6
                      try clear hfz33_0
                      try clear hfz33_1
                      try clear hfz33_2
                      try clear hfz33_3
                      try clear hfz33_4
                      try clear hfz33_5
                      try clear hfz33_6
                      try clear hfz6_0
                      try clear hfz6_1
                      try clear hfz6_2
                      try clear hfz6_3
                      try clear hfz6_4
                      try clear hfz6_5
                      try clear hfz6_6
                      try clear p2
                      obtain ⟨x9_4, x213000_4, x213001_4, x213002_4, x213003_4, x213004_4, x213005_4, x213006_4, rfl, HA, HK4, BK211, BK212, HB⟩ := hrel
                      cases gk with
                      | zero => exact absurd HA.out (by simp [musterref09_FixCheck.l0])
                      | succ k4 =>
                        have H := HA.out
                        clear HA
                        simp only [musterref09_FixCheck.l0] at H
                        by_cases c34 : x9_4 < (a0_4.size : Int)
                        · rw [if_pos c34] at H
                          have c34b0 : decide (x9_4 < (a0_4.size : Int)) = true := decide_eq_true c34
                          clear c34
                          by_cases c35 : 0 ≤ x9_4
                          · rw [if_pos c35] at H
                            have c35b0 : decide (0 ≤ x9_4) = true := decide_eq_true c35
                            clear c35
                            by_cases c37 : (bt a0_4 x9_4) < 32
                            · rw [if_pos c37] at H
                              have c37b0 : decide ((bt a0_4 x9_4) < 32) = true := decide_eq_true c37
                              clear c37
                              simp only [Option.some.injEq, Prod.mk.injEq] at H
                              obtain ⟨rfl, rfl, rfl, rfl, rfl, rfl, rfl, rfl⟩ := H
                              have hnb38 := NB211_212.out
                              have hnc38 := NB212_211.out
                              have hcz39_0 : wr.cell? ⟨gb211, 0, none⟩ = some (.string a0_0) := (blk_cell BK211.out 0).trans rfl
                              have hcz39_1 : wr.cell? ⟨gb211, 1, none⟩ = some (.string a0_1) := (blk_cell BK211.out 1).trans rfl
                              have hcz39_2 : wr.cell? ⟨gb211, 2, none⟩ = some (.string a0_2) := (blk_cell BK211.out 2).trans rfl
                              have hcz39_3 : wr.cell? ⟨gb211, 3, none⟩ = some (.int .i64 a0_3) := (blk_cell BK211.out 3).trans rfl
                              have hcz39_4 : wr.cell? ⟨gb211, 4, none⟩ = some (.string a0_4) := (blk_cell BK211.out 4).trans rfl
                              have hcz39_5 : wr.cell? ⟨gb211, 5, none⟩ = some (.int .u64 a0_5) := (blk_cell BK211.out 5).trans rfl
                              have hcz39_6 : wr.cell? ⟨gb211, 6, none⟩ = some (.int .u64 a0_6) := (blk_cell BK211.out 6).trans rfl
                              have hfz39_0 := blk_frozen BK211.out 0
                              have hfz39_1 := blk_frozen BK211.out 1
                              have hfz39_2 := blk_frozen BK211.out 2
                              have hfz39_3 := blk_frozen BK211.out 3
                              have hfz39_4 := blk_frozen BK211.out 4
                              have hfz39_5 := blk_frozen BK211.out 5
                              have hfz39_6 := blk_frozen BK211.out 6
                              have p36 : 0 ≤ (x9_4 : Int) := of_decide_eq_true (by first | (with_reducible assumption) | assumption)
                              have q36 : x9_4 < (a0_4.size : Int) := of_decide_eq_true (by first | (with_reducible assumption) | assumption)
                              have hx36 := bt_at a0_4 x9_4
                              replace p36 := eq_true p36
                              replace q36 := eq_true q36
                              have hcz40_0 : wr.cell? ⟨gb212, 0, none⟩ = some (.string x213000_4) := (blk_cell BK212.out 0).trans rfl
                              have hcz40_1 : wr.cell? ⟨gb212, 1, none⟩ = some (.string x213001_4) := (blk_cell BK212.out 1).trans rfl
                              have hcz40_2 : wr.cell? ⟨gb212, 2, none⟩ = some (.string x213002_4) := (blk_cell BK212.out 2).trans rfl
                              have hcz40_3 : wr.cell? ⟨gb212, 3, none⟩ = some (.int .i64 x213003_4) := (blk_cell BK212.out 3).trans rfl
                              have hcz40_4 : wr.cell? ⟨gb212, 4, none⟩ = some (.string x213004_4) := (blk_cell BK212.out 4).trans rfl
                              have hcz40_5 : wr.cell? ⟨gb212, 5, none⟩ = some (.int .u64 x213005_4) := (blk_cell BK212.out 5).trans rfl
                              have hcz40_6 : wr.cell? ⟨gb212, 6, none⟩ = some (.int .u64 x213006_4) := (blk_cell BK212.out 6).trans rfl
                              have hfz40_0 := blk_frozen BK212.out 0
                              have hfz40_1 := blk_frozen BK212.out 1
                              have hfz40_2 := blk_frozen BK212.out 2
                              have hfz40_3 := blk_frozen BK212.out 3
                              have hfz40_4 := blk_frozen BK212.out 4
                              have hfz40_5 := blk_frozen BK212.out 5
                              have hfz40_6 := blk_frozen BK212.out 6
                              go_wp2
                              refine bodyPost_ret (results_ct rfl _ _ gb212 41 #[.string (⟨#[]⟩ : ByteArray), .string (⟨#[]⟩ : ByteArray), .string (⟨#[]⟩ : ByteArray), .int .i64 0, .string (⟨#[]⟩ : ByteArray), .int .u64 0, .int .u64 0] (0, 0) _ rfl (by (with_reducible repeat (first | refine blk_drewN ?_ _ | refine blk_drew ?_ | refine blk_alloc ?_ _)); refine blk_put (cs := #[.string (⟨#[]⟩ : ByteArray), .string (⟨#[]⟩ : ByteArray), .string (⟨#[]⟩ : ByteArray), .int .i64 0, .string (⟨#[]⟩ : ByteArray), .int .u64 0, .int .u64 x213006_4]) ?_ 6 _ rfl; (with_reducible repeat (first | refine blk_drewN ?_ _ | refine blk_drew ?_ | refine blk_alloc ?_ _)); refine blk_put (cs := #[.string (⟨#[]⟩ : ByteArray), .string (⟨#[]⟩ : ByteArray), .string (⟨#[]⟩ : ByteArray), .int .i64 0, .string (⟨#[]⟩ : ByteArray), .int .u64 x213005_4, .int .u64 x213006_4]) ?_ 5 _ rfl; (with_reducible repeat (first | refine blk_drewN ?_ _ | refine blk_drew ?_ | refine blk_alloc ?_ _)); refine blk_put (cs := #[.string (⟨#[]⟩ : ByteArray), .string (⟨#[]⟩ : ByteArray), .string (⟨#[]⟩ : ByteArray), .int .i64 0, .string x213004_4, .int .u64 x213005_4, .int .u64 x213006_4]) ?_ 4 _ rfl; (with_reducible repeat (first | refine blk_drewN ?_ _ | refine blk_drew ?_ | refine blk_alloc ?_ _)); refine blk_put (cs := #[.string (⟨#[]⟩ : ByteArray), .string (⟨#[]⟩ : ByteArray), .string (⟨#[]⟩ : ByteArray), .int .i64 x213003_4, .string x213004_4, .int .u64 x213005_4, .int .u64 x213006_4]) ?_ 3 _ rfl; (with_reducible repeat (first | refine blk_drewN ?_ _ | refine blk_drew ?_ | refine blk_alloc ?_ _)); refine blk_put (cs := #[.string (⟨#[]⟩ : ByteArray), .string (⟨#[]⟩ : ByteArray), .string x213002_4, .int .i64 x213003_4, .string x213004_4, .int .u64 x213005_4, .int .u64 x213006_4]) ?_ 2 _ rfl; (with_reducible repeat (first | refine blk_drewN ?_ _ | refine blk_drew ?_ | refine blk_alloc ?_ _)); refine blk_put (cs := #[.string (⟨#[]⟩ : ByteArray), .string x213001_4, .string x213002_4, .int .i64 x213003_4, .string x213004_4, .int .u64 x213005_4, .int .u64 x213006_4]) ?_ 1 _ rfl; (with_reducible repeat (first | refine blk_drewN ?_ _ | refine blk_drew ?_ | refine blk_alloc ?_ _)); refine blk_put (cs := #[.string x213000_4, .string x213001_4, .string x213002_4, .int .i64 x213003_4, .string x213004_4, .int .u64 x213005_4, .int .u64 x213006_4]) ?_ 0 _ rfl; (with_reducible repeat (first | refine blk_drewN ?_ _ | refine blk_drew ?_ | refine blk_alloc ?_ _)); exact BK212.out) Tryd.underlying41 rfl (by kernel_rfl)) rfl ?_
                              exact ⟨by first | rfl | (simp [errW_none, errW_some] <;> rfl) | (simp [*, errW_none, errW_some] <;> rfl), by repeat (first | (with_reducible first | exact HB.out | apply below_alloc | apply pw_below_drewN | apply below_drew1 | refine below_set ?_ GE211.out | refine below_set ?_ GE212.out) | exact HB.out)⟩
                            · rw [if_neg c37] at H
                              have c37b0 : decide ((bt a0_4 x9_4) < 32) = false := decide_eq_false c37
                              clear c37
                              by_cases c42 : (bt a0_4 x9_4) > 126
                              · rw [if_pos c42] at H
                                have c42b0 : decide (126 < (bt a0_4 x9_4)) = true := decide_eq_true c42
                                clear c42
                                simp only [Option.some.injEq, Prod.mk.injEq] at H
                                obtain ⟨rfl, rfl, rfl, rfl, rfl, rfl, rfl, rfl⟩ := H
                                have hnb43 := NB211_212.out
                                have hnc43 := NB212_211.out
                                have hcz44_0 : wr.cell? ⟨gb211, 0, none⟩ = some (.string a0_0) := (blk_cell BK211.out 0).trans rfl
                                have hcz44_1 : wr.cell? ⟨gb211, 1, none⟩ = some (.string a0_1) := (blk_cell BK211.out 1).trans rfl
                                have hcz44_2 : wr.cell? ⟨gb211, 2, none⟩ = some (.string a0_2) := (blk_cell BK211.out 2).trans rfl
                                have hcz44_3 : wr.cell? ⟨gb211, 3, none⟩ = some (.int .i64 a0_3) := (blk_cell BK211.out 3).trans rfl
                                have hcz44_4 : wr.cell? ⟨gb211, 4, none⟩ = some (.string a0_4) := (blk_cell BK211.out 4).trans rfl
                                have hcz44_5 : wr.cell? ⟨gb211, 5, none⟩ = some (.int .u64 a0_5) := (blk_cell BK211.out 5).trans rfl
                                have hcz44_6 : wr.cell? ⟨gb211, 6, none⟩ = some (.int .u64 a0_6) := (blk_cell BK211.out 6).trans rfl
                                have hfz44_0 := blk_frozen BK211.out 0
                                have hfz44_1 := blk_frozen BK211.out 1
                                have hfz44_2 := blk_frozen BK211.out 2
                                have hfz44_3 := blk_frozen BK211.out 3
                                have hfz44_4 := blk_frozen BK211.out 4
                                have hfz44_5 := blk_frozen BK211.out 5
                                have hfz44_6 := blk_frozen BK211.out 6
                                have p36 : 0 ≤ (x9_4 : Int) := of_decide_eq_true (by first | (with_reducible assumption) | assumption)
                                have q36 : x9_4 < (a0_4.size : Int) := of_decide_eq_true (by first | (with_reducible assumption) | assumption)
                                have hx36 := bt_at a0_4 x9_4
                                replace p36 := eq_true p36
                                replace q36 := eq_true q36
                                have p41 : 0 ≤ (x9_4 : Int) := of_decide_eq_true (by first | (with_reducible assumption) | assumption)
                                have q41 : x9_4 < (a0_4.size : Int) := of_decide_eq_true (by first | (with_reducible assumption) | assumption)
                                have hx41 := bt_at a0_4 x9_4
                                replace p41 := eq_true p41
                                replace q41 := eq_true q41
                                have hcz45_0 : wr.cell? ⟨gb212, 0, none⟩ = some (.string x213000_4) := (blk_cell BK212.out 0).trans rfl
                                have hcz45_1 : wr.cell? ⟨gb212, 1, none⟩ = some (.string x213001_4) := (blk_cell BK212.out 1).trans rfl
                                have hcz45_2 : wr.cell? ⟨gb212, 2, none⟩ = some (.string x213002_4) := (blk_cell BK212.out 2).trans rfl
                                have hcz45_3 : wr.cell? ⟨gb212, 3, none⟩ = some (.int .i64 x213003_4) := (blk_cell BK212.out 3).trans rfl
                                have hcz45_4 : wr.cell? ⟨gb212, 4, none⟩ = some (.string x213004_4) := (blk_cell BK212.out 4).trans rfl
                                have hcz45_5 : wr.cell? ⟨gb212, 5, none⟩ = some (.int .u64 x213005_4) := (blk_cell BK212.out 5).trans rfl
                                have hcz45_6 : wr.cell? ⟨gb212, 6, none⟩ = some (.int .u64 x213006_4) := (blk_cell BK212.out 6).trans rfl
                                have hfz45_0 := blk_frozen BK212.out 0
                                have hfz45_1 := blk_frozen BK212.out 1
                                have hfz45_2 := blk_frozen BK212.out 2
                                have hfz45_3 := blk_frozen BK212.out 3
                                have hfz45_4 := blk_frozen BK212.out 4
                                have hfz45_5 := blk_frozen BK212.out 5
                                have hfz45_6 := blk_frozen BK212.out 6
                                go_wp2
                                refine bodyPost_ret (results_ct rfl _ _ gb212 41 #[.string (⟨#[]⟩ : ByteArray), .string (⟨#[]⟩ : ByteArray), .string (⟨#[]⟩ : ByteArray), .int .i64 0, .string (⟨#[]⟩ : ByteArray), .int .u64 0, .int .u64 0] (0, 0) _ rfl (by (with_reducible repeat (first | refine blk_drewN ?_ _ | refine blk_drew ?_ | refine blk_alloc ?_ _)); refine blk_put (cs := #[.string (⟨#[]⟩ : ByteArray), .string (⟨#[]⟩ : ByteArray), .string (⟨#[]⟩ : ByteArray), .int .i64 0, .string (⟨#[]⟩ : ByteArray), .int .u64 0, .int .u64 x213006_4]) ?_ 6 _ rfl; (with_reducible repeat (first | refine blk_drewN ?_ _ | refine blk_drew ?_ | refine blk_alloc ?_ _)); refine blk_put (cs := #[.string (⟨#[]⟩ : ByteArray), .string (⟨#[]⟩ : ByteArray), .string (⟨#[]⟩ : ByteArray), .int .i64 0, .string (⟨#[]⟩ : ByteArray), .int .u64 x213005_4, .int .u64 x213006_4]) ?_ 5 _ rfl; (with_reducible repeat (first | refine blk_drewN ?_ _ | refine blk_drew ?_ | refine blk_alloc ?_ _)); refine blk_put (cs := #[.string (⟨#[]⟩ : ByteArray), .string (⟨#[]⟩ : ByteArray), .string (⟨#[]⟩ : ByteArray), .int .i64 0, .string x213004_4, .int .u64 x213005_4, .int .u64 x213006_4]) ?_ 4 _ rfl; (with_reducible repeat (first | refine blk_drewN ?_ _ | refine blk_drew ?_ | refine blk_alloc ?_ _)); refine blk_put (cs := #[.string (⟨#[]⟩ : ByteArray), .string (⟨#[]⟩ : ByteArray), .string (⟨#[]⟩ : ByteArray), .int .i64 x213003_4, .string x213004_4, .int .u64 x213005_4, .int .u64 x213006_4]) ?_ 3 _ rfl; (with_reducible repeat (first | refine blk_drewN ?_ _ | refine blk_drew ?_ | refine blk_alloc ?_ _)); refine blk_put (cs := #[.string (⟨#[]⟩ : ByteArray), .string (⟨#[]⟩ : ByteArray), .string x213002_4, .int .i64 x213003_4, .string x213004_4, .int .u64 x213005_4, .int .u64 x213006_4]) ?_ 2 _ rfl; (with_reducible repeat (first | refine blk_drewN ?_ _ | refine blk_drew ?_ | refine blk_alloc ?_ _)); refine blk_put (cs := #[.string (⟨#[]⟩ : ByteArray), .string x213001_4, .string x213002_4, .int .i64 x213003_4, .string x213004_4, .int .u64 x213005_4, .int .u64 x213006_4]) ?_ 1 _ rfl; (with_reducible repeat (first | refine blk_drewN ?_ _ | refine blk_drew ?_ | refine blk_alloc ?_ _)); refine blk_put (cs := #[.string x213000_4, .string x213001_4, .string x213002_4, .int .i64 x213003_4, .string x213004_4, .int .u64 x213005_4, .int .u64 x213006_4]) ?_ 0 _ rfl; (with_reducible repeat (first | refine blk_drewN ?_ _ | refine blk_drew ?_ | refine blk_alloc ?_ _)); exact BK212.out) Tryd.underlying41 rfl (by kernel_rfl)) rfl ?_
                                exact ⟨by first | rfl | (simp [errW_none, errW_some] <;> rfl) | (simp [*, errW_none, errW_some] <;> rfl), by repeat (first | (with_reducible first | exact HB.out | apply below_alloc | apply pw_below_drewN | apply below_drew1 | refine below_set ?_ GE211.out | refine below_set ?_ GE212.out) | exact HB.out)⟩
                              · rw [if_neg c42] at H
                                have c42b0 : decide (126 < (bt a0_4 x9_4)) = false := decide_eq_false c42
                                clear c42
                                have H' := Aside0.mk H
                                clear H
                                have hnb46 := NB211_212.out
                                have hnc46 := NB212_211.out
                                have hcz47_0 : wr.cell? ⟨gb211, 0, none⟩ = some (.string a0_0) := (blk_cell BK211.out 0).trans rfl
                                have hcz47_1 : wr.cell? ⟨gb211, 1, none⟩ = some (.string a0_1) := (blk_cell BK211.out 1).trans rfl
                                have hcz47_2 : wr.cell? ⟨gb211, 2, none⟩ = some (.string a0_2) := (blk_cell BK211.out 2).trans rfl
                                have hcz47_3 : wr.cell? ⟨gb211, 3, none⟩ = some (.int .i64 a0_3) := (blk_cell BK211.out 3).trans rfl
                                have hcz47_4 : wr.cell? ⟨gb211, 4, none⟩ = some (.string a0_4) := (blk_cell BK211.out 4).trans rfl
                                have hcz47_5 : wr.cell? ⟨gb211, 5, none⟩ = some (.int .u64 a0_5) := (blk_cell BK211.out 5).trans rfl
                                have hcz47_6 : wr.cell? ⟨gb211, 6, none⟩ = some (.int .u64 a0_6) := (blk_cell BK211.out 6).trans rfl
                                have hfz47_0 := blk_frozen BK211.out 0
                                have hfz47_1 := blk_frozen BK211.out 1
                                have hfz47_2 := blk_frozen BK211.out 2
                                have hfz47_3 := blk_frozen BK211.out 3
                                have hfz47_4 := blk_frozen BK211.out 4
                                have hfz47_5 := blk_frozen BK211.out 5
                                have hfz47_6 := blk_frozen BK211.out 6
                                have p36 : 0 ≤ (x9_4 : Int) := of_decide_eq_true (by first | (with_reducible assumption) | assumption)
                                have q36 : x9_4 < (a0_4.size : Int) := of_decide_eq_true (by first | (with_reducible assumption) | assumption)
                                have hx36 := bt_at a0_4 x9_4
                                replace p36 := eq_true p36
                                replace q36 := eq_true q36
                                have p41 : 0 ≤ (x9_4 : Int) := of_decide_eq_true (by first | (with_reducible assumption) | assumption)
                                have q41 : x9_4 < (a0_4.size : Int) := of_decide_eq_true (by first | (with_reducible assumption) | assumption)
                                have hx41 := bt_at a0_4 x9_4
                                replace p41 := eq_true p41
                                replace q41 := eq_true q41
                                go_wp2
                                go_roundg k4
                                case measure => have := HJ1.out; have := HJ9.out; have := HJ15.out; have := HK4.out; omega
                                case rel => exact ⟨(wrap64 (x9_4 + 1)), (x213000_4), (x213001_4), (x213002_4), (x213003_4), (x213004_4), (x213005_4), (x213006_4), (by first | rfl | (simp; done) | (simp [*]; done)), H', ⟨by have := HJ1.out; have := HJ9.out; have := HJ15.out; have := HK4.out; omega⟩, ⟨by (with_reducible repeat (first | refine blk_drewN ?_ _ | refine blk_drew ?_ | refine blk_alloc ?_ _)); exact BK211.out⟩, ⟨by (with_reducible repeat (first | refine blk_drewN ?_ _ | refine blk_drew ?_ | refine blk_alloc ?_ _)); exact BK212.out⟩, ⟨by repeat (first | (with_reducible first | exact HB.out | apply below_alloc | apply pw_below_drewN | apply below_drew1 | refine below_set ?_ GE211.out | refine below_set ?_ GE212.out) | exact HB.out)⟩⟩
                          · rw [if_neg c35] at H
                            exact absurd H (by simp)
                        · rw [if_neg c34] at H
                          have c34b0 : decide (x9_4 < (a0_4.size : Int)) = false := decide_eq_false c34
                          clear c34
                          simp only [Option.some.injEq, Prod.mk.injEq] at H
                          obtain ⟨rfl, rfl, rfl, rfl, rfl, rfl, rfl, rfl⟩ := H
                          have hnb48 := NB211_212.out
                          have hnc48 := NB212_211.out
                          have hcz49_0 : wr.cell? ⟨gb211, 0, none⟩ = some (.string a0_0) := (blk_cell BK211.out 0).trans rfl
                          have hcz49_1 : wr.cell? ⟨gb211, 1, none⟩ = some (.string a0_1) := (blk_cell BK211.out 1).trans rfl
                          have hcz49_2 : wr.cell? ⟨gb211, 2, none⟩ = some (.string a0_2) := (blk_cell BK211.out 2).trans rfl
                          have hcz49_3 : wr.cell? ⟨gb211, 3, none⟩ = some (.int .i64 a0_3) := (blk_cell BK211.out 3).trans rfl
                          have hcz49_4 : wr.cell? ⟨gb211, 4, none⟩ = some (.string a0_4) := (blk_cell BK211.out 4).trans rfl
                          have hcz49_5 : wr.cell? ⟨gb211, 5, none⟩ = some (.int .u64 a0_5) := (blk_cell BK211.out 5).trans rfl
                          have hcz49_6 : wr.cell? ⟨gb211, 6, none⟩ = some (.int .u64 a0_6) := (blk_cell BK211.out 6).trans rfl
                          have hfz49_0 := blk_frozen BK211.out 0
                          have hfz49_1 := blk_frozen BK211.out 1
                          have hfz49_2 := blk_frozen BK211.out 2
                          have hfz49_3 := blk_frozen BK211.out 3
                          have hfz49_4 := blk_frozen BK211.out 4
                          have hfz49_5 := blk_frozen BK211.out 5
                          have hfz49_6 := blk_frozen BK211.out 6
                          have hcz50_0 : wr.cell? ⟨gb212, 0, none⟩ = some (.string x213000_4) := (blk_cell BK212.out 0).trans rfl
                          have hcz50_1 : wr.cell? ⟨gb212, 1, none⟩ = some (.string x213001_4) := (blk_cell BK212.out 1).trans rfl
                          have hcz50_2 : wr.cell? ⟨gb212, 2, none⟩ = some (.string x213002_4) := (blk_cell BK212.out 2).trans rfl
                          have hcz50_3 : wr.cell? ⟨gb212, 3, none⟩ = some (.int .i64 x213003_4) := (blk_cell BK212.out 3).trans rfl
                          have hcz50_4 : wr.cell? ⟨gb212, 4, none⟩ = some (.string x213004_4) := (blk_cell BK212.out 4).trans rfl
                          have hcz50_5 : wr.cell? ⟨gb212, 5, none⟩ = some (.int .u64 x213005_4) := (blk_cell BK212.out 5).trans rfl
                          have hcz50_6 : wr.cell? ⟨gb212, 6, none⟩ = some (.int .u64 x213006_4) := (blk_cell BK212.out 6).trans rfl
                          have hfz50_0 := blk_frozen BK212.out 0
                          have hfz50_1 := blk_frozen BK212.out 1
                          have hfz50_2 := blk_frozen BK212.out 2
                          have hfz50_3 := blk_frozen BK212.out 3
                          have hfz50_4 := blk_frozen BK212.out 4
                          have hfz50_5 := blk_frozen BK212.out 5
                          have hfz50_6 := blk_frozen BK212.out 6
                          go_wp2
                          refine bodyPost_ret (results_ct rfl _ _ gb212 41 #[.string t213, .string t214, .string x7_9, .int .i64 a0_3, .string a0_4, .int .u64 0, .int .u64 0] (0, 0) _ rfl (by (with_reducible repeat (first | refine blk_drewN ?_ _ | refine blk_drew ?_ | refine blk_alloc ?_ _)); refine blk_put (cs := #[.string t213, .string t214, .string x7_9, .int .i64 a0_3, .string a0_4, .int .u64 0, .int .u64 x213006_4]) ?_ 6 _ rfl; (with_reducible repeat (first | refine blk_drewN ?_ _ | refine blk_drew ?_ | refine blk_alloc ?_ _)); refine blk_put (cs := #[.string t213, .string t214, .string x7_9, .int .i64 a0_3, .string a0_4, .int .u64 x213005_4, .int .u64 x213006_4]) ?_ 5 _ rfl; (with_reducible repeat (first | refine blk_drewN ?_ _ | refine blk_drew ?_ | refine blk_alloc ?_ _)); refine blk_put (cs := #[.string t213, .string t214, .string x7_9, .int .i64 a0_3, .string x213004_4, .int .u64 x213005_4, .int .u64 x213006_4]) ?_ 4 _ rfl; (with_reducible repeat (first | refine blk_drewN ?_ _ | refine blk_drew ?_ | refine blk_alloc ?_ _)); refine blk_put (cs := #[.string t213, .string t214, .string x7_9, .int .i64 x213003_4, .string x213004_4, .int .u64 x213005_4, .int .u64 x213006_4]) ?_ 3 _ rfl; (with_reducible repeat (first | refine blk_drewN ?_ _ | refine blk_drew ?_ | refine blk_alloc ?_ _)); refine blk_put (cs := #[.string t213, .string t214, .string x213002_4, .int .i64 x213003_4, .string x213004_4, .int .u64 x213005_4, .int .u64 x213006_4]) ?_ 2 _ rfl; (with_reducible repeat (first | refine blk_drewN ?_ _ | refine blk_drew ?_ | refine blk_alloc ?_ _)); refine blk_put (cs := #[.string t213, .string x213001_4, .string x213002_4, .int .i64 x213003_4, .string x213004_4, .int .u64 x213005_4, .int .u64 x213006_4]) ?_ 1 _ rfl; (with_reducible repeat (first | refine blk_drewN ?_ _ | refine blk_drew ?_ | refine blk_alloc ?_ _)); refine blk_put (cs := #[.string x213000_4, .string x213001_4, .string x213002_4, .int .i64 x213003_4, .string x213004_4, .int .u64 x213005_4, .int .u64 x213006_4]) ?_ 0 _ rfl; (with_reducible repeat (first | refine blk_drewN ?_ _ | refine blk_drew ?_ | refine blk_alloc ?_ _)); exact BK212.out) Tryd.underlying41 rfl (by kernel_rfl)) rfl ?_
                          exact ⟨by first | rfl | (simp [errW_none, errW_some] <;> rfl) | (simp [*, errW_none, errW_some] <;> rfl), by repeat (first | (with_reducible first | exact HB.out | apply below_alloc | apply pw_below_drewN | apply below_drew1 | refine below_set ?_ GE211.out | refine below_set ?_ GE212.out) | exact HB.out)⟩
      · rw [if_neg c9] at H
        have c9b0 : (t216 == 0) = false := beq_eq_false_iff_ne.mpr c9
        have c9b1 : (t216 != 0) = true := bne_iff_ne.mpr c9
        simp only [Option.some.injEq, Prod.mk.injEq] at H
        obtain ⟨rfl, rfl, rfl, rfl, rfl, rfl, rfl, rfl⟩ := H
        have hnb51 := NB211_212.out
        have hnc51 := NB212_211.out
        have hcz52_0 : wc.cell? ⟨gb211, 0, none⟩ = some (.string a0_0) := (blk_cell BK211.out 0).trans rfl
        have hcz52_1 : wc.cell? ⟨gb211, 1, none⟩ = some (.string a0_1) := (blk_cell BK211.out 1).trans rfl
        have hcz52_2 : wc.cell? ⟨gb211, 2, none⟩ = some (.string a0_2) := (blk_cell BK211.out 2).trans rfl
        have hcz52_3 : wc.cell? ⟨gb211, 3, none⟩ = some (.int .i64 a0_3) := (blk_cell BK211.out 3).trans rfl
        have hcz52_4 : wc.cell? ⟨gb211, 4, none⟩ = some (.string a0_4) := (blk_cell BK211.out 4).trans rfl
        have hcz52_5 : wc.cell? ⟨gb211, 5, none⟩ = some (.int .u64 a0_5) := (blk_cell BK211.out 5).trans rfl
        have hcz52_6 : wc.cell? ⟨gb211, 6, none⟩ = some (.int .u64 a0_6) := (blk_cell BK211.out 6).trans rfl
        have hfz52_0 := blk_frozen BK211.out 0
        have hfz52_1 := blk_frozen BK211.out 1
        have hfz52_2 := blk_frozen BK211.out 2
        have hfz52_3 := blk_frozen BK211.out 3
        have hfz52_4 := blk_frozen BK211.out 4
        have hfz52_5 := blk_frozen BK211.out 5
        have hfz52_6 := blk_frozen BK211.out 6
        go_wp2_with (first | ((with_reducible refine gate_callee (f := 58) rfl ?_); refine goesL_ (some 20) rfl rfl Tryd.func58 (by kernel_rfl) rfl #[.string a0_0, .string a0_1, .string x4_1] rfl (by (try simp only [List.map_toArray, List.map_cons, List.map_nil]); first | done | rfl | (simp only [List.length_drop, List.length_take]; rfl)) ?_; (with_reducible refine (musterref09_Three.calls kj1 a0_0 a0_1 x4_1 t213 t214 t215 t216 _ A8.out).mono ?_); rintro e w53 ⟨rfl, hb⟩; refine ⟨_, rfl, ?_⟩; have n0_ := Aside0.mk (blk_below (g := gb211) (o := .cells #[.string a0_0, .string a0_1, .string a0_2, .int .i64 a0_3, .string a0_4, .int .u64 a0_5, .int .u64 a0_6] 41 (0, 0)) (by (with_reducible repeat (first | refine blk_drewN ?_ _ | refine blk_drew ?_ | refine blk_alloc ?_ _)); exact BK211.out) hb); have n1_ := Aside0.mk (blk_below (g := gb212) (o := .cells #[.string (⟨#[]⟩ : ByteArray), .string (⟨#[]⟩ : ByteArray), .string (⟨#[]⟩ : ByteArray), .int .i64 0, .string (⟨#[]⟩ : ByteArray), .int .u64 0, .int .u64 0] 41 (0, 0)) (by (with_reducible repeat (first | refine blk_drewN ?_ _ | refine blk_drew ?_ | refine blk_alloc ?_ _)); exact BK212.out) hb); have n2_ := Aside0.mk (below_step (by repeat (first | (with_reducible first | exact HB.out | apply below_alloc | apply pw_below_drewN | apply below_drew1 | refine below_set ?_ GE211.out | refine below_set ?_ GE212.out) | exact HB.out)) hb); clear BK211; clear BK212; clear HB; have BK211 := n0_; have BK212 := n1_; have HB := n2_; clear n0_ n1_ n2_; (try clear hb); (try clear hb2); (try clear hk); (try clear hi); have hcz54_0 : w53.cell? ⟨gb212, 0, none⟩ = some (.string (⟨#[]⟩ : ByteArray)) := (blk_cell BK212.out 0).trans rfl; have hcz54_1 : w53.cell? ⟨gb212, 1, none⟩ = some (.string (⟨#[]⟩ : ByteArray)) := (blk_cell BK212.out 1).trans rfl; have hcz54_2 : w53.cell? ⟨gb212, 2, none⟩ = some (.string (⟨#[]⟩ : ByteArray)) := (blk_cell BK212.out 2).trans rfl; have hcz54_3 : w53.cell? ⟨gb212, 3, none⟩ = some (.int .i64 0) := (blk_cell BK212.out 3).trans rfl; have hcz54_4 : w53.cell? ⟨gb212, 4, none⟩ = some (.string (⟨#[]⟩ : ByteArray)) := (blk_cell BK212.out 4).trans rfl; have hcz54_5 : w53.cell? ⟨gb212, 5, none⟩ = some (.int .u64 0) := (blk_cell BK212.out 5).trans rfl; have hcz54_6 : w53.cell? ⟨gb212, 6, none⟩ = some (.int .u64 0) := (blk_cell BK212.out 6).trans rfl; have hfz54_0 := blk_frozen BK212.out 0; have hfz54_1 := blk_frozen BK212.out 1; have hfz54_2 := blk_frozen BK212.out 2; have hfz54_3 := blk_frozen BK212.out 3; have hfz54_4 := blk_frozen BK212.out 4; have hfz54_5 := blk_frozen BK212.out 5; have hfz54_6 := blk_frozen BK212.out 6))
        refine bodyPost_ret (results_ct rfl _ _ gb212 41 #[.string (⟨#[]⟩ : ByteArray), .string (⟨#[]⟩ : ByteArray), .string (⟨#[]⟩ : ByteArray), .int .i64 0, .string (⟨#[]⟩ : ByteArray), .int .u64 0, .int .u64 0] (0, 0) _ rfl (by (with_reducible repeat (first | refine blk_drewN ?_ _ | refine blk_drew ?_ | refine blk_alloc ?_ _)); refine blk_put (cs := #[.string (⟨#[]⟩ : ByteArray), .string (⟨#[]⟩ : ByteArray), .string (⟨#[]⟩ : ByteArray), .int .i64 0, .string (⟨#[]⟩ : ByteArray), .int .u64 0, .int .u64 0]) ?_ 6 _ rfl; (with_reducible repeat (first | refine blk_drewN ?_ _ | refine blk_drew ?_ | refine blk_alloc ?_ _)); refine blk_put (cs := #[.string (⟨#[]⟩ : ByteArray), .string (⟨#[]⟩ : ByteArray), .string (⟨#[]⟩ : ByteArray), .int .i64 0, .string (⟨#[]⟩ : ByteArray), .int .u64 0, .int .u64 0]) ?_ 5 _ rfl; (with_reducible repeat (first | refine blk_drewN ?_ _ | refine blk_drew ?_ | refine blk_alloc ?_ _)); refine blk_put (cs := #[.string (⟨#[]⟩ : ByteArray), .string (⟨#[]⟩ : ByteArray), .string (⟨#[]⟩ : ByteArray), .int .i64 0, .string (⟨#[]⟩ : ByteArray), .int .u64 0, .int .u64 0]) ?_ 4 _ rfl; (with_reducible repeat (first | refine blk_drewN ?_ _ | refine blk_drew ?_ | refine blk_alloc ?_ _)); refine blk_put (cs := #[.string (⟨#[]⟩ : ByteArray), .string (⟨#[]⟩ : ByteArray), .string (⟨#[]⟩ : ByteArray), .int .i64 0, .string (⟨#[]⟩ : ByteArray), .int .u64 0, .int .u64 0]) ?_ 3 _ rfl; (with_reducible repeat (first | refine blk_drewN ?_ _ | refine blk_drew ?_ | refine blk_alloc ?_ _)); refine blk_put (cs := #[.string (⟨#[]⟩ : ByteArray), .string (⟨#[]⟩ : ByteArray), .string (⟨#[]⟩ : ByteArray), .int .i64 0, .string (⟨#[]⟩ : ByteArray), .int .u64 0, .int .u64 0]) ?_ 2 _ rfl; (with_reducible repeat (first | refine blk_drewN ?_ _ | refine blk_drew ?_ | refine blk_alloc ?_ _)); refine blk_put (cs := #[.string (⟨#[]⟩ : ByteArray), .string (⟨#[]⟩ : ByteArray), .string (⟨#[]⟩ : ByteArray), .int .i64 0, .string (⟨#[]⟩ : ByteArray), .int .u64 0, .int .u64 0]) ?_ 1 _ rfl; (with_reducible repeat (first | refine blk_drewN ?_ _ | refine blk_drew ?_ | refine blk_alloc ?_ _)); refine blk_put (cs := #[.string (⟨#[]⟩ : ByteArray), .string (⟨#[]⟩ : ByteArray), .string (⟨#[]⟩ : ByteArray), .int .i64 0, .string (⟨#[]⟩ : ByteArray), .int .u64 0, .int .u64 0]) ?_ 0 _ rfl; (with_reducible repeat (first | refine blk_drewN ?_ _ | refine blk_drew ?_ | refine blk_alloc ?_ _)); exact BK212.out) Tryd.underlying41 rfl (by kernel_rfl)) rfl ?_
        exact ⟨by first | rfl | (simp [errW_none, errW_some] <;> rfl) | (simp [*, errW_none, errW_some] <;> rfl), by repeat (first | (with_reducible first | exact HB.out | apply below_alloc | apply pw_below_drewN | apply below_drew1 | refine below_set ?_ GE211.out | refine below_set ?_ GE212.out) | exact HB.out)⟩

end Go.Proofs.YtagbpjegdfhmpaaDoor.P
