/- journal.sameOp, by which comparison fails first. -/
import Derived.Test.YtkhgfdlinobabaaGreatDoorJEq
import Derived.Test.YtkhgfdlinobabaaGreatDoorJOp
import Derived.Deep.RegionHeld3
import Derived.Deep.DrawnRows
import Derived.BigRegion
namespace Go.Proofs.YtkhgfdlinobabaaGreatDoor.G
open Go.RowKit
set_option linter.unusedVariables false
set_option linter.unusedSimpArgs false
attribute [local go_sem ↓] Go.wp_at_zero Go.wp_at_succ
set_option maxHeartbeats 4000000 in
set_option maxRecDepth 100000 in
theorem sameOp_7 (k : Int) (nm : ByteArray) (ad : ByteArray) (m1 : Int) (g1 : Int) (nd nd' : ByteArray) (id id' : ByteArray) (sn sn' : ByteArray) (po po' : Int) (m2 m2' : Int) (g2 g2' : Int) (cn cn' : ByteArray) (ci ci' : ByteArray) (cs cs' : ByteArray) (st st' : Int) (nt nt' : ByteArray) (m3 m3' : Int) (g3 g3' : Int) (cas cas' : Bool) (want want' : Int) (l : List ByteArray) (va vb : Value) (hne : cn ≠ cn') (w : World) (ha : TextsAt w va l) (hb : TextsAt w vb l) (hl : l.length ≤ 1048576) :
    Calls Tryz.prog 43 #[.agg #[.int .i64 k, .string nm, .string ad, .int .u64 m1, .int .u64 g1, .string nd, .string id, .string sn, .int .i64 po, va, .int .u64 m2, .int .u64 g2, .string cn, .string ci, .string cs, .int .i64 st, .string nt, .int .u64 m3, .int .u64 g3, .bool cas, .int .u64 want], .agg #[.int .i64 k, .string nm, .string ad, .int .u64 m1, .int .u64 g1, .string nd', .string id', .string sn', .int .i64 po', vb, .int .u64 m2', .int .u64 g2', .string cn', .string ci', .string cs', .int .i64 st', .string nt', .int .u64 m3', .int .u64 g3', .bool cas', .int .u64 want']] w fun e w' => e = .returned (.bool false) ∧ Below w.heap.size w w' := by
  have HA := Lib.hid ha
  have HB := Lib.hid hb
  have Hl := Lib.hid hl
  obtain ⟨A1, p1, rfl, _⟩ := ha
  obtain ⟨A2, p2, rfl, _⟩ := hb
  clear hl
  have Hd := Lib.hid (show decide (l = l) = true from decide_eq_true rfl)
  go_enter Tryz.func43, Tryz.ntmps43
  go_wp2_with (go_at_call 63; refine (equal_b _ _ l l _ ((HA.out.below (below2 w _ _))) (HB.out.below (below2 w _ _)) Hl.out).mono ?_)
  first | rintro e w1 rfl hb1 | rintro e w1 ⟨rfl, hb1⟩
  replace hb1 := hb1.mono (B' := w.heap.size + 1 + 1) (by simp)
  try rw [Hd.out]
  have q1 := (hb1.block w.heap.size (by omega)).trans (blk_old (blk_new w _))
  have r1 := (hb1.block (w.heap.size + 1) (by omega)).trans (alloc2b w _ _)
  have B1 : Below w.heap.size w w1 := (below2 w _ _).trans (hb1.mono (by omega))
  have s1 : w.heap.size + 1 < w1.heap.size := by have := hb1.size; simp at this; omega
  have s2 : w.heap.size < w1.heap.size := by omega
  have HB1 := Lib.hid B1
  clear hb1 B1
  have HQ := Lib.hid q1
  have HR := Lib.hid r1
  have c5 := Blk.cell q1 5
  have d5 := Blk.cell r1 5
  have c6 := Blk.cell q1 6
  have d6 := Blk.cell r1 6
  have c7 := Blk.cell q1 7
  have d7 := Blk.cell r1 7
  have c8 := Blk.cell q1 8
  have d8 := Blk.cell r1 8
  have c9 := Blk.cell q1 9
  have d9 := Blk.cell r1 9
  have c10 := Blk.cell q1 10
  have d10 := Blk.cell r1 10
  have c11 := Blk.cell q1 11
  have d11 := Blk.cell r1 11
  simp only [List.getElem?_toArray, List.getElem?_cons_zero, List.getElem?_cons_succ] at c5 d5 c6 d6 c7 d7 c8 d8 c9 d9 c10 d10 c11 d11
  clear q1 r1
  go_upto_region 2 with fail
  go_cut [0, 1, 6, 7] from 8 (fun s0 s1 s6 s7 wx => ∃ g6 g7, s6 = .pointer (some ⟨g6, 0, none⟩) ∧ s7 = .pointer (some ⟨g7, 0, none⟩) ∧ wx.heap[w.heap.size]? = some (.cells #[.int .i64 k, .string nm, .string ad, .int .u64 m1, .int .u64 g1, .string nd, .string id, .string sn, .int .i64 po, .slice A1 l.length p1, .int .u64 m2, .int .u64 g2, .string cn, .string ci, .string cs, .int .i64 st, .string nt, .int .u64 m3, .int .u64 g3, .bool cas, .int .u64 want] 53 (0, 0)) ∧ wx.heap[w.heap.size + 1]? = some (.cells #[.int .i64 k, .string nm, .string ad, .int .u64 m1, .int .u64 g1, .string nd', .string id', .string sn', .int .i64 po', .slice A2 l.length p2, .int .u64 m2', .int .u64 g2', .string cn', .string ci', .string cs', .int .i64 st', .string nt', .int .u64 m3', .int .u64 g3', .bool cas', .int .u64 want'] 53 (0, 0)) ∧ wx.heap[g6]? = some (.cells #[.string nd, .string id, .string sn, .int .i64 po, .slice A1 l.length p1, .int .u64 m2, .int .u64 g2] 47 (0, 0)) ∧ wx.heap[g7]? = some (.cells #[.string nd', .string id', .string sn', .int .i64 po', .slice A2 l.length p2, .int .u64 m2', .int .u64 g2'] 47 (0, 0)) ∧ Below w.heap.size w wx)
  case first =>
    go_region_held3 (fun w' => w'.cell? ⟨w.heap.size, 5, none⟩ = some (.string nd) ∧ w'.cell? ⟨w.heap.size, 6, none⟩ = some (.string id) ∧ w'.cell? ⟨w.heap.size, 7, none⟩ = some (.string sn) ∧ w'.cell? ⟨w.heap.size, 8, none⟩ = some (.int .i64 po) ∧ w'.cell? ⟨w.heap.size, 9, none⟩ = some (.slice A1 l.length p1) ∧ w'.cell? ⟨w.heap.size, 10, none⟩ = some (.int .u64 m2) ∧ w'.cell? ⟨w.heap.size, 11, none⟩ = some (.int .u64 g2) ∧ w'.cell? ⟨w.heap.size + 1, 5, none⟩ = some (.string nd') ∧ w'.cell? ⟨w.heap.size + 1, 6, none⟩ = some (.string id') ∧ w'.cell? ⟨w.heap.size + 1, 7, none⟩ = some (.string sn') ∧ w'.cell? ⟨w.heap.size + 1, 8, none⟩ = some (.int .i64 po') ∧ w'.cell? ⟨w.heap.size + 1, 9, none⟩ = some (.slice A2 l.length p2) ∧ w'.cell? ⟨w.heap.size + 1, 10, none⟩ = some (.int .u64 m2') ∧ w'.cell? ⟨w.heap.size + 1, 11, none⟩ = some (.int .u64 g2')) (go_keep) (fail)
    all_goals go_wp2_with fail
    all_goals go_meet
    all_goals (case rel => first | exact ⟨_, _, rfl, rfl, blk_old (blk_old HQ.out), blk_old (blk_old HR.out), blk_old (blk_new w1 _), alloc2b w1 _ _, ((HB1.out.alloc (by omega) _).alloc (by simp; omega) _).drew⟩ | exact ⟨_, _, rfl, rfl, blk_old (blk_old HQ.out), blk_old (blk_old HR.out), alloc2b w1 _ _, blk_old (blk_new w1 _), ((HB1.out.alloc (by omega) _).alloc (by simp; omega) _).drew⟩)
  case rest =>
  obtain ⟨g6, g7, rfl, rfl, q1, r1, q2, r2, hbx⟩ := hcut
  have HBx := Lib.hid hbx
  clear hbx HQ HR HB1
  have c0 := Blk.cell q1 0
  have d0 := Blk.cell r1 0
  have c1 := Blk.cell q1 1
  have d1 := Blk.cell r1 1
  have c2 := Blk.cell q1 2
  have d2 := Blk.cell r1 2
  have c3 := Blk.cell q1 3
  have d3 := Blk.cell r1 3
  have c4 := Blk.cell q1 4
  have d4 := Blk.cell r1 4
  have c12 := Blk.cell q1 12
  have d12 := Blk.cell r1 12
  have c13 := Blk.cell q1 13
  have d13 := Blk.cell r1 13
  have c14 := Blk.cell q1 14
  have d14 := Blk.cell r1 14
  have c15 := Blk.cell q1 15
  have d15 := Blk.cell r1 15
  have c16 := Blk.cell q1 16
  have d16 := Blk.cell r1 16
  have c17 := Blk.cell q1 17
  have d17 := Blk.cell r1 17
  have c18 := Blk.cell q1 18
  have d18 := Blk.cell r1 18
  simp only [List.getElem?_toArray, List.getElem?_cons_zero, List.getElem?_cons_succ] at c0 d0 c1 d1 c2 d2 c3 d3 c4 d4 c12 d12 c13 d13 c14 d14 c15 d15 c16 d16 c17 d17 c18 d18
  clear q1 r1 q2 r2
  have hz : (cn.toList == cn'.toList) = false := toList_ne hne
  have hz2 : ¬ cn.toList = cn'.toList := by simpa using hz
  go_wp2
  all_goals first | contradiction | (go_ret; first | exact ⟨rfl, HBx.out⟩ | exact ⟨by show Ending.returned (.bool _) = _; rw [hz], HBx.out⟩)
set_option maxHeartbeats 4000000 in
set_option maxRecDepth 100000 in
theorem sameOp_8 (k : Int) (nm : ByteArray) (ad : ByteArray) (m1 : Int) (g1 : Int) (nd nd' : ByteArray) (id id' : ByteArray) (sn sn' : ByteArray) (po po' : Int) (m2 m2' : Int) (g2 g2' : Int) (cn : ByteArray) (ci ci' : ByteArray) (cs cs' : ByteArray) (st st' : Int) (nt nt' : ByteArray) (m3 m3' : Int) (g3 g3' : Int) (cas cas' : Bool) (want want' : Int) (l : List ByteArray) (va vb : Value) (hne : ci ≠ ci') (w : World) (ha : TextsAt w va l) (hb : TextsAt w vb l) (hl : l.length ≤ 1048576) :
    Calls Tryz.prog 43 #[.agg #[.int .i64 k, .string nm, .string ad, .int .u64 m1, .int .u64 g1, .string nd, .string id, .string sn, .int .i64 po, va, .int .u64 m2, .int .u64 g2, .string cn, .string ci, .string cs, .int .i64 st, .string nt, .int .u64 m3, .int .u64 g3, .bool cas, .int .u64 want], .agg #[.int .i64 k, .string nm, .string ad, .int .u64 m1, .int .u64 g1, .string nd', .string id', .string sn', .int .i64 po', vb, .int .u64 m2', .int .u64 g2', .string cn, .string ci', .string cs', .int .i64 st', .string nt', .int .u64 m3', .int .u64 g3', .bool cas', .int .u64 want']] w fun e w' => e = .returned (.bool false) ∧ Below w.heap.size w w' := by
  have HA := Lib.hid ha
  have HB := Lib.hid hb
  have Hl := Lib.hid hl
  obtain ⟨A1, p1, rfl, _⟩ := ha
  obtain ⟨A2, p2, rfl, _⟩ := hb
  clear hl
  have Hd := Lib.hid (show decide (l = l) = true from decide_eq_true rfl)
  go_enter Tryz.func43, Tryz.ntmps43
  go_wp2_with (go_at_call 63; refine (equal_b _ _ l l _ ((HA.out.below (below2 w _ _))) (HB.out.below (below2 w _ _)) Hl.out).mono ?_)
  first | rintro e w1 rfl hb1 | rintro e w1 ⟨rfl, hb1⟩
  replace hb1 := hb1.mono (B' := w.heap.size + 1 + 1) (by simp)
  try rw [Hd.out]
  have q1 := (hb1.block w.heap.size (by omega)).trans (blk_old (blk_new w _))
  have r1 := (hb1.block (w.heap.size + 1) (by omega)).trans (alloc2b w _ _)
  have B1 : Below w.heap.size w w1 := (below2 w _ _).trans (hb1.mono (by omega))
  have s1 : w.heap.size + 1 < w1.heap.size := by have := hb1.size; simp at this; omega
  have s2 : w.heap.size < w1.heap.size := by omega
  have HB1 := Lib.hid B1
  clear hb1 B1
  have HQ := Lib.hid q1
  have HR := Lib.hid r1
  have c5 := Blk.cell q1 5
  have d5 := Blk.cell r1 5
  have c6 := Blk.cell q1 6
  have d6 := Blk.cell r1 6
  have c7 := Blk.cell q1 7
  have d7 := Blk.cell r1 7
  have c8 := Blk.cell q1 8
  have d8 := Blk.cell r1 8
  have c9 := Blk.cell q1 9
  have d9 := Blk.cell r1 9
  have c10 := Blk.cell q1 10
  have d10 := Blk.cell r1 10
  have c11 := Blk.cell q1 11
  have d11 := Blk.cell r1 11
  simp only [List.getElem?_toArray, List.getElem?_cons_zero, List.getElem?_cons_succ] at c5 d5 c6 d6 c7 d7 c8 d8 c9 d9 c10 d10 c11 d11
  clear q1 r1
  go_upto_region 2 with fail
  go_cut [0, 1, 6, 7] from 8 (fun s0 s1 s6 s7 wx => ∃ g6 g7, s6 = .pointer (some ⟨g6, 0, none⟩) ∧ s7 = .pointer (some ⟨g7, 0, none⟩) ∧ wx.heap[w.heap.size]? = some (.cells #[.int .i64 k, .string nm, .string ad, .int .u64 m1, .int .u64 g1, .string nd, .string id, .string sn, .int .i64 po, .slice A1 l.length p1, .int .u64 m2, .int .u64 g2, .string cn, .string ci, .string cs, .int .i64 st, .string nt, .int .u64 m3, .int .u64 g3, .bool cas, .int .u64 want] 53 (0, 0)) ∧ wx.heap[w.heap.size + 1]? = some (.cells #[.int .i64 k, .string nm, .string ad, .int .u64 m1, .int .u64 g1, .string nd', .string id', .string sn', .int .i64 po', .slice A2 l.length p2, .int .u64 m2', .int .u64 g2', .string cn, .string ci', .string cs', .int .i64 st', .string nt', .int .u64 m3', .int .u64 g3', .bool cas', .int .u64 want'] 53 (0, 0)) ∧ wx.heap[g6]? = some (.cells #[.string nd, .string id, .string sn, .int .i64 po, .slice A1 l.length p1, .int .u64 m2, .int .u64 g2] 47 (0, 0)) ∧ wx.heap[g7]? = some (.cells #[.string nd', .string id', .string sn', .int .i64 po', .slice A2 l.length p2, .int .u64 m2', .int .u64 g2'] 47 (0, 0)) ∧ Below w.heap.size w wx)
  case first =>
    go_region_held3 (fun w' => w'.cell? ⟨w.heap.size, 5, none⟩ = some (.string nd) ∧ w'.cell? ⟨w.heap.size, 6, none⟩ = some (.string id) ∧ w'.cell? ⟨w.heap.size, 7, none⟩ = some (.string sn) ∧ w'.cell? ⟨w.heap.size, 8, none⟩ = some (.int .i64 po) ∧ w'.cell? ⟨w.heap.size, 9, none⟩ = some (.slice A1 l.length p1) ∧ w'.cell? ⟨w.heap.size, 10, none⟩ = some (.int .u64 m2) ∧ w'.cell? ⟨w.heap.size, 11, none⟩ = some (.int .u64 g2) ∧ w'.cell? ⟨w.heap.size + 1, 5, none⟩ = some (.string nd') ∧ w'.cell? ⟨w.heap.size + 1, 6, none⟩ = some (.string id') ∧ w'.cell? ⟨w.heap.size + 1, 7, none⟩ = some (.string sn') ∧ w'.cell? ⟨w.heap.size + 1, 8, none⟩ = some (.int .i64 po') ∧ w'.cell? ⟨w.heap.size + 1, 9, none⟩ = some (.slice A2 l.length p2) ∧ w'.cell? ⟨w.heap.size + 1, 10, none⟩ = some (.int .u64 m2') ∧ w'.cell? ⟨w.heap.size + 1, 11, none⟩ = some (.int .u64 g2')) (go_keep) (fail)
    all_goals go_wp2_with fail
    all_goals go_meet
    all_goals (case rel => first | exact ⟨_, _, rfl, rfl, blk_old (blk_old HQ.out), blk_old (blk_old HR.out), blk_old (blk_new w1 _), alloc2b w1 _ _, ((HB1.out.alloc (by omega) _).alloc (by simp; omega) _).drew⟩ | exact ⟨_, _, rfl, rfl, blk_old (blk_old HQ.out), blk_old (blk_old HR.out), alloc2b w1 _ _, blk_old (blk_new w1 _), ((HB1.out.alloc (by omega) _).alloc (by simp; omega) _).drew⟩)
  case rest =>
  obtain ⟨g6, g7, rfl, rfl, q1, r1, q2, r2, hbx⟩ := hcut
  have HBx := Lib.hid hbx
  clear hbx HQ HR HB1
  have c0 := Blk.cell q1 0
  have d0 := Blk.cell r1 0
  have c1 := Blk.cell q1 1
  have d1 := Blk.cell r1 1
  have c2 := Blk.cell q1 2
  have d2 := Blk.cell r1 2
  have c3 := Blk.cell q1 3
  have d3 := Blk.cell r1 3
  have c4 := Blk.cell q1 4
  have d4 := Blk.cell r1 4
  have c12 := Blk.cell q1 12
  have d12 := Blk.cell r1 12
  have c13 := Blk.cell q1 13
  have d13 := Blk.cell r1 13
  have c14 := Blk.cell q1 14
  have d14 := Blk.cell r1 14
  have c15 := Blk.cell q1 15
  have d15 := Blk.cell r1 15
  have c16 := Blk.cell q1 16
  have d16 := Blk.cell r1 16
  have c17 := Blk.cell q1 17
  have d17 := Blk.cell r1 17
  have c18 := Blk.cell q1 18
  have d18 := Blk.cell r1 18
  simp only [List.getElem?_toArray, List.getElem?_cons_zero, List.getElem?_cons_succ] at c0 d0 c1 d1 c2 d2 c3 d3 c4 d4 c12 d12 c13 d13 c14 d14 c15 d15 c16 d16 c17 d17 c18 d18
  clear q1 r1 q2 r2
  have hz : (ci.toList == ci'.toList) = false := toList_ne hne
  have hz2 : ¬ ci.toList = ci'.toList := by simpa using hz
  go_wp2
  all_goals first | contradiction | (go_ret; first | exact ⟨rfl, HBx.out⟩ | exact ⟨by show Ending.returned (.bool _) = _; rw [hz], HBx.out⟩)
set_option maxHeartbeats 4000000 in
set_option maxRecDepth 100000 in
theorem sameOp_9 (k : Int) (nm : ByteArray) (ad : ByteArray) (m1 : Int) (g1 : Int) (nd nd' : ByteArray) (id id' : ByteArray) (sn sn' : ByteArray) (po po' : Int) (m2 m2' : Int) (g2 g2' : Int) (cn : ByteArray) (ci : ByteArray) (cs cs' : ByteArray) (st st' : Int) (nt nt' : ByteArray) (m3 m3' : Int) (g3 g3' : Int) (cas cas' : Bool) (want want' : Int) (l : List ByteArray) (va vb : Value) (hne : cs ≠ cs') (w : World) (ha : TextsAt w va l) (hb : TextsAt w vb l) (hl : l.length ≤ 1048576) :
    Calls Tryz.prog 43 #[.agg #[.int .i64 k, .string nm, .string ad, .int .u64 m1, .int .u64 g1, .string nd, .string id, .string sn, .int .i64 po, va, .int .u64 m2, .int .u64 g2, .string cn, .string ci, .string cs, .int .i64 st, .string nt, .int .u64 m3, .int .u64 g3, .bool cas, .int .u64 want], .agg #[.int .i64 k, .string nm, .string ad, .int .u64 m1, .int .u64 g1, .string nd', .string id', .string sn', .int .i64 po', vb, .int .u64 m2', .int .u64 g2', .string cn, .string ci, .string cs', .int .i64 st', .string nt', .int .u64 m3', .int .u64 g3', .bool cas', .int .u64 want']] w fun e w' => e = .returned (.bool false) ∧ Below w.heap.size w w' := by
  have HA := Lib.hid ha
  have HB := Lib.hid hb
  have Hl := Lib.hid hl
  obtain ⟨A1, p1, rfl, _⟩ := ha
  obtain ⟨A2, p2, rfl, _⟩ := hb
  clear hl
  have Hd := Lib.hid (show decide (l = l) = true from decide_eq_true rfl)
  go_enter Tryz.func43, Tryz.ntmps43
  go_wp2_with (go_at_call 63; refine (equal_b _ _ l l _ ((HA.out.below (below2 w _ _))) (HB.out.below (below2 w _ _)) Hl.out).mono ?_)
  first | rintro e w1 rfl hb1 | rintro e w1 ⟨rfl, hb1⟩
  replace hb1 := hb1.mono (B' := w.heap.size + 1 + 1) (by simp)
  try rw [Hd.out]
  have q1 := (hb1.block w.heap.size (by omega)).trans (blk_old (blk_new w _))
  have r1 := (hb1.block (w.heap.size + 1) (by omega)).trans (alloc2b w _ _)
  have B1 : Below w.heap.size w w1 := (below2 w _ _).trans (hb1.mono (by omega))
  have s1 : w.heap.size + 1 < w1.heap.size := by have := hb1.size; simp at this; omega
  have s2 : w.heap.size < w1.heap.size := by omega
  have HB1 := Lib.hid B1
  clear hb1 B1
  have HQ := Lib.hid q1
  have HR := Lib.hid r1
  have c5 := Blk.cell q1 5
  have d5 := Blk.cell r1 5
  have c6 := Blk.cell q1 6
  have d6 := Blk.cell r1 6
  have c7 := Blk.cell q1 7
  have d7 := Blk.cell r1 7
  have c8 := Blk.cell q1 8
  have d8 := Blk.cell r1 8
  have c9 := Blk.cell q1 9
  have d9 := Blk.cell r1 9
  have c10 := Blk.cell q1 10
  have d10 := Blk.cell r1 10
  have c11 := Blk.cell q1 11
  have d11 := Blk.cell r1 11
  simp only [List.getElem?_toArray, List.getElem?_cons_zero, List.getElem?_cons_succ] at c5 d5 c6 d6 c7 d7 c8 d8 c9 d9 c10 d10 c11 d11
  clear q1 r1
  go_upto_region 2 with fail
  go_cut [0, 1, 6, 7] from 8 (fun s0 s1 s6 s7 wx => ∃ g6 g7, s6 = .pointer (some ⟨g6, 0, none⟩) ∧ s7 = .pointer (some ⟨g7, 0, none⟩) ∧ wx.heap[w.heap.size]? = some (.cells #[.int .i64 k, .string nm, .string ad, .int .u64 m1, .int .u64 g1, .string nd, .string id, .string sn, .int .i64 po, .slice A1 l.length p1, .int .u64 m2, .int .u64 g2, .string cn, .string ci, .string cs, .int .i64 st, .string nt, .int .u64 m3, .int .u64 g3, .bool cas, .int .u64 want] 53 (0, 0)) ∧ wx.heap[w.heap.size + 1]? = some (.cells #[.int .i64 k, .string nm, .string ad, .int .u64 m1, .int .u64 g1, .string nd', .string id', .string sn', .int .i64 po', .slice A2 l.length p2, .int .u64 m2', .int .u64 g2', .string cn, .string ci, .string cs', .int .i64 st', .string nt', .int .u64 m3', .int .u64 g3', .bool cas', .int .u64 want'] 53 (0, 0)) ∧ wx.heap[g6]? = some (.cells #[.string nd, .string id, .string sn, .int .i64 po, .slice A1 l.length p1, .int .u64 m2, .int .u64 g2] 47 (0, 0)) ∧ wx.heap[g7]? = some (.cells #[.string nd', .string id', .string sn', .int .i64 po', .slice A2 l.length p2, .int .u64 m2', .int .u64 g2'] 47 (0, 0)) ∧ Below w.heap.size w wx)
  case first =>
    go_region_held3 (fun w' => w'.cell? ⟨w.heap.size, 5, none⟩ = some (.string nd) ∧ w'.cell? ⟨w.heap.size, 6, none⟩ = some (.string id) ∧ w'.cell? ⟨w.heap.size, 7, none⟩ = some (.string sn) ∧ w'.cell? ⟨w.heap.size, 8, none⟩ = some (.int .i64 po) ∧ w'.cell? ⟨w.heap.size, 9, none⟩ = some (.slice A1 l.length p1) ∧ w'.cell? ⟨w.heap.size, 10, none⟩ = some (.int .u64 m2) ∧ w'.cell? ⟨w.heap.size, 11, none⟩ = some (.int .u64 g2) ∧ w'.cell? ⟨w.heap.size + 1, 5, none⟩ = some (.string nd') ∧ w'.cell? ⟨w.heap.size + 1, 6, none⟩ = some (.string id') ∧ w'.cell? ⟨w.heap.size + 1, 7, none⟩ = some (.string sn') ∧ w'.cell? ⟨w.heap.size + 1, 8, none⟩ = some (.int .i64 po') ∧ w'.cell? ⟨w.heap.size + 1, 9, none⟩ = some (.slice A2 l.length p2) ∧ w'.cell? ⟨w.heap.size + 1, 10, none⟩ = some (.int .u64 m2') ∧ w'.cell? ⟨w.heap.size + 1, 11, none⟩ = some (.int .u64 g2')) (go_keep) (fail)
    all_goals go_wp2_with fail
    all_goals go_meet
    all_goals (case rel => first | exact ⟨_, _, rfl, rfl, blk_old (blk_old HQ.out), blk_old (blk_old HR.out), blk_old (blk_new w1 _), alloc2b w1 _ _, ((HB1.out.alloc (by omega) _).alloc (by simp; omega) _).drew⟩ | exact ⟨_, _, rfl, rfl, blk_old (blk_old HQ.out), blk_old (blk_old HR.out), alloc2b w1 _ _, blk_old (blk_new w1 _), ((HB1.out.alloc (by omega) _).alloc (by simp; omega) _).drew⟩)
  case rest =>
  obtain ⟨g6, g7, rfl, rfl, q1, r1, q2, r2, hbx⟩ := hcut
  have HBx := Lib.hid hbx
  clear hbx HQ HR HB1
  have c0 := Blk.cell q1 0
  have d0 := Blk.cell r1 0
  have c1 := Blk.cell q1 1
  have d1 := Blk.cell r1 1
  have c2 := Blk.cell q1 2
  have d2 := Blk.cell r1 2
  have c3 := Blk.cell q1 3
  have d3 := Blk.cell r1 3
  have c4 := Blk.cell q1 4
  have d4 := Blk.cell r1 4
  have c12 := Blk.cell q1 12
  have d12 := Blk.cell r1 12
  have c13 := Blk.cell q1 13
  have d13 := Blk.cell r1 13
  have c14 := Blk.cell q1 14
  have d14 := Blk.cell r1 14
  have c15 := Blk.cell q1 15
  have d15 := Blk.cell r1 15
  have c16 := Blk.cell q1 16
  have d16 := Blk.cell r1 16
  have c17 := Blk.cell q1 17
  have d17 := Blk.cell r1 17
  have c18 := Blk.cell q1 18
  have d18 := Blk.cell r1 18
  simp only [List.getElem?_toArray, List.getElem?_cons_zero, List.getElem?_cons_succ] at c0 d0 c1 d1 c2 d2 c3 d3 c4 d4 c12 d12 c13 d13 c14 d14 c15 d15 c16 d16 c17 d17 c18 d18
  clear q1 r1 q2 r2
  have hz : (cs.toList == cs'.toList) = false := toList_ne hne
  have hz2 : ¬ cs.toList = cs'.toList := by simpa using hz
  go_wp2
  all_goals first | contradiction | (go_ret; first | exact ⟨rfl, HBx.out⟩ | exact ⟨by show Ending.returned (.bool _) = _; rw [hz], HBx.out⟩)
set_option maxHeartbeats 4000000 in
set_option maxRecDepth 100000 in
theorem sameOp_10 (k : Int) (nm : ByteArray) (ad : ByteArray) (m1 : Int) (g1 : Int) (nd nd' : ByteArray) (id id' : ByteArray) (sn sn' : ByteArray) (po po' : Int) (m2 m2' : Int) (g2 g2' : Int) (cn : ByteArray) (ci : ByteArray) (cs : ByteArray) (st st' : Int) (nt nt' : ByteArray) (m3 m3' : Int) (g3 g3' : Int) (cas cas' : Bool) (want want' : Int) (l : List ByteArray) (va vb : Value) (hne : st ≠ st') (w : World) (ha : TextsAt w va l) (hb : TextsAt w vb l) (hl : l.length ≤ 1048576) :
    Calls Tryz.prog 43 #[.agg #[.int .i64 k, .string nm, .string ad, .int .u64 m1, .int .u64 g1, .string nd, .string id, .string sn, .int .i64 po, va, .int .u64 m2, .int .u64 g2, .string cn, .string ci, .string cs, .int .i64 st, .string nt, .int .u64 m3, .int .u64 g3, .bool cas, .int .u64 want], .agg #[.int .i64 k, .string nm, .string ad, .int .u64 m1, .int .u64 g1, .string nd', .string id', .string sn', .int .i64 po', vb, .int .u64 m2', .int .u64 g2', .string cn, .string ci, .string cs, .int .i64 st', .string nt', .int .u64 m3', .int .u64 g3', .bool cas', .int .u64 want']] w fun e w' => e = .returned (.bool false) ∧ Below w.heap.size w w' := by
  have HA := Lib.hid ha
  have HB := Lib.hid hb
  have Hl := Lib.hid hl
  obtain ⟨A1, p1, rfl, _⟩ := ha
  obtain ⟨A2, p2, rfl, _⟩ := hb
  clear hl
  have Hd := Lib.hid (show decide (l = l) = true from decide_eq_true rfl)
  go_enter Tryz.func43, Tryz.ntmps43
  go_wp2_with (go_at_call 63; refine (equal_b _ _ l l _ ((HA.out.below (below2 w _ _))) (HB.out.below (below2 w _ _)) Hl.out).mono ?_)
  first | rintro e w1 rfl hb1 | rintro e w1 ⟨rfl, hb1⟩
  replace hb1 := hb1.mono (B' := w.heap.size + 1 + 1) (by simp)
  try rw [Hd.out]
  have q1 := (hb1.block w.heap.size (by omega)).trans (blk_old (blk_new w _))
  have r1 := (hb1.block (w.heap.size + 1) (by omega)).trans (alloc2b w _ _)
  have B1 : Below w.heap.size w w1 := (below2 w _ _).trans (hb1.mono (by omega))
  have s1 : w.heap.size + 1 < w1.heap.size := by have := hb1.size; simp at this; omega
  have s2 : w.heap.size < w1.heap.size := by omega
  have HB1 := Lib.hid B1
  clear hb1 B1
  have HQ := Lib.hid q1
  have HR := Lib.hid r1
  have c5 := Blk.cell q1 5
  have d5 := Blk.cell r1 5
  have c6 := Blk.cell q1 6
  have d6 := Blk.cell r1 6
  have c7 := Blk.cell q1 7
  have d7 := Blk.cell r1 7
  have c8 := Blk.cell q1 8
  have d8 := Blk.cell r1 8
  have c9 := Blk.cell q1 9
  have d9 := Blk.cell r1 9
  have c10 := Blk.cell q1 10
  have d10 := Blk.cell r1 10
  have c11 := Blk.cell q1 11
  have d11 := Blk.cell r1 11
  simp only [List.getElem?_toArray, List.getElem?_cons_zero, List.getElem?_cons_succ] at c5 d5 c6 d6 c7 d7 c8 d8 c9 d9 c10 d10 c11 d11
  clear q1 r1
  go_upto_region 2 with fail
  go_cut [0, 1, 6, 7] from 8 (fun s0 s1 s6 s7 wx => ∃ g6 g7, s6 = .pointer (some ⟨g6, 0, none⟩) ∧ s7 = .pointer (some ⟨g7, 0, none⟩) ∧ wx.heap[w.heap.size]? = some (.cells #[.int .i64 k, .string nm, .string ad, .int .u64 m1, .int .u64 g1, .string nd, .string id, .string sn, .int .i64 po, .slice A1 l.length p1, .int .u64 m2, .int .u64 g2, .string cn, .string ci, .string cs, .int .i64 st, .string nt, .int .u64 m3, .int .u64 g3, .bool cas, .int .u64 want] 53 (0, 0)) ∧ wx.heap[w.heap.size + 1]? = some (.cells #[.int .i64 k, .string nm, .string ad, .int .u64 m1, .int .u64 g1, .string nd', .string id', .string sn', .int .i64 po', .slice A2 l.length p2, .int .u64 m2', .int .u64 g2', .string cn, .string ci, .string cs, .int .i64 st', .string nt', .int .u64 m3', .int .u64 g3', .bool cas', .int .u64 want'] 53 (0, 0)) ∧ wx.heap[g6]? = some (.cells #[.string nd, .string id, .string sn, .int .i64 po, .slice A1 l.length p1, .int .u64 m2, .int .u64 g2] 47 (0, 0)) ∧ wx.heap[g7]? = some (.cells #[.string nd', .string id', .string sn', .int .i64 po', .slice A2 l.length p2, .int .u64 m2', .int .u64 g2'] 47 (0, 0)) ∧ Below w.heap.size w wx)
  case first =>
    go_region_held3 (fun w' => w'.cell? ⟨w.heap.size, 5, none⟩ = some (.string nd) ∧ w'.cell? ⟨w.heap.size, 6, none⟩ = some (.string id) ∧ w'.cell? ⟨w.heap.size, 7, none⟩ = some (.string sn) ∧ w'.cell? ⟨w.heap.size, 8, none⟩ = some (.int .i64 po) ∧ w'.cell? ⟨w.heap.size, 9, none⟩ = some (.slice A1 l.length p1) ∧ w'.cell? ⟨w.heap.size, 10, none⟩ = some (.int .u64 m2) ∧ w'.cell? ⟨w.heap.size, 11, none⟩ = some (.int .u64 g2) ∧ w'.cell? ⟨w.heap.size + 1, 5, none⟩ = some (.string nd') ∧ w'.cell? ⟨w.heap.size + 1, 6, none⟩ = some (.string id') ∧ w'.cell? ⟨w.heap.size + 1, 7, none⟩ = some (.string sn') ∧ w'.cell? ⟨w.heap.size + 1, 8, none⟩ = some (.int .i64 po') ∧ w'.cell? ⟨w.heap.size + 1, 9, none⟩ = some (.slice A2 l.length p2) ∧ w'.cell? ⟨w.heap.size + 1, 10, none⟩ = some (.int .u64 m2') ∧ w'.cell? ⟨w.heap.size + 1, 11, none⟩ = some (.int .u64 g2')) (go_keep) (fail)
    all_goals go_wp2_with fail
    all_goals go_meet
    all_goals (case rel => first | exact ⟨_, _, rfl, rfl, blk_old (blk_old HQ.out), blk_old (blk_old HR.out), blk_old (blk_new w1 _), alloc2b w1 _ _, ((HB1.out.alloc (by omega) _).alloc (by simp; omega) _).drew⟩ | exact ⟨_, _, rfl, rfl, blk_old (blk_old HQ.out), blk_old (blk_old HR.out), alloc2b w1 _ _, blk_old (blk_new w1 _), ((HB1.out.alloc (by omega) _).alloc (by simp; omega) _).drew⟩)
  case rest =>
  obtain ⟨g6, g7, rfl, rfl, q1, r1, q2, r2, hbx⟩ := hcut
  have HBx := Lib.hid hbx
  clear hbx HQ HR HB1
  have c0 := Blk.cell q1 0
  have d0 := Blk.cell r1 0
  have c1 := Blk.cell q1 1
  have d1 := Blk.cell r1 1
  have c2 := Blk.cell q1 2
  have d2 := Blk.cell r1 2
  have c3 := Blk.cell q1 3
  have d3 := Blk.cell r1 3
  have c4 := Blk.cell q1 4
  have d4 := Blk.cell r1 4
  have c12 := Blk.cell q1 12
  have d12 := Blk.cell r1 12
  have c13 := Blk.cell q1 13
  have d13 := Blk.cell r1 13
  have c14 := Blk.cell q1 14
  have d14 := Blk.cell r1 14
  have c15 := Blk.cell q1 15
  have d15 := Blk.cell r1 15
  have c16 := Blk.cell q1 16
  have d16 := Blk.cell r1 16
  have c17 := Blk.cell q1 17
  have d17 := Blk.cell r1 17
  have c18 := Blk.cell q1 18
  have d18 := Blk.cell r1 18
  simp only [List.getElem?_toArray, List.getElem?_cons_zero, List.getElem?_cons_succ] at c0 d0 c1 d1 c2 d2 c3 d3 c4 d4 c12 d12 c13 d13 c14 d14 c15 d15 c16 d16 c17 d17 c18 d18
  clear q1 r1 q2 r2
  have hz : (st == st') = false := beq_eq_false_iff_ne.2 hne
  go_wp2
  all_goals first | contradiction | (go_ret; first | exact ⟨rfl, HBx.out⟩ | exact ⟨by show Ending.returned (.bool _) = _; rw [hz], HBx.out⟩)
set_option maxHeartbeats 4000000 in
set_option maxRecDepth 100000 in
theorem sameOp_11 (k : Int) (nm : ByteArray) (ad : ByteArray) (m1 : Int) (g1 : Int) (nd nd' : ByteArray) (id id' : ByteArray) (sn sn' : ByteArray) (po po' : Int) (m2 m2' : Int) (g2 g2' : Int) (cn : ByteArray) (ci : ByteArray) (cs : ByteArray) (st : Int) (nt nt' : ByteArray) (m3 m3' : Int) (g3 g3' : Int) (cas cas' : Bool) (want want' : Int) (l : List ByteArray) (va vb : Value) (hne : nt ≠ nt') (w : World) (ha : TextsAt w va l) (hb : TextsAt w vb l) (hl : l.length ≤ 1048576) :
    Calls Tryz.prog 43 #[.agg #[.int .i64 k, .string nm, .string ad, .int .u64 m1, .int .u64 g1, .string nd, .string id, .string sn, .int .i64 po, va, .int .u64 m2, .int .u64 g2, .string cn, .string ci, .string cs, .int .i64 st, .string nt, .int .u64 m3, .int .u64 g3, .bool cas, .int .u64 want], .agg #[.int .i64 k, .string nm, .string ad, .int .u64 m1, .int .u64 g1, .string nd', .string id', .string sn', .int .i64 po', vb, .int .u64 m2', .int .u64 g2', .string cn, .string ci, .string cs, .int .i64 st, .string nt', .int .u64 m3', .int .u64 g3', .bool cas', .int .u64 want']] w fun e w' => e = .returned (.bool false) ∧ Below w.heap.size w w' := by
  have HA := Lib.hid ha
  have HB := Lib.hid hb
  have Hl := Lib.hid hl
  obtain ⟨A1, p1, rfl, _⟩ := ha
  obtain ⟨A2, p2, rfl, _⟩ := hb
  clear hl
  have Hd := Lib.hid (show decide (l = l) = true from decide_eq_true rfl)
  go_enter Tryz.func43, Tryz.ntmps43
  go_wp2_with (go_at_call 63; refine (equal_b _ _ l l _ ((HA.out.below (below2 w _ _))) (HB.out.below (below2 w _ _)) Hl.out).mono ?_)
  first | rintro e w1 rfl hb1 | rintro e w1 ⟨rfl, hb1⟩
  replace hb1 := hb1.mono (B' := w.heap.size + 1 + 1) (by simp)
  try rw [Hd.out]
  have q1 := (hb1.block w.heap.size (by omega)).trans (blk_old (blk_new w _))
  have r1 := (hb1.block (w.heap.size + 1) (by omega)).trans (alloc2b w _ _)
  have B1 : Below w.heap.size w w1 := (below2 w _ _).trans (hb1.mono (by omega))
  have s1 : w.heap.size + 1 < w1.heap.size := by have := hb1.size; simp at this; omega
  have s2 : w.heap.size < w1.heap.size := by omega
  have HB1 := Lib.hid B1
  clear hb1 B1
  have HQ := Lib.hid q1
  have HR := Lib.hid r1
  have c5 := Blk.cell q1 5
  have d5 := Blk.cell r1 5
  have c6 := Blk.cell q1 6
  have d6 := Blk.cell r1 6
  have c7 := Blk.cell q1 7
  have d7 := Blk.cell r1 7
  have c8 := Blk.cell q1 8
  have d8 := Blk.cell r1 8
  have c9 := Blk.cell q1 9
  have d9 := Blk.cell r1 9
  have c10 := Blk.cell q1 10
  have d10 := Blk.cell r1 10
  have c11 := Blk.cell q1 11
  have d11 := Blk.cell r1 11
  simp only [List.getElem?_toArray, List.getElem?_cons_zero, List.getElem?_cons_succ] at c5 d5 c6 d6 c7 d7 c8 d8 c9 d9 c10 d10 c11 d11
  clear q1 r1
  go_upto_region 2 with fail
  go_cut [0, 1, 6, 7] from 8 (fun s0 s1 s6 s7 wx => ∃ g6 g7, s6 = .pointer (some ⟨g6, 0, none⟩) ∧ s7 = .pointer (some ⟨g7, 0, none⟩) ∧ wx.heap[w.heap.size]? = some (.cells #[.int .i64 k, .string nm, .string ad, .int .u64 m1, .int .u64 g1, .string nd, .string id, .string sn, .int .i64 po, .slice A1 l.length p1, .int .u64 m2, .int .u64 g2, .string cn, .string ci, .string cs, .int .i64 st, .string nt, .int .u64 m3, .int .u64 g3, .bool cas, .int .u64 want] 53 (0, 0)) ∧ wx.heap[w.heap.size + 1]? = some (.cells #[.int .i64 k, .string nm, .string ad, .int .u64 m1, .int .u64 g1, .string nd', .string id', .string sn', .int .i64 po', .slice A2 l.length p2, .int .u64 m2', .int .u64 g2', .string cn, .string ci, .string cs, .int .i64 st, .string nt', .int .u64 m3', .int .u64 g3', .bool cas', .int .u64 want'] 53 (0, 0)) ∧ wx.heap[g6]? = some (.cells #[.string nd, .string id, .string sn, .int .i64 po, .slice A1 l.length p1, .int .u64 m2, .int .u64 g2] 47 (0, 0)) ∧ wx.heap[g7]? = some (.cells #[.string nd', .string id', .string sn', .int .i64 po', .slice A2 l.length p2, .int .u64 m2', .int .u64 g2'] 47 (0, 0)) ∧ Below w.heap.size w wx)
  case first =>
    go_region_held3 (fun w' => w'.cell? ⟨w.heap.size, 5, none⟩ = some (.string nd) ∧ w'.cell? ⟨w.heap.size, 6, none⟩ = some (.string id) ∧ w'.cell? ⟨w.heap.size, 7, none⟩ = some (.string sn) ∧ w'.cell? ⟨w.heap.size, 8, none⟩ = some (.int .i64 po) ∧ w'.cell? ⟨w.heap.size, 9, none⟩ = some (.slice A1 l.length p1) ∧ w'.cell? ⟨w.heap.size, 10, none⟩ = some (.int .u64 m2) ∧ w'.cell? ⟨w.heap.size, 11, none⟩ = some (.int .u64 g2) ∧ w'.cell? ⟨w.heap.size + 1, 5, none⟩ = some (.string nd') ∧ w'.cell? ⟨w.heap.size + 1, 6, none⟩ = some (.string id') ∧ w'.cell? ⟨w.heap.size + 1, 7, none⟩ = some (.string sn') ∧ w'.cell? ⟨w.heap.size + 1, 8, none⟩ = some (.int .i64 po') ∧ w'.cell? ⟨w.heap.size + 1, 9, none⟩ = some (.slice A2 l.length p2) ∧ w'.cell? ⟨w.heap.size + 1, 10, none⟩ = some (.int .u64 m2') ∧ w'.cell? ⟨w.heap.size + 1, 11, none⟩ = some (.int .u64 g2')) (go_keep) (fail)
    all_goals go_wp2_with fail
    all_goals go_meet
    all_goals (case rel => first | exact ⟨_, _, rfl, rfl, blk_old (blk_old HQ.out), blk_old (blk_old HR.out), blk_old (blk_new w1 _), alloc2b w1 _ _, ((HB1.out.alloc (by omega) _).alloc (by simp; omega) _).drew⟩ | exact ⟨_, _, rfl, rfl, blk_old (blk_old HQ.out), blk_old (blk_old HR.out), alloc2b w1 _ _, blk_old (blk_new w1 _), ((HB1.out.alloc (by omega) _).alloc (by simp; omega) _).drew⟩)
  case rest =>
  obtain ⟨g6, g7, rfl, rfl, q1, r1, q2, r2, hbx⟩ := hcut
  have HBx := Lib.hid hbx
  clear hbx HQ HR HB1
  have c0 := Blk.cell q1 0
  have d0 := Blk.cell r1 0
  have c1 := Blk.cell q1 1
  have d1 := Blk.cell r1 1
  have c2 := Blk.cell q1 2
  have d2 := Blk.cell r1 2
  have c3 := Blk.cell q1 3
  have d3 := Blk.cell r1 3
  have c4 := Blk.cell q1 4
  have d4 := Blk.cell r1 4
  have c12 := Blk.cell q1 12
  have d12 := Blk.cell r1 12
  have c13 := Blk.cell q1 13
  have d13 := Blk.cell r1 13
  have c14 := Blk.cell q1 14
  have d14 := Blk.cell r1 14
  have c15 := Blk.cell q1 15
  have d15 := Blk.cell r1 15
  have c16 := Blk.cell q1 16
  have d16 := Blk.cell r1 16
  have c17 := Blk.cell q1 17
  have d17 := Blk.cell r1 17
  have c18 := Blk.cell q1 18
  have d18 := Blk.cell r1 18
  simp only [List.getElem?_toArray, List.getElem?_cons_zero, List.getElem?_cons_succ] at c0 d0 c1 d1 c2 d2 c3 d3 c4 d4 c12 d12 c13 d13 c14 d14 c15 d15 c16 d16 c17 d17 c18 d18
  clear q1 r1 q2 r2
  have hz : (nt.toList == nt'.toList) = false := toList_ne hne
  have hz2 : ¬ nt.toList = nt'.toList := by simpa using hz
  go_wp2
  all_goals first | contradiction | (go_ret; first | exact ⟨rfl, HBx.out⟩ | exact ⟨by show Ending.returned (.bool _) = _; rw [hz], HBx.out⟩)
end Go.Proofs.YtkhgfdlinobabaaGreatDoor.G
