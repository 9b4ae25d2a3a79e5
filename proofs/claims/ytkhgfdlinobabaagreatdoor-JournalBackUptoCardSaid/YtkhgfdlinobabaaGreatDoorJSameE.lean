/- musterref07.SameTexts, musterref09.SameService, SameOp, musterref13.SameEntry: of the same values, true. -/
import Derived.Test.YtkhgfdlinobabaaGreatDoorJEq
import Derived.Test.YtkhgfdlinobabaaGreatDoorJOp
import Derived.Test.YtkhgfdlinobabaaGreatDoorJSound
import Derived.Deep.RegionHeld3
import Derived.Deep.QuietTactic
import Derived.Deep.MidRow
import Derived.BigQuiet
import Derived.StillTailTactics
namespace Go.Proofs.YtkhgfdlinobabaaGreatDoor.G
open Go.RowKit
set_option linter.unusedVariables false
set_option linter.unusedSimpArgs false
set_option maxHeartbeats 2000000 in
set_option maxRecDepth 100000 in
theorem sameTexts_eq (v1 v2 : Value) (l : List ByteArray) (w : World) (h1 : TextsAt w v1 l) (h2 : TextsAt w v2 l) (s1 : l.length ≤ 1048576) :
    Calls Tryz.prog 64 #[v1, v2] w fun e w' => e = .returned (.bool true) ∧ Below w.heap.size w w' := by
  obtain ⟨A1, cap1, rfl, hc1, hh1⟩ := h1
  obtain ⟨A2, cap2, rfl, hc2, hh2⟩ := h2
  have H1 := Lib.hid hh1
  have H2 := Lib.hid hh2
  clear hh1 hh2
  have t1 : ((l.length : Int) != (l.length : Int)) = false := by simp
  go_enter Tryz.func64, Tryz.ntmps64
  go_wp2
  go_loopw [5] (fun i wr => ∃ k : Nat, k ≤ l.length ∧ i = .int .i64 k ∧ (∃ q, wr = w.drewN q)) (fun i _ => l.length - (intOf i).toNat)
  case atStart => exact ⟨0, Nat.zero_le _, rfl, ⟨0, rfl⟩⟩
  case round =>
    obtain ⟨k, hk, rfl, ⟨q, rfl⟩⟩ := hrel
    by_cases hlt : k < l.length
    · obtain ⟨b1, o1, rfl, c1⟩ := H1.out (by intro e; subst e; simp at hlt)
      obtain ⟨b2, o2, rfl, c2⟩ := H2.out (by intro e; subst e; simp at hlt)
      have d1 := c1 k hlt
      have d2 := c2 k hlt
      clear c1 c2
      generalize l.getD k ByteArray.empty = x1 at d1 d2
      have i0 : (0 : Int) ≤ (k : Int) := by omega
      have i1 : (k : Int) < (l.length : Int) := by omega
      go_upto_region 6 with fail
      go_quiet (fail)
      go_wp2
      go_roundw
      case rel => exact ⟨k + 1, by omega, by go_num, ⟨_, rfl⟩⟩
      case measure => simp [intOf]; omega
    · obtain rfl : k = l.length := by omega
      go_wp2
      go_ret
      exact ⟨rfl, below_drewN w q⟩
set_option maxHeartbeats 4000000 in
set_option maxRecDepth 100000 in
theorem sameService_eq (nd id sn : ByteArray) (po : Int) (va vb : Value) (l : List ByteArray) (m2 g2 : Int) (w : World) (ha : TextsAt w va l) (hb : TextsAt w vb l) (hl : l.length ≤ 1048576) :
    Calls Tryz.prog 45 #[.agg #[.string nd, .string id, .string sn, .int .i64 po, va, .int .u64 m2, .int .u64 g2], .agg #[.string nd, .string id, .string sn, .int .i64 po, vb, .int .u64 m2, .int .u64 g2]] w fun e w' => e = .returned (.bool true) ∧ Below w.heap.size w w' := by
  have HA := Lib.hid ha
  have HB := Lib.hid hb
  have Hl := Lib.hid hl
  obtain ⟨A1, p1, rfl, _⟩ := ha
  obtain ⟨A2, p2, rfl, _⟩ := hb
  clear hl
  go_enter Tryz.func45, Tryz.ntmps45
  go_wp2_with (go_at_call 64; refine (sameTexts_eq _ _ l _ (HA.out.below (below2 w _ _)) (HB.out.below (below2 w _ _)) Hl.out).mono ?_)
  first | rintro e w1 rfl hb1 | rintro e w1 ⟨rfl, hb1⟩
  replace hb1 := hb1.mono (B' := w.heap.size + 1 + 1) (by simp)
  have q1 := (hb1.block w.heap.size (by omega)).trans (blk_old (blk_new w _))
  have r1 := (hb1.block (w.heap.size + 1) (by omega)).trans (alloc2b w _ _)
  have B1 : Below w.heap.size w w1 := (below2 w _ _).trans (hb1.mono (by omega))
  have s1 : w.heap.size + 1 < w1.heap.size := by have := hb1.size; simp at this; omega
  have s2 : w.heap.size < w1.heap.size := by omega
  have HB1 := Lib.hid B1
  clear hb1 B1
  have c5 := Blk.cell q1 5
  have d5 := Blk.cell r1 5
  have c6 := Blk.cell q1 6
  have d6 := Blk.cell r1 6
  simp only [List.getElem?_toArray, List.getElem?_cons_zero, List.getElem?_cons_succ] at c5 d5 c6 d6
  clear q1 r1
  go_wp2
  all_goals first | contradiction | (go_ret; exact ⟨rfl, HB1.out⟩)
set_option maxHeartbeats 4000000 in
set_option maxRecDepth 100000 in
theorem sameOp_eq1 (k : Int) (nm : ByteArray) (ad : ByteArray) (m1 : Int) (g1 : Int) (nd : ByteArray) (id : ByteArray) (sn : ByteArray) (po : Int) (m2 : Int) (g2 : Int) (cn : ByteArray) (ci : ByteArray) (cs : ByteArray) (st : Int) (nt : ByteArray) (m3 : Int) (g3 : Int) (cas : Bool) (want : Int) (va vb : Value) (l : List ByteArray) (w : World) (ha : TextsAt w va l) (hb : TextsAt w vb l) (hl : l.length ≤ 1048576) :
    Calls Tryz.prog 27 #[.agg #[.int .i64 k, .string nm, .string ad, .int .u64 m1, .int .u64 g1, .string nd, .string id, .string sn, .int .i64 po, va, .int .u64 m2, .int .u64 g2, .string cn, .string ci, .string cs, .int .i64 st, .string nt, .int .u64 m3, .int .u64 g3, .bool cas, .int .u64 want], .agg #[.int .i64 k, .string nm, .string ad, .int .u64 m1, .int .u64 g1, .string nd, .string id, .string sn, .int .i64 po, vb, .int .u64 m2, .int .u64 g2, .string cn, .string ci, .string cs, .int .i64 st, .string nt, .int .u64 m3, .int .u64 g3, .bool cas, .int .u64 want]] w fun e w' => e = .returned (.bool true) ∧ Below w.heap.size w w' := by
  have HA := Lib.hid ha
  have HB := Lib.hid hb
  have Hl := Lib.hid hl
  obtain ⟨A1, p1, rfl, _⟩ := ha
  obtain ⟨A2, p2, rfl, _⟩ := hb
  clear hl
  go_enter Tryz.func27, Tryz.ntmps27
  go_wp2_with (go_at_call 45; refine (sameService_eq nd id sn po _ _ l m2 g2 _ (HA.out.below (below2 w _ _)) (HB.out.below (below2 w _ _)) Hl.out).mono ?_)
  first | rintro e w1 rfl hb1 | rintro e w1 ⟨rfl, hb1⟩
  replace hb1 := hb1.mono (B' := w.heap.size + 1 + 1) (by simp)
  have q1 := (hb1.block w.heap.size (by omega)).trans (blk_old (blk_new w _))
  have r1 := (hb1.block (w.heap.size + 1) (by omega)).trans (alloc2b w _ _)
  have B1 : Below w.heap.size w w1 := (below2 w _ _).trans (hb1.mono (by omega))
  have s1 : w.heap.size + 1 < w1.heap.size := by have := hb1.size; simp at this; omega
  have s2 : w.heap.size < w1.heap.size := by omega
  have HB1 := Lib.hid B1
  clear hb1 B1
  have c12 := Blk.cell q1 12
  have d12 := Blk.cell r1 12
  have c13 := Blk.cell q1 13
  have d13 := Blk.cell r1 13
  have c14 := Blk.cell q1 14
  have d14 := Blk.cell r1 14
  have c15 := Blk.cell q1 15
  have d15 := Blk.cell r1 15
  have c16 := Blk.cell q1 16
  have d16 := Blk.cell r1 16
  have c17 := Blk.cell q1 17
  have d17 := Blk.cell r1 17
  have c18 := Blk.cell q1 18
  have d18 := Blk.cell r1 18
  have c19 := Blk.cell q1 19
  have d19 := Blk.cell r1 19
  have c20 := Blk.cell q1 20
  have d20 := Blk.cell r1 20
  simp only [List.getElem?_toArray, List.getElem?_cons_zero, List.getElem?_cons_succ] at c12 d12 c13 d13 c14 d14 c15 d15 c16 d16 c17 d17 c18 d18 c19 d19 c20 d20
  clear q1 r1
  go_wp2
  all_goals first | contradiction | (go_ret; exact ⟨rfl, HB1.out⟩)
theorem sameOp_eq (o : OpV) (va vb : Value) (w : World) (ha : TextsAt w va o.svc.tags) (hb : TextsAt w vb o.svc.tags) (hl : o.svc.tags.length ≤ 1048576) :
    Calls Tryz.prog 27 #[.agg (opc o va), .agg (opc o vb)] w fun e w' => e = .returned (.bool true) ∧ Below w.heap.size w w' := by
  obtain ⟨k, ⟨nm, ad, m1, g1⟩, ⟨nd, id, sn, po, tg, m2, g2⟩, ⟨cn, ci, cs, st, nt, m3, g3⟩, cas, want⟩ := o
  exact sameOp_eq1 k nm ad m1 g1 nd id sn po m2 g2 cn ci cs st nt m3 g3 cas want va vb tg w ha hb hl
theorem step_call {P : Program} {ops : Array Oper} {o : Oper} {a : Act} {K : Act → World → Prop} {Q : Exit → Act → World → Prop} {E : Prop} {W : World} (hgd : o.guard = none) (f : FuncId) (xs : Array Operand) (ts : Array TypeId) (ho : o.op = .call { callee := .value (.func f), args := xs, argTypes := ts }) (vs : Array Value)
    (hx : xs.map a.eval = vs) (hf : (callFunc f vs).run P W = .ok (.enter f vs) W) {R : Ending → World → Prop} (hc : Calls P f vs W R)
    (hk : ∀ e w', R e w' → match e with | .returned u => K (a.put o.dst u) w' | .panicked ch => Q (.panic ch) a w' | .outgrown => LetsOut Q) : if Region.wanted o (yielded ops a.tmps) = true then Oper.wp P o a W K Q else E := by
  have hw : Region.wanted o (yielded ops a.tmps) = true := by simp [Region.wanted, hgd]
  rw [if_pos hw]
  have h1 : (execOp a.eval o).run P W = .ok (.enter f vs) W := by
    unfold execOp
    have e1 : a.eval (.func f) = .func (.func f) #[] #[] := rfl
    simp only [ho, resolve, invoke, e1, Sem.run_bind, hx]
    simp only [Deferred.ofValue, Sem.run_pure, Result.andThen_ok]
    simpa using hf
  unfold Oper.wp
  rw [h1]
  exact hc.mono (fun e w' h => by have := hk e w' h; cases e <;> exact this)
theorem hf_sameOp (vs : Array Value) (W : World) : (callFunc 27 vs).run Tryz.prog W = .ok (.enter 27 vs) W := by
  have h1 : ¬ Tryz.f27.name = "runtime.NumGoroutine" := fun e => by have h : (Tryz.f27.name == "runtime.NumGoroutine") = false := by kernel_rfl
                                                                    rw [e] at h; exact absurd h (by decide)
  have h2 : ¬ Tryz.f27.body = none := fun e => by have h : Tryz.f27.body.isNone = false := by kernel_rfl
                                                  rw [e] at h; exact absurd h (by decide)
  simp [callFunc, go_sem, Tryz.func27, h1, h2]
set_option maxHeartbeats 4000000 in
set_option maxRecDepth 100000 in
theorem sameEntry_eq (idx : Int) (os : List OpV) (va vb : Value) (w : World) (ha : OpsAt w va os) (hb : OpsAt w vb os) (hl : ∀ j, j < os.length → (os.getD j OpV.zero).svc.tags.length ≤ 1048576) (hn : os.length ≤ 1048576) :
    Calls Tryz.prog 12 #[.agg #[.int .u64 idx, va], .agg #[.int .u64 idx, vb]] w fun e w' => e = .returned (.bool true) ∧ Below w.heap.size w w' := by
  have HA := Lib.hid ha
  have HB := Lib.hid hb
  have Hl := Lib.hid hl
  obtain ⟨A1, p1, rfl, _, hx1⟩ := ha
  obtain ⟨A2, p2, rfl, _, hx2⟩ := hb
  have HX1 := Lib.hid hx1
  have HX2 := Lib.hid hx2
  clear hx1 hx2
  have t1 : (idx != idx) = false := by simp
  have t2 : ((os.length : Int) != (os.length : Int)) = false := by simp
  clear hl
  go_enter Tryz.func12, Tryz.ntmps12
  go_wp2
  go_loopw [5, 23] (fun i5 i wr => ∃ k : Nat, k ≤ os.length ∧ i = .int .i64 k ∧ Hid (Below w.heap.size w wr ∧ wr.heap[w.heap.size]? = some (.cells #[.int .u64 idx, .slice A1 os.length p1] 25 (0, 0)) ∧ wr.heap[w.heap.size + 1]? = some (.cells #[.int .u64 idx, .slice A2 os.length p2] 25 (0, 0)))) (fun _ i _ => os.length - (intOf i).toNat)
  case atStart => exact ⟨0, Nat.zero_le _, rfl, Lib.hid ⟨below2 w _ _, blk_old (blk_new w _), alloc2b w _ _⟩⟩
  case round =>
    obtain ⟨k, hk, rfl, hB⟩ := hrel
    by_cases hlt : k < os.length
    · obtain ⟨b1, o1, rfl, k1⟩ := HX1.out (by intro e; subst e; simp at hlt)
      obtain ⟨b2, o2, rfl, k2⟩ := HX2.out (by intro e; subst e; simp at hlt)
      obtain ⟨v1, ht1, hr1⟩ := k1 k hlt
      obtain ⟨v2, ht2, hr2⟩ := k2 k hlt
      have hsm := Hl.out k hlt
      generalize os.getD k OpV.zero = O at ht1 hr1 ht2 hr2 hsm
      have R1 := Lib.hid (rangeAt_below hr1 hB.out.1)
      have R2 := Lib.hid (rangeAt_below hr2 hB.out.1)
      have T1 := Lib.hid (ht1.below hB.out.1)
      have T2 := Lib.hid (ht2.below hB.out.1)
      obtain ⟨B1, q1, rfl, _⟩ := ht1
      obtain ⟨B2, q2, rfl, _⟩ := ht2
      clear k1 k2 hr1 hr2
      have hu := Tryz.underlying53
      have zw := hB.out.1.size
      have c1 : wr.cell? ⟨w.heap.size, 1, none⟩ = some (.slice (some ⟨b1, o1, none⟩) os.length p1) := Blk.cell hB.out.2.1 1
      have c2 : wr.cell? ⟨w.heap.size + 1, 1, none⟩ = some (.slice (some ⟨b2, o2, none⟩) os.length p2) := Blk.cell hB.out.2.2 1
      have HS := Lib.hid (fun W (hb : Below wr.heap.size wr W) => sameOp_eq O _ _ W (T1.out.below hb) (T2.out.below hb) hsm)
      have i0 : (0 : Int) ≤ (k : Int) := by omega
      have i1 : (k : Int) < (os.length : Int) := by omega
      obtain ⟨cs1, h1⟩ : ∃ cs1, cs1 = (opc O (.slice B1 O.svc.tags.length q1)).toList := ⟨_, rfl⟩
      obtain ⟨cs2, h2⟩ : ∃ cs2, cs2 = (opc O (.slice B2 O.svc.tags.length q2)).toList := ⟨_, rfl⟩
      have r1 : wr.rangeAt b1 (o1 + k * 21) cs1 := by rw [h1]; exact R1.out
      have r2 : wr.rangeAt b2 (o2 + k * 21) cs2 := by rw [h2]; exact R2.out
      have l1 : cs1.length = 21 := by rw [h1]; rfl
      have l2 : cs2.length = 21 := by rw [h2]; rfl
      have HS2 : Hid (∀ W, Below wr.heap.size wr W → Calls Tryz.prog 27 #[.agg cs1.toArray, .agg cs2.toArray] W fun e w' => e = .returned (.bool true) ∧ Below W.heap.size W w') := Lib.hid (fun W hb => by have := HS.out W hb; rw [h1, h2]; exact this)
      have s0 : wr.cell? ⟨w.heap.size, 1, none⟩ = some (.slice (some ⟨b1, o1, none⟩) os.length p1) ∧ wr.cell? ⟨w.heap.size + 1, 1, none⟩ = some (.slice (some ⟨b2, o2, none⟩) os.length p2) ∧ wr.rangeAt b1 (o1 + k * 21) cs1 ∧ wr.rangeAt b2 (o2 + k * 21) cs2 := ⟨c1, c2, r1, r2⟩
      have hi1 : (Tryz.prog.info? 53).map (·.size) = some cs1.length := by rw [l1]; kernel_rfl
      have hi2 : (Tryz.prog.info? 53).map (·.size) = some cs2.length := by rw [l2]; kernel_rfl
      clear h1 h2 HS
      go_upto_region 6 with fail
      refine wp_region_held_drew (S := fun W => W.cell? ⟨w.heap.size, 1, none⟩ = some (.slice (some ⟨b1, o1, none⟩) os.length p1) ∧ W.cell? ⟨w.heap.size + 1, 1, none⟩ = some (.slice (some ⟨b2, o2, none⟩) os.length p2) ∧ W.rangeAt b1 (o1 + k * 21) cs1 ∧ W.rangeAt b2 (o2 + k * 21) cs2) (by kernel_rfl) s0 (fun sS => ?_)
      clear s0 r1 r2 c1 c2
      refine wpAnyH_take (i := 0) (v := .pointer (some ⟨w.heap.size, 1, none⟩)) rfl (by kernel_rfl) (by kernel_rfl) (by kernel_rfl) (fun _ _ _ h => h) (Or.inl ⟨by rfl, fun W hW => by obtain ⟨q1, q2, q3, q4⟩ := hW; clear q3 q4; go_simp⟩) sS ?_
      simp only [List.getElem_toArray, List.getElem_cons_succ, List.getElem_cons_zero, Act.put, List.setIfInBounds_toArray, List.set_cons_zero, List.set_cons_succ]
      refine wpAnyH_take (i := 1) (v := .slice (some ⟨b1, o1, none⟩) os.length p1) rfl (by kernel_rfl) (by kernel_rfl) (by kernel_rfl) (fun _ _ _ h => h) (Or.inl ⟨by rfl, fun W hW => by obtain ⟨q1, q2, q3, q4⟩ := hW; clear q3 q4; go_simp⟩) sS ?_
      simp only [List.getElem_toArray, List.getElem_cons_succ, List.getElem_cons_zero, Act.put, List.setIfInBounds_toArray, List.set_cons_zero, List.set_cons_succ]
      refine wpAnyH_take (i := 2) (v := .int .i64 (k : Int)) rfl (by kernel_rfl) (by kernel_rfl) (by kernel_rfl) (fun _ _ _ h => h) (Or.inl ⟨by rfl, fun W hW => by obtain ⟨q1, q2, q3, q4⟩ := hW; clear q3 q4; go_simp⟩) sS ?_
      simp only [List.getElem_toArray, List.getElem_cons_succ, List.getElem_cons_zero, Act.put, List.setIfInBounds_toArray, List.set_cons_zero, List.set_cons_succ]
      refine wpAnyH_take (i := 3) (v := .pointer (some ⟨b1, o1 + k * 21, none⟩)) rfl (by kernel_rfl) (by kernel_rfl) (by kernel_rfl) (fun _ _ _ h => h) (Or.inl ⟨by rfl, fun W hW => by obtain ⟨q1, q2, q3, q4⟩ := hW; clear q3 q4; go_simp⟩) sS ?_
      simp only [List.getElem_toArray, List.getElem_cons_succ, List.getElem_cons_zero, Act.put, List.setIfInBounds_toArray, List.set_cons_zero, List.set_cons_succ]
      refine wpAnyH_take (i := 4) (v := .agg cs1.toArray) rfl (by kernel_rfl) (by kernel_rfl) (by kernel_rfl) (fun _ _ _ h => h) (yieldsIf_load_mid (by rfl) 53 (.tmp 29) rfl b1 (o1 + k * 21) rfl cs1 _ (fun W hW => hW.2.2.1) hu rfl hi1) sS ?_
      simp only [List.getElem_toArray, List.getElem_cons_succ, List.getElem_cons_zero, Act.put, List.setIfInBounds_toArray, List.set_cons_zero, List.set_cons_succ]
      refine wpAnyH_take (i := 5) (v := .pointer (some ⟨w.heap.size + 1, 1, none⟩)) rfl (by kernel_rfl) (by kernel_rfl) (by kernel_rfl) (fun _ _ _ h => h) (Or.inl ⟨by rfl, fun W hW => by obtain ⟨q1, q2, q3, q4⟩ := hW; clear q3 q4; go_simp⟩) sS ?_
      simp only [List.getElem_toArray, List.getElem_cons_succ, List.getElem_cons_zero, Act.put, List.setIfInBounds_toArray, List.set_cons_zero, List.set_cons_succ]
      refine wpAnyH_take (i := 6) (v := .slice (some ⟨b2, o2, none⟩) os.length p2) rfl (by kernel_rfl) (by kernel_rfl) (by kernel_rfl) (fun _ _ _ h => h) (Or.inl ⟨by rfl, fun W hW => by obtain ⟨q1, q2, q3, q4⟩ := hW; clear q3 q4; go_simp⟩) sS ?_
      simp only [List.getElem_toArray, List.getElem_cons_succ, List.getElem_cons_zero, Act.put, List.setIfInBounds_toArray, List.set_cons_zero, List.set_cons_succ]
      refine wpAnyH_take (i := 7) (v := .int .i64 (k : Int)) rfl (by kernel_rfl) (by kernel_rfl) (by kernel_rfl) (fun _ _ _ h => h) (Or.inl ⟨by rfl, fun W hW => by obtain ⟨q1, q2, q3, q4⟩ := hW; clear q3 q4; go_simp⟩) sS ?_
      simp only [List.getElem_toArray, List.getElem_cons_succ, List.getElem_cons_zero, Act.put, List.setIfInBounds_toArray, List.set_cons_zero, List.set_cons_succ]
      refine wpAnyH_take (i := 8) (v := .pointer (some ⟨b2, o2 + k * 21, none⟩)) rfl (by kernel_rfl) (by kernel_rfl) (by kernel_rfl) (fun _ _ _ h => h) (Or.inl ⟨by rfl, fun W hW => by obtain ⟨q1, q2, q3, q4⟩ := hW; clear q3 q4; go_simp⟩) sS ?_
      simp only [List.getElem_toArray, List.getElem_cons_succ, List.getElem_cons_zero, Act.put, List.setIfInBounds_toArray, List.set_cons_zero, List.set_cons_succ]
      refine wpAnyH_take (i := 9) (v := .agg cs2.toArray) rfl (by kernel_rfl) (by kernel_rfl) (by kernel_rfl) (fun _ _ _ h => h) (yieldsIf_load_mid (by rfl) 53 (.tmp 34) rfl b2 (o2 + k * 21) rfl cs2 _ (fun W hW => hW.2.2.2) hu rfl hi2) sS ?_
      simp only [List.getElem_toArray, List.getElem_cons_succ, List.getElem_cons_zero, Act.put, List.setIfInBounds_toArray, List.set_cons_zero, List.set_cons_succ]
      refine wpAnyH_ready (rs := [10]) (by kernel_rfl) (by simp) ?_
      refine AllReadyH.cons rfl (fun K hK => ?_) AllReadyH.nil
      refine step_call (by rfl) 27 _ _ (by rfl) #[.agg cs1.toArray, .agg cs2.toArray] (by simp [Act.eval]) (hf_sameOp _ _) (HS2.out _ ((Below.refl _ wr).drew)) ?_
      rintro e w2 ⟨rfl, hb2⟩
      refine hK.out _ _ ⟨(cell_keep hb2 sS.1), (cell_keep hb2 sS.2.1), rangeAt_below sS.2.2.1 hb2, rangeAt_below sS.2.2.2 hb2⟩ (fun sS2 => ?_)
      clear hK K
      simp only [List.getElem_toArray, List.getElem_cons_succ, List.getElem_cons_zero, Act.put, List.setIfInBounds_toArray, List.set_cons_zero, List.set_cons_succ]
      refine wpAnyH_take (i := 11) (v := .bool false) rfl (by kernel_rfl) (by kernel_rfl) (by kernel_rfl) (fun _ _ _ h => h) (Or.inl ⟨by rfl, fun W hW => by clear hW; go_simp⟩) sS2 ?_
      simp only [List.getElem_toArray, List.getElem_cons_succ, List.getElem_cons_zero, Act.put, List.setIfInBounds_toArray, List.set_cons_zero, List.set_cons_succ]
      refine wpAnyH_done (by kernel_rfl) ?_ _
      have HB2 := Lib.hid (hB.out.1.drew.trans (hb2.mono (by show _ ≤ wr.heap.size; exact zw)))
      have hE2 := (hb2.block _ (show w.heap.size < wr.heap.size from (Array.getElem?_eq_some_iff.1 hB.out.2.1).1)).trans hB.out.2.1
      have hF2 := (hb2.block _ (show w.heap.size + 1 < wr.heap.size from (Array.getElem?_eq_some_iff.1 hB.out.2.2).1)).trans hB.out.2.2
      have HE2 := Lib.hid hE2
      have HF2 := Lib.hid hF2
      clear hb2 hE2 hF2 sS sS2
      go_wp2
      go_roundw
      case rel => exact ⟨k + 1, by omega, by go_num, Lib.hid ⟨HB2.out, HE2.out, HF2.out⟩⟩
      case measure => simp [intOf]; omega
    · obtain rfl : k = os.length := by omega
      go_wp2
      go_ret
      exact ⟨rfl, hB.out.1⟩
end Go.Proofs.YtkhgfdlinobabaaGreatDoor.G
