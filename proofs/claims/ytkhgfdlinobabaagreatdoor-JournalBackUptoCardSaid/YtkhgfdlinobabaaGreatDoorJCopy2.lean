/- musterref09.CopyOps, musterref13.Copy. -/
import Derived.Test.YtkhgfdlinobabaaGreatDoorJCopy
import Derived.Great.BuildSlice
namespace Go.Proofs.YtkhgfdlinobabaaGreatDoor.G
open Go.RowKit
set_option linter.unusedVariables false
set_option linter.unusedSimpArgs false
theorem own_grown {w w' : World} {base e sz n : Nat} {v : Value} {xs : List Value} {row : Option Nat} (h : w.ownsRow base e sz v n xs) (hg : w.grownBy w' row) (hne : ∀ k, v.ownBlock = some k → some k ≠ row) : w'.ownsRow base e sz v n xs := by
  refine ⟨h.1, ?_⟩
  rcases h.2 with h2 | ⟨g, cap, cur, hv, hb, hh, r⟩
  · exact .inl h2
  · exact .inr ⟨g, cap, cur, hv, hb, (hg.block g (Array.getElem?_eq_some_iff.1 hh).1 (hne g (by rw [hv]; rfl))).trans hh, r⟩
theorem own_own_ne {w : World} {base base' e e' sz sz' n n' : Nat} {v v' : Value} {xs xs' : List Value} (h : w.ownsRow base e sz v n xs) (h' : w.ownsRow base' e' sz' v' n' xs') (hne : e ≠ e') : ∀ k, v.ownBlock = some k → some k ≠ v'.ownBlock := by
  intro k hk e2
  rcases h'.2 with ⟨rfl, _⟩ | ⟨g, cap, cur, rfl, _, hh, _⟩
  · simp [Value.ownBlock] at e2
  · have : k = g := by simpa [Value.ownBlock] using e2
    exact own_ne h hh hne k hk this
/-- The cells of a list of operations; vts: their lists of tags. -/
def opsCells : List OpV → List Value → List Value
  | o :: os, v :: vs => (opc o v).toList ++ opsCells os vs
  | _, _ => []
theorem opsCells_snoc (o : OpV) (v : Value) : ∀ (os : List OpV) (vs : List Value), vs.length = os.length → opsCells (os ++ [o]) (vs ++ [v]) = opsCells os vs ++ (opc o v).toList
  | [], [], _ => by simp [opsCells]
  | a :: os, b :: vs, h => by
    simp only [List.cons_append, opsCells]
    rw [opsCells_snoc o v os vs (by simpa using h), List.append_assoc]
  | [], b :: vs, h => by simp at h
  | a :: os, [], h => by simp at h
theorem opsCells_get : ∀ (os : List OpV) (vs : List Value), vs.length = os.length → ∀ (j i : Nat), j < os.length → i < 21 → (opsCells os vs)[j * 21 + i]? = (opc (os.getD j OpV.zero) (vs.getD j undef)).toList[i]?
  | [], _, _, j, i, hj, _ => by simp at hj
  | a :: os, [], h, _, _, _, _ => by simp at h
  | a :: os, b :: vs, h, 0, i, _, hi => by
    simp only [opsCells]
    rw [List.getElem?_append_left (by simpa using hi)]
    simp
  | a :: os, b :: vs, h, j + 1, i, hj, hi => by
    simp only [opsCells]
    rw [List.getElem?_append_right (by simp; omega)]
    have e : (j + 1) * 21 + i - (opc a b).toList.length = j * 21 + i := by simp; omega
    rw [e, opsCells_get os vs (by simpa using h) j i (by simpa using hj) hi]
    simp
/-- A list of operations of one's own, their lists of tags, too. -/
def OwnOps (base : Nat) (w : World) (v : Value) (os : List OpV) (vts : List Value) : Prop :=
  vts.length = os.length ∧ w.ownsRow base 53 21 v os.length (opsCells os vts) ∧ ∀ j, j < os.length → w.ownsRow base 9 1 (vts.getD j undef) (os.getD j OpV.zero).svc.tags.length (tx (os.getD j OpV.zero).svc.tags)
theorem OwnOps.below {base : Nat} {w w' : World} {v : Value} {os : List OpV} {vts : List Value} (h : OwnOps base w v os vts) (hb : Below w.heap.size w w') : OwnOps base w' v os vts :=
  ⟨h.1, own_below h.2.1 hb, fun j hj => own_below (h.2.2 j hj) hb⟩
theorem OwnOps.slice {base : Nat} {w : World} {v : Value} {os : List OpV} {vts : List Value} (h : OwnOps base w v os vts) : ∃ A cap, v = .slice A os.length cap := by
  rcases h.2.1.2 with ⟨hv, h2⟩ | ⟨g, cap, cur, hv, _⟩
  · exact ⟨none, 0, by rw [hv, h2]⟩
  · exact ⟨_, cap, hv⟩
theorem OwnOps.at_ {base : Nat} {w : World} {v : Value} {os : List OpV} {vts : List Value} (h : OwnOps base w v os vts) : OpsAt w v os := by
  have hc := fun (g : Nat) (hg : v.ownBlock = some g) => h.2.1.cells hg
  rcases h.2.1.2 with ⟨hv, h0⟩ | ⟨g, cap, cur, hv, hb, hh, hn, _⟩
  · have : os = [] := List.eq_nil_of_length_eq_zero h0
    subst this
    exact ⟨none, 0, hv, Nat.le_refl _, fun h => absurd rfl h⟩
  · refine ⟨_, cap, hv, hn, fun _ => ⟨g, 0, rfl, fun j hj => ⟨vts.getD j undef, TextsAt.of_own (h.2.2 j hj), fun i u hi => ?_⟩⟩⟩
    have hi21 : i < 21 := by have := (List.getElem?_eq_some_iff.1 hi).1; simpa using this
    have h1 := hc g (by rw [hv]; rfl) (j * 21 + i) u (by rw [opsCells_get os vts h.1 j i hj hi21]; exact hi)
    have hadd : (⟨g, 0, none⟩ : Addr).add (j * 21 + i) = ⟨g, 0 + j * 21 + i, none⟩ := by unfold Addr.add; split <;> simp_all <;> omega
    rw [hadd] at h1
    exact h1
theorem info_op : (Tryz.prog.info? 53).map (fun i => (i.zero, i.size, i.bytes)) = some (some (.agg #[.int .i64 0, .string E0, .string E0, .int .u64 0, .int .u64 0, .string E0, .string E0, .string E0, .int .i64 0, .slice none 0 0, .int .u64 0, .int .u64 0, .string E0, .string E0, .string E0, .int .i64 0, .string E0, .int .u64 0, .int .u64 0, .bool false, .int .u64 0]), 21, 256) := by kernel_rfl
theorem OwnOps.snoc {base : Nat} {w w' : World} {v v' : Value} {os : List OpV} {vts : List Value} (h : OwnOps base w v os vts) (o : OpV) (vt : Value) (ht : w.ownsRow base 9 1 vt o.svc.tags.length (tx o.svc.tags)) (hg : w.grownBy w' v.ownBlock) (hr : w'.ownsRow base 53 21 v' (os.length + 1) (opsCells os vts ++ (opc o vt).toList)) : OwnOps base w' v' (os ++ [o]) (vts ++ [vt]) := by
  refine ⟨by simp [h.1], ?_, fun j hj => ?_⟩
  · rw [opsCells_snoc _ _ _ _ h.1, List.length_append]; exact hr
  · by_cases e : j < os.length
    · have h1 := h.2.2 j e
      have e1 : (vts ++ [vt]).getD j undef = vts.getD j undef := by simp only [List.getD]; rw [List.getElem?_append_left (by rw [h.1]; exact e)]
      have e2 : (os ++ [o]).getD j OpV.zero = os.getD j OpV.zero := by simp only [List.getD]; rw [List.getElem?_append_left e]
      rw [e1, e2]
      exact own_grown h1 hg (own_own_ne h1 h.2.1 (by decide))
    · have e3 : j = os.length := by simp at hj; omega
      subst e3
      have e1 : (vts ++ [vt]).getD os.length undef = vt := by rw [← h.1]; simp [List.getD]
      have e2 : (os ++ [o]).getD os.length OpV.zero = o := by simp [List.getD]
      rw [e1, e2]
      exact own_grown ht hg (own_own_ne ht h.2.1 (by decide))
set_option maxHeartbeats 4000000 in
set_option maxRecDepth 100000 in
theorem copyOps_calls (v : Value) (os : List OpV) (hs : ∀ j, j < os.length → (os.getD j OpV.zero).svc.tags.length ≤ 1048576) (hn : os.length ≤ 1048576) (w : World) (h : OpsAt w v os) :
    Calls Tryz.prog 21 #[v] w fun e w' => ∃ v' vts, e = .returned v' ∧ OwnOps w.heap.size w' v' os vts ∧ Below w.heap.size w w' := by
  obtain ⟨i0, hi, hz0, hz1, hz2⟩ := info_parts info_op
  obtain ⟨A, cap, rfl, hcap, hx⟩ := h
  have HC := Lib.hid hx
  have HS := Lib.hid hs
  clear hs hx
  go_enter Tryz.func21, Tryz.ntmps21
  go_wp2
  go_loopw [3, 9] (fun s3 i wr => ∃ k : Nat, k ≤ os.length ∧ i = .int .i64 k ∧ Hid (∃ vts, OwnOps w.heap.size wr s3 (os.take k) vts) ∧ Hid (Below w.heap.size w wr)) (fun _ i _ => os.length - (intOf i).toNat)
  case atStart => exact ⟨0, Nat.zero_le _, rfl, Lib.hid ⟨[], rfl, ⟨rfl, .inr ⟨_, 0, #[], rfl, Nat.le_refl _, blk_new _ _, Nat.le_refl _, by decide, rfl, rfl⟩⟩, fun j hj => by simp at hj⟩, Lib.hid ((Below.refl _ w).alloc (Nat.le_refl _) _)⟩
  case round =>
    obtain ⟨k, hk, rfl, hL, hB⟩ := hrel
    by_cases hlt : k < os.length
    · obtain ⟨b, o, rfl, hc⟩ := HC.out (by intro e; subst e; simp at hlt)
      obtain ⟨vt, hvt, hr⟩ := hc k hlt
      have hsm := HS.out k hlt
      have HNX := Lib.hid (show os.take (k + 1) = os.take k ++ [os.getD k OpV.zero] from by
        rw [List.take_add_one, List.getElem?_eq_getElem hlt]; simp [List.getD, hlt])
      have HTL := Lib.hid (show (os.take k).length = k from by rw [List.length_take]; omega)
      generalize os.getD k OpV.zero = O at hvt hr hsm HNX
      generalize os.take k = L at hL HNX HTL
      have HR := Lib.hid (rangeAt_below hr hB.out)
      have HT := Lib.hid (hvt.below hB.out)
      have hwr := hB.out.size
      obtain ⟨A1, p1, rfl, _⟩ := hvt
      clear hc hr
      go_upto_region 5 with (first | (refine wpList_load_mid rfl 53 (.tmp 11) rfl b (o + k * 21) rfl (opc O (.slice A1 O.svc.tags.length p1)).toList _ HR.out Tryz.underlying53 rfl (by kernel_rfl) ?_) | (refine store_whole rfl 53 5 (.tmp 12) rfl rfl wr.heap.size #[.int .i64 0, .string E0, .string E0, .int .u64 0, .int .u64 0, .string E0, .string E0, .string E0, .int .i64 0, .slice none 0 0, .int .u64 0, .int .u64 0, .string E0, .string E0, .string E0, .int .i64 0, .string E0, .int .u64 0, .int .u64 0, .bool false, .int .u64 0] (opc O (.slice A1 O.svc.tags.length p1)) 53 rfl rfl (blk_new _ _) (by kernel_rfl) rfl rfl ?_; intro W1 hW1 q1 pK))
      have B1 : Below wr.heap.size wr W1 := by rw [hW1.out]; exact below_setRow ((Below.refl _ wr).alloc (Nat.le_refl _) _) (Nat.le_refl _)
      have z2 : W1.heap.size = wr.heap.size + 1 := by rw [hW1.out]; simp [World.setRow]
      have HT1 := Lib.hid (HT.out.below B1)
      have HB1 := Lib.hid (hB.out.trans (B1.mono (by omega)))
      have HQ1 := Lib.hid q1
      have HL1 : Hid (∃ vts, OwnOps w.heap.size W1 u3 L vts) := Lib.hid (by obtain ⟨vts, h⟩ := hL.out; exact ⟨vts, h.below B1⟩)
      clear hW1 pK B1 q1 hL
      go_wp2_with (first | (refine wpList_load_row rfl 53 (.tmp 5) rfl wr.heap.size rfl _ _ _ _ HQ1.out Tryz.underlying53 rfl (by kernel_rfl) ?_) | (go_at_call 40; refine (copyOp_calls O hsm _ _ HT1.out).mono ?_))
      rintro e w2 ⟨v2, rfl, hO2, hb2⟩
      have z3 : w.heap.size ≤ w2.heap.size := by have := hb2.size; omega
      obtain ⟨vts, hL2⟩ := HL1.out
      have HL2 := Lib.hid (hL2.below hb2)
      have HB2 := Lib.hid (HB1.out.trans (hb2.mono (by omega)))
      have HO2 := Lib.hid (own_raise hO2 (by omega : w.heap.size ≤ W1.heap.size))
      obtain ⟨A2, p2, rfl⟩ := own_slice hO2
      obtain ⟨A3, p3, rfl⟩ := hL2.slice
      clear hL2 hb2 hO2 HL1
      have hll := HTL.out
      have HLo := Lib.hid (show w2.ownsRow w.heap.size 53 21 (.slice A3 k p3) k (opsCells L vts) from by have := HL2.out.2.1; rw [hll] at this; exact this)
      go_wp2_with (at_builtin; refine wpList_append_own_at _ rfl (.tmp 13) (.tmp 16) 23 rfl w.heap.size 53 i0 _ 21 256 Tryz.underlying23 hi hz0 hz1 hz2 rfl (by decide) _ k (opsCells L vts) rfl (World.ownsRow.alloc HLo.out _) ⟨w2.heap.size, 0, none⟩ 1 1 (opc O (.slice A2 O.svc.tags.length p2)).toList rfl rfl ?c1 ?c2 ?c3 ?c4 ?c5 ?_)
      case c2 => and_intros <;> rfl
      case c3 => unfold maxLen; omega
      case c4 => omega
      case c5 => simp; omega
      intro v4 w4 hown hgrow _ _
      have HB4 := Lib.hid (HB2.out.trans (((Below.refl w.heap.size w2).alloc z3 _).grown hgrow (by simp; omega) (fun q hq => (HLo.out.lt q hq).1)))
      have HL4 : Hid (∃ vts, OwnOps w.heap.size w4 v4 (os.take (k + 1)) vts) := Lib.hid (by
        rw [HNX.out]
        refine ⟨_, OwnOps.snoc (HL2.out.below ((Below.refl _ w2).alloc (Nat.le_refl _) _)) O _ (own_below HO2.out ((Below.refl _ w2).alloc (Nat.le_refl _) _)) (by rw [hll]; exact hgrow) ?_⟩
        rw [hll]
        exact hown)
      clear hown hgrow
      go_wp2
      go_roundw
      case rel => exact ⟨k + 1, by omega, by go_num, HL4, HB4⟩
      case measure => simp [intOf]; omega
    · obtain rfl : k = os.length := by omega
      obtain ⟨vts, h1⟩ := hL.out
      rw [List.take_length] at h1
      have H1 := Lib.hid h1
      clear h1
      go_wp2
      go_ret
      exact ⟨_, vts, rfl, H1.out, hB.out⟩
theorem OwnOps.setCell {base : Nat} {w : World} {v : Value} {os : List OpV} {vts : List Value} (h : OwnOps base w v os vts) {g : Nat} {cs : Array Value} {t : TypeId} {fr : Nat × Nat} (hg : w.heap[g]? = some (.cells cs t fr)) (h1 : 53 ≠ t) (h2 : 9 ≠ t) (j : Nat) (u : Value) : OwnOps base (w.setCell ⟨g, j, none⟩ u) v os vts :=
  ⟨h.1, own_setCell h.2.1 (own_ne h.2.1 hg h1) u, fun i hi => own_setCell (h.2.2 i hi) (own_ne (h.2.2 i hi) hg h2) u⟩
theorem OwnOps.setRow {base : Nat} {w : World} {v : Value} {os : List OpV} {vts : List Value} (h : OwnOps base w v os vts) {g : Nat} {cs : Array Value} {t : TypeId} {fr : Nat × Nat} (hg : w.heap[g]? = some (.cells cs t fr)) (h1 : 53 ≠ t) (h2 : 9 ≠ t) (cs' : Array Value) : OwnOps base (w.setRow g cs') v os vts :=
  ⟨h.1, own_setRow h.2.1 (own_ne h.2.1 hg h1), fun i hi => own_setRow (h.2.2 i hi) (own_ne (h.2.2 i hi) hg h2)⟩
theorem OwnOps.raise {base base' : Nat} {w : World} {v : Value} {os : List OpV} {vts : List Value} (h : OwnOps base w v os vts) (hb : base' ≤ base) : OwnOps base' w v os vts :=
  ⟨h.1, own_raise h.2.1 hb, fun i hi => own_raise (h.2.2 i hi) hb⟩
set_option maxHeartbeats 4000000 in
set_option maxRecDepth 100000 in
theorem copy_calls (idx : Int) (v : Value) (os : List OpV) (hs : ∀ j, j < os.length → (os.getD j OpV.zero).svc.tags.length ≤ 1048576) (hn : os.length ≤ 1048576) (w : World) (h : OpsAt w v os) :
    Calls Tryz.prog 8 #[.agg #[.int .u64 idx, v]] w fun e w' => ∃ v' vts, e = .returned (.agg #[.int .u64 idx, v']) ∧ OwnOps w.heap.size w' v' os vts ∧ Below w.heap.size w w' := by
  have HT := Lib.hid h
  have HS := Lib.hid hs
  obtain ⟨A, cap, rfl, _⟩ := h
  clear hs
  go_enter Tryz.func8, Tryz.ntmps8
  have hB0 : Below w.heap.size w ((w.alloc (.cells #[.int .u64 idx, .slice A os.length cap] 25)).alloc (.cells #[.int .u64 0, .slice none 0 0] 25)) := ((Below.refl _ w).alloc (Nat.le_refl _) _).alloc (by simp) _
  have HB0 := Lib.hid hB0
  have HT3 := Lib.hid (HT.out.below hB0)
  have HX1 := Lib.hid (blk_old (o := .cells #[.int .u64 0, .slice none 0 0] 25) (blk_new w (.cells #[.int .u64 idx, .slice A os.length cap] 25)))
  have HX2 := Lib.hid (blk_new (w.alloc (.cells #[.int .u64 idx, .slice A os.length cap] 25)) (.cells #[.int .u64 0, .slice none 0 0] 25))
  have HZ := Lib.hid (show ((w.alloc (.cells #[.int .u64 idx, .slice A os.length cap] 25)).alloc (.cells #[.int .u64 0, .slice none 0 0] 25)).heap.size = w.heap.size + 2 from by simp)
  rw [show (w.alloc (.cells #[.int .u64 idx, .slice A os.length cap] 25)).heap.size = w.heap.size + 1 from by simp] at HX2
  have c4 := Blk.cell HX1.out 1
  simp only [List.getElem?_toArray, List.getElem?_cons_zero, List.getElem?_cons_succ] at c4
  clear hB0
  go_upto_region 1 with fail
  generalize hW : (w.alloc (.cells #[.int .u64 idx, .slice A os.length cap] 25)).alloc (.cells #[.int .u64 0, .slice none 0 0] 25) = W at HB0 HT3 HX1 HX2 HZ c4 ⊢
  clear hW
  go_wp2_with (go_at_call 21; refine (calls_hid (copyOps_calls _ os HS.out hn _ HT3.out)).mono ?_)
  rintro e w1 hh
  obtain ⟨v1, rfl, ⟨vts, ho⟩, hb⟩ := hh.out
  clear hh
  obtain ⟨A1, c1, rfl⟩ := ho.slice
  have hb1 := hb.mono (B' := w.heap.size + 2) (by rw [HZ.out]; omega)
  have q1 := (hb1.block w.heap.size (by omega)).trans HX1.out
  have q2 := (hb1.block (w.heap.size + 1) (by omega)).trans HX2.out
  have HB1 := Lib.hid (HB0.out.trans (hb1.mono (by omega)))
  have HO1 := Lib.hid (ho.raise (by rw [HZ.out]; omega : w.heap.size ≤ W.heap.size))
  have HQ1 := Lib.hid q1
  have HQ2 := Lib.hid q2
  have c5 := Blk.cell q1 1
  have f5 := Blk.free q1 1
  simp only [List.getElem?_toArray, List.getElem?_cons_zero, List.getElem?_cons_succ] at c5
  clear hb hb1 ho q1 q2 HB0 HT3 HX1 HX2 HZ HT c4
  go_wp2_with (first | (refine wpList_load_row rfl 25 (.tmp 1) rfl w.heap.size rfl _ _ _ _ (set_blk (.slice A1 os.length c1) HQ1.out) Tryz.underlying25 rfl (by kernel_rfl) ?_) | (refine store_whole rfl 25 2 (.tmp 7) rfl rfl (w.heap.size + 1) _ #[.int .u64 idx, .slice A1 os.length c1] 25 rfl rfl (set_far (.slice A1 os.length c1) (by omega) HQ2.out) (by kernel_rfl) rfl rfl ?_; intro W1 hW1 pR pK; clear pK))
  refine bodyPost_ret (v := .agg #[.int .u64 idx, .slice A1 os.length c1]) (results_row1 Tryz.results8 _ _ (w.heap.size + 1) 25 _ (0, 0) _ rfl pR Tryz.underlying25 rfl (by kernel_rfl)) rfl ⟨_, vts, rfl, ?_, ?_⟩
  · rw [hW1.out]; exact (HO1.out.setCell HQ1.out (by decide) (by decide) _ _).setRow (set_far (.slice A1 os.length c1) (by omega) HQ2.out) (by decide) (by decide) _
  · rw [hW1.out]; exact below_setRow (HB1.out.setCell (by simp) _) (by omega)
end Go.Proofs.YtkhgfdlinobabaaGreatDoor.G
