/- journal.sound: whether the entry is sound. -/
import Derived.Test.YtkhgfdlinobabaaGreatDoorJSame
import Derived.Deep.MidRow
namespace Go.Proofs.YtkhgfdlinobabaaGreatDoor.G
open Go.RowKit
set_option linter.unusedVariables false
set_option linter.unusedSimpArgs false
/-- Texts that are not long. -/
structure OpSmall (o : OpV) : Prop where
  h1 : o.nod.name.size ≤ 1048576
  h2 : o.nod.addr.size ≤ 1048576
  h3 : o.svc.node.size ≤ 1048576
  h4 : o.svc.id.size ≤ 1048576
  h5 : o.svc.name.size ≤ 1048576
  ht : ∀ t ∈ o.svc.tags, t.size ≤ 1048576
  hl : o.svc.tags.length ≤ 1048576
  h6 : o.chk.node.size ≤ 1048576
  h7 : o.chk.id.size ≤ 1048576
  h8 : o.chk.service.size ≤ 1048576
  h9 : o.chk.note.size ≤ 1048576
/-- A list of operations, as it is read. -/
def OpsAt (w : World) (v : Value) (os : List OpV) : Prop :=
  ∃ A cap, v = .slice A os.length cap ∧ os.length ≤ cap ∧ (os ≠ [] → ∃ b o, A = some ⟨b, o, none⟩ ∧ ∀ j, j < os.length → ∃ vt, TextsAt w vt (os.getD j OpV.zero).svc.tags ∧ w.rangeAt b (o + j * 21) (opc (os.getD j OpV.zero) vt).toList)
theorem rangeAt_below {w w' : World} {b o : Nat} {cs : List Value} (h : w.rangeAt b o cs) (hb : Below w.heap.size w w') : w'.rangeAt b o cs := fun j v hv => cell_keep hb (h j v hv)
theorem OpsAt.below {w w' : World} {v : Value} {os : List OpV} (h : OpsAt w v os) (hb : Below w.heap.size w w') : OpsAt w' v os := by
  obtain ⟨A, cap, hv, hc, h⟩ := h
  refine ⟨A, cap, hv, hc, fun hn => ?_⟩
  obtain ⟨b, o, hA, hcell⟩ := h hn
  refine ⟨b, o, hA, fun j hj => ?_⟩
  obtain ⟨vt, h1, h2⟩ := hcell j hj
  exact ⟨vt, h1.below hb, rangeAt_below h2 hb⟩
/-- A sound list of operations. -/
def SoundV (os : List OpV) : Prop := (1 ≤ os.length ∧ os.length ≤ 64) ∧ ∀ j, j < os.length → fixOp (os.getD j OpV.zero) = (os.getD j OpV.zero, 0)
theorem tagsV_le (l : List ByteArray) : (tagsV l).1.length ≤ 16 := by
  by_cases h : 16 < l.length
  · rw [tagsV_long h]; simp
  · by_cases hb : ∀ j, j < l.length → (labelV (l.getD j ByteArray.empty)).2 = 0
    · rw [tagsV_ok h hb]
      show (compactS _).length ≤ 16
      unfold compactS
      rw [List.length_map]
      refine Nat.le_trans (Lib.compact_length_le _) ?_
      rw [List.length_map, sortS_length, List.length_map]
      omega
    · unfold tagsV
      rw [if_neg h, if_neg hb]
      simp
theorem fixOp_tags {o r : OpV} {x : Int} (h : fixOp o = (r, x)) : r.svc.tags.length ≤ 16 := by
  unfold fixOp at h
  split at h
  · have h := (Prod.mk.inj h).1
    subst h
    show (fixRec o).2.1.tags.length ≤ 16
    unfold fixRec
    split
    · exact Nat.zero_le _
    · split
      · show (fixSvc o.svc).1.tags.length ≤ 16
        by_cases hz : svcE o.svc = 0
        · rw [fixSvc_ok hz]; exact tagsV_le _
        · rw [fixSvc_bad hz]; exact Nat.zero_le _
      · split
        · exact Nat.zero_le _
        · split
          · exact Nat.zero_le _
          · split
            · exact Nat.zero_le _
            · split <;> exact Nat.zero_le _
  · have h := (Prod.mk.inj h).1
    subst h
    exact Nat.zero_le _
theorem opc_one {o : OpV} {A : Option Addr} {n c : Nat} : (opc o (.slice A n c)).toList.all (·.oneCell') = true := rfl
theorem fixOp_op (o : OpV) (hs : OpSmall o) (v : Value) (w : World) (hv : VarsOk w) (h : TextsAt w v o.svc.tags) :
    Calls Tryz.prog 42 #[.agg (opc o v)] w fun e w' => ∃ r x v', fixOp o = (r, x) ∧ e = .returned (.tuple #[.agg (opc r v'), .int .i64 x]) ∧ w'.ownsRow w.heap.size 9 1 v' r.svc.tags.length (tx r.svc.tags) ∧ Below w.heap.size w w' :=
  fixOp_calls o.kind o.nod.name o.nod.addr o.nod.made o.nod.changed o.svc.node o.svc.id o.svc.name o.svc.port v o.svc.tags o.svc.made o.svc.changed o.chk.node o.chk.id o.chk.service o.chk.status o.chk.note o.chk.made o.chk.changed o.cas o.want
    (by have := hs.h1; omega) (by have := hs.h2; omega) (by have := hs.h3; omega) (by have := hs.h4; omega) (by have := hs.h5; omega) (fun t ht => by have := hs.ht t ht; omega) (by have := hs.h6; omega) (by have := hs.h7; omega) (by have := hs.h8; omega) (by have := hs.h9; omega) w hv h
section
variable {P : Program} {ops : Array Oper} {rest : List Oper} {o : Oper} {a : Act} {w : World} {Q : Exit → Act → World → Prop}
/-- A load of a whole variable under a guard that is met. -/
theorem load_row_g (hw : Region.wanted o (yielded ops a.tmps) = true) (ty : TypeId) (x : Operand) (ho : o.op = .load ty x)
    (g : Nat) (hx : a.eval x = .pointer (some ⟨g, 0, none⟩)) (t : TypeId) (cs : Array Value) (fr : Nat × Nat) (d : TypeDesc) (hg : w.heap[g]? = some (.cells cs t fr))
    (hu : P.underlying ty = some d) (hd : (match d with | .struct _ | .array _ _ => true | _ => false) = true) (hi : (P.info? ty).map (·.size) = some cs.size)
    (h : wpList P ops Q rest (a.put o.dst (.agg cs)) w) : wpList P ops Q (o :: rest) a w :=
  wpList_step fun K hK => by
    rw [if_pos hw]
    exact wp_load_row ty x ho g hx t cs fr d hg hu hd hi (hK _ _ h)
end
/-- What the loop knows of memory. -/
structure SndW (w : World) (os : List OpV) (wr : World) : Prop where
  below : Below w.heap.size w wr
  size : w.heap.size < wr.heap.size
set_option maxHeartbeats 4000000 in
set_option maxRecDepth 100000 in
theorem sound_calls (idx : Int) (v : Value) (os : List OpV) (hs : ∀ j, j < os.length → OpSmall (os.getD j OpV.zero)) (hn : os.length ≤ 1048576) (w : World) (hv : VarsOk w) (h : OpsAt w v os) :
    Calls Tryz.prog 24 #[.agg #[.int .u64 idx, v]] w fun e w' => (∃ x : Bool, e = .returned (.bool x) ∧ (x = true ↔ SoundV os)) ∧ Below w.heap.size w w' := by
  obtain ⟨A, cap, rfl, hcap, hx⟩ := h
  have HC := Lib.hid hx
  have HS := Lib.hid hs
  have HV := Lib.hid hv
  clear hs hv hx
  go_enter Tryz.func24, Tryz.ntmps24
  go_wp2
  have HB0 : Hid (Below w.heap.size w (w.alloc (.cells #[.int .u64 idx, .slice A os.length cap] 25))) := Lib.hid ((Below.refl _ w).alloc (Nat.le_refl _) _)
  have HC0 := Lib.hid (blk_new w (.cells #[.int .u64 idx, .slice A os.length cap] 25))
  have hsz0 : w.heap.size + 1 ≤ (w.alloc (.cells #[.int .u64 idx, .slice A os.length cap] 25)).heap.size := by simp
  generalize w.alloc (.cells #[.int .u64 idx, .slice A os.length cap] 25) = w0 at HB0 HC0 hsz0
  go_loopw [10] (fun i wr => ∃ k : Nat, k ≤ os.length ∧ i = .int .i64 k ∧ w.heap.size + 1 ≤ wr.heap.size ∧ Hid (wr.heap[w.heap.size]? = some (.cells #[.int .u64 idx, .slice A os.length cap] 25 (0, 0))) ∧ Hid (Below w.heap.size w wr) ∧ Hid (∀ j, j < k → fixOp (os.getD j OpV.zero) = (os.getD j OpV.zero, 0))) (fun i _ => os.length - (intOf i).toNat)
  case atStart => exact ⟨0, Nat.zero_le _, rfl, hsz0, HC0, HB0, Lib.hid (fun j hj => absurd hj (Nat.not_lt_zero _))⟩
  case round =>
    obtain ⟨k, hk, rfl, hsz, HE, hB, hG⟩ := hrel
    by_cases hlt : k < os.length
    · obtain ⟨b, o, rfl, hc⟩ := HC.out (by intro e; subst e; simp at hlt)
      obtain ⟨vt, hvt, hr⟩ := hc k hlt
      have hsm := HS.out k hlt
      have hg2 : ∀ (_ : fixOp (os.getD k OpV.zero) = (os.getD k OpV.zero, 0)), Hid (∀ j, j < k + 1 → fixOp (os.getD j OpV.zero) = (os.getD j OpV.zero, 0)) := fun e => Lib.hid (fun j hj => by
        by_cases e2 : j = k
        · subst e2; exact e
        · exact hG.out j (by omega))
      have hbad : ∀ (_ : ¬ fixOp (os.getD k OpV.zero) = (os.getD k OpV.zero, 0)), Hid (¬ SoundV os) := fun e => Lib.hid (fun q => e (q.2 k hlt))
      generalize os.getD k OpV.zero = O at hvt hr hsm hg2 hbad
      have HR := Lib.hid (rangeAt_below hr hB.out)
      have HT := Lib.hid (hvt.below hB.out)
      have HM := Lib.hid hsm
      obtain ⟨A1, p1, rfl, _⟩ := hvt
      clear hc hr hsm
      go_upto_region 4 with (first | (refine wpList_load_mid rfl 53 (.tmp 12) rfl b (o + k * 21) rfl (opc O (.slice A1 O.svc.tags.length p1)).toList _ HR.out Tryz.underlying53 rfl (by kernel_rfl) ?_) | (refine store_whole rfl 53 4 (.tmp 13) rfl rfl wr.heap.size #[.int .i64 0, .string E0, .string E0, .int .u64 0, .int .u64 0, .string E0, .string E0, .string E0, .int .i64 0, .slice none 0 0, .int .u64 0, .int .u64 0, .string E0, .string E0, .string E0, .int .i64 0, .string E0, .int .u64 0, .int .u64 0, .bool false, .int .u64 0] (opc O (.slice A1 O.svc.tags.length p1)) 53 rfl rfl (blk_new _ _) (by kernel_rfl) rfl rfl ?_; intro W1 hW1 q1 pK))
      have B1 : Below wr.heap.size wr W1 := by rw [hW1.out]; exact below_setRow ((Below.refl _ wr).alloc (Nat.le_refl _) _) (Nat.le_refl _)
      have z1 : W1.heap.size = wr.heap.size + 1 := by rw [hW1.out]; simp [World.setRow]
      have HT1 := Lib.hid (HT.out.below B1)
      have HB1 := Lib.hid (hB.out.trans (B1.mono hB.out.size))
      have HE1 := Lib.hid (blk_keep B1 HE.out)
      have HV1 := Lib.hid (HV.out.below HB1.out)
      have HQ1 := Lib.hid q1
      clear hW1 pK B1 q1
      go_wp2_with (first | (refine wpList_load_row rfl 53 (.tmp 4) rfl wr.heap.size rfl _ _ _ _ HQ1.out Tryz.underlying53 rfl (by kernel_rfl) ?_) | (go_at_call 42; refine (fixOp_op O HM.out _ _ HV1.out HT1.out).mono ?_))
      rintro e w2 ⟨r, x, v', hf, rfl, ho, hb2⟩
      have hf2 := Lib.hid hf
      have hl16 := fixOp_tags hf
      have q2 := blk_keep hb2 HQ1.out
      have z2 : wr.heap.size + 1 ≤ w2.heap.size := by have := hb2.size; omega
      have HT2 := Lib.hid (HT1.out.below hb2)
      have HB2 := Lib.hid (HB1.out.trans (hb2.mono (by omega)))
      have HE2 := Lib.hid (blk_keep hb2 HE1.out)
      have HO2 := Lib.hid (TextsAt.of_own ho)
      have HQ2 := Lib.hid q2
      obtain ⟨A2, p2, rfl⟩ := own_slice ho
      clear hf hb2 q2 ho HT1 HB1 HE1 HQ1 HV1
      go_upto_region 5 with (refine store_whole rfl 53 5 (.tmp 17) rfl rfl w2.heap.size #[.int .i64 0, .string E0, .string E0, .int .u64 0, .int .u64 0, .string E0, .string E0, .string E0, .int .i64 0, .slice none 0 0, .int .u64 0, .int .u64 0, .string E0, .string E0, .string E0, .int .i64 0, .string E0, .int .u64 0, .int .u64 0, .bool false, .int .u64 0] (opc r (.slice A2 r.svc.tags.length p2)) 53 rfl rfl (blk_new _ _) (by kernel_rfl) rfl rfl ?_; intro W3 hW3 q3 pK)
      have B3 : Below w2.heap.size w2 W3 := by rw [hW3.out]; exact below_setRow ((Below.refl _ w2).alloc (Nat.le_refl _) _) (Nat.le_refl _)
      have z3 : W3.heap.size = w2.heap.size + 1 := by rw [hW3.out]; simp [World.setRow]
      have HT3 := Lib.hid (HT2.out.below B3)
      have HO3 := Lib.hid (HO2.out.below B3)
      have HB3 := Lib.hid (HB2.out.trans (B3.mono (by omega)))
      have HE3 := Lib.hid (blk_keep B3 HE2.out)
      have HQ3 := Lib.hid (blk_keep B3 HQ2.out)
      have HR3 := Lib.hid q3
      clear hW3 pK B3 q3 HT2 HO2 HB2 HE2 HQ2
      by_cases hx0 : x = 0
      · subst hx0
        go_wp2_with (first | (refine load_row_g (by rfl) 53 (.tmp 5) rfl w2.heap.size rfl _ _ _ _ HR3.out Tryz.underlying53 rfl (by kernel_rfl) ?_) | (refine load_row_g (by rfl) 53 (.tmp 4) rfl wr.heap.size rfl _ _ _ _ HQ3.out Tryz.underlying53 rfl (by kernel_rfl) ?_) | (go_at_call 43; refine (sameOp_calls r O _ _ _ HO3.out HT3.out (by omega)).mono ?_))
        rintro e w4 ⟨⟨x, rfl, hx⟩, hb4⟩
        have HB4 := Lib.hid (HB3.out.trans (hb4.mono (by omega)))
        have HE4 := Lib.hid (blk_keep hb4 HE3.out)
        have z4 : w.heap.size + 1 ≤ w4.heap.size := by have := hb4.size; omega
        have HX := Lib.hid hx
        clear hb4 hx
        cases x
        · have hb := hbad (fun e => by
            have := hf2.out.symm.trans e
            have := HX.out.2 (Prod.mk.inj this).1
            cases this)
          go_wp2
          go_ret
          exact ⟨⟨false, rfl, Iff.intro (fun h => by cases h) (fun h => absurd h hb.out)⟩, HB4.out⟩
        · have hg3 := hg2 (by rw [hf2.out, HX.out.1 rfl])
          go_wp2
          go_roundw
          case rel => exact ⟨k + 1, by omega, by go_num, z4, HE4, HB4, hg3⟩
          case measure => simp [intOf]; omega
      · have t1 : (x != 0) = true := bne_iff_ne.2 hx0
        have hb := hbad (fun e => hx0 (by rw [e] at hf2; exact (Prod.mk.inj hf2.out).2.symm))
        go_wp2
        go_ret
        exact ⟨⟨false, rfl, Iff.intro (fun h => by cases h) (fun h => absurd h hb.out)⟩, HB3.out⟩
    · obtain rfl : k = os.length := by omega
      have e1 := Blk.cell HE.out 1
      simp only [List.getElem?_toArray, List.getElem?_cons_zero, List.getElem?_cons_succ] at e1
      have hcl : os.length < 1 ∨ (1 ≤ os.length ∧ os.length ≤ 64) ∨ 64 < os.length := by omega
      rcases hcl with h1 | h1 | h1
      · have t1 : decide (1 ≤ (os.length : Int)) = false := decide_eq_false (by omega)
        have hz : os.length = 0 := by omega
        have hb := Lib.hid (show ¬ SoundV os from fun q => by have := q.1.1; omega)
        clear h1 hG
        go_wp2
        go_ret
        exact ⟨⟨false, rfl, Iff.intro (fun h => by cases h) (fun h => absurd h hb.out)⟩, hB.out⟩
      · have t1 : decide (1 ≤ (os.length : Int)) = true := decide_eq_true (by omega)
        have t2 : decide ((os.length : Int) ≤ 64) = true := decide_eq_true (by omega)
        have hb := Lib.hid (show SoundV os from ⟨h1, fun j hj => hG.out j hj⟩)
        go_wp2
        go_ret
        exact ⟨⟨true, rfl, Iff.intro (fun h => hb.out) (fun h => rfl)⟩, hB.out⟩
      · have t1 : decide (1 ≤ (os.length : Int)) = true := decide_eq_true (by omega)
        have t2 : decide ((os.length : Int) ≤ 64) = false := decide_eq_false (by omega)
        have hb := Lib.hid (show ¬ SoundV os from fun q => by have := q.1.2; omega)
        go_wp2
        go_ret
        exact ⟨⟨false, rfl, Iff.intro (fun h => by cases h) (fun h => absurd h hb.out)⟩, hB.out⟩
end Go.Proofs.YtkhgfdlinobabaaGreatDoor.G
