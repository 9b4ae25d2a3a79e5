/- journal.Encode: the frame of a sound entry. -/
import Derived.Test.YtkhgfdlinobabaaGreatDoorJOpB
import Derived.Test.YtkhgfdlinobabaaGreatDoorJSum
import Derived.Lib.BufferWrite
namespace Go.Proofs.YtkhgfdlinobabaaGreatDoor.G
open Go.RowKit
set_option linter.unusedVariables false
set_option linter.unusedSimpArgs false
attribute [local go_sem ↓] Go.wp_at_zero Go.wp_at_succ
theorem calls_hid {P : Program} {f : FuncId} {a : Array Value} {w : World} {Q : Ending → World → Prop} (h : Calls P f a w Q) : Calls P f a w (fun e w' => Hid (Q e w')) := h.mono fun e w' h => Lib.hid h
theorem TxtK.of_texts {w : World} {vt : Value} {ls : List ByteArray} (h : TextsAt w vt ls) : TxtK w.heap.size w vt ls := by
  refine ⟨h, fun hn k hk => .inl ?_⟩
  obtain ⟨A, cap, rfl, _, hx⟩ := h
  obtain ⟨b, o, rfl, hc⟩ := hx hn
  have : k = b := by simpa [Value.ownBlock] using hk.symm
  subst this
  exact World.block_lt_of_cell? w _ (hc 0 (List.length_pos_iff.2 hn))
theorem BytesAt.of_bs {base : Nat} {w : World} {v : Value} {l : List UInt8} (h : Bs base w v l) : BytesAt w v l := by
  have hc := fun (g : Nat) (hg : v.ownBlock = some g) => World.ownsRow.cells h hg
  rcases h.2 with ⟨hv, h0⟩ | ⟨g, cap, cur, hv, hb, hh, hn, _⟩
  · have : l = [] := List.eq_nil_of_length_eq_zero h0
    subst this
    exact ⟨none, 0, hv, Nat.le_refl _, fun h => absurd rfl h⟩
  · refine ⟨_, cap, hv, hn, fun _ => ⟨g, 0, rfl, fun j hj => ?_⟩⟩
    have := hc g (by rw [hv]; rfl) j (.int .u8 (l[j].toNat : Int)) (by simp [Lib.byteCells, hj])
    have hadd : (⟨g, 0, none⟩ : Addr).add j = ⟨g, 0 + j, none⟩ := by unfold Addr.add; split <;> simp_all
    rw [hadd] at this
    rw [this]
    simp [hj, List.getD]
theorem Bs.one {base : Nat} {w : World} (x : UInt8) (c : Int) (hc : (x.toNat : Int) = c) (hb : base ≤ w.heap.size) : Bs base (w.alloc (.cells #[.int .u8 c] 5)) (.slice (some ⟨w.heap.size, 0, none⟩) 1 1) [x] := by
  subst hc
  exact ⟨rfl, .inr ⟨w.heap.size, 1, _, rfl, hb, blk_new _ _, Nat.le_refl _, by decide, rfl, rfl⟩⟩
theorem Bs.keepApp {base base' : Nat} {w w' : World} {v v2 v3 : Value} {l : List UInt8} (h : Bs base w v l) (k : App base' v2 w v3 w') (hne : ∀ i, v.ownBlock = some i → v2.ownBlock ≠ some i) : Bs base w' v l := by
  refine ⟨h.1, ?_⟩
  rcases h.2 with h2 | ⟨g, cap, cur, hv, hg, hh, r⟩
  · exact .inl h2
  · exact .inr ⟨g, cap, cur, hv, hg, k.rest g _ hh (hne g (by rw [hv]; rfl)), r⟩
/-- A list of bytes behind a list of one's own, as one step. -/
theorem app_bytes {ops : Array Oper} {rest : List Oper} {o : Oper} {a : Act} {Q : Exit → Act → World → Prop} {w : World} (hgd : o.guard = none) (s x : Operand) (ho : o.op = .call { callee := .builtin .append, args := #[s, x], argTypes := #[28, 28] }) (base : Nat) (v : Value) (l : List UInt8) (vx : Value) (lx : List UInt8)
    (hs : a.eval s = v) (hx : a.eval x = vx) (hl : l.length + lx.length ≤ 140737488000000) (hb : base ≤ w.heap.size) (h1 : Bs base w v l) (h2 : BytesAt w vx lx) (hn : lx ≠ [])
    (h : ∀ v' w', Hid (Bs base w' v' (l ++ lx)) → Hid (App base v w v' w') → wpList Tryz.prog ops Q rest (a.put o.dst v') w') : wpList Tryz.prog ops Q (o :: rest) a w := by
  obtain ⟨i0, hi, hz0, hz1, hz2⟩ := info_parts info_byte
  obtain ⟨A, cap, rfl, hcap, hc⟩ := h2
  obtain ⟨b, q, rfl, hc2⟩ := hc hn
  refine wpList_append_own_at _ hgd s x 28 ho base 5 i0 (.int .u8 0) 1 1 Tryz.underlying28 hi hz0 hz1 hz2 rfl (by decide) v l.length (Lib.byteCells l) hs h1 ⟨b, q, none⟩ lx.length cap (Lib.byteCells lx) hx (by simp [Lib.byteCells]) ?_ (Lib.byteCells_one lx) (by unfold maxLen; omega) (by omega) hb ?_
  · intro j u hj
    have hjl : j < lx.length := by
      have := (List.getElem?_eq_some_iff.1 hj).1
      simpa [Lib.byteCells] using this
    have := hc2 j hjl
    have hadd : (⟨b, q, none⟩ : Addr).add j = ⟨b, q + j, none⟩ := by unfold Addr.add; split <;> simp_all
    rw [hadd, this]
    have e : (Lib.byteCells lx)[j]? = some (.int .u8 ((lx.getD j 0).toNat : Int)) := by simp [Lib.byteCells, hjl, List.getD]
    rw [e] at hj
    exact hj
  · intro v' w' ho hg _ hat
    refine h v' w' (Lib.hid ?_) (Lib.hid (App.grown h1 hg hb hat))
    show World.ownsRow _ _ _ _ _ _ _
    rw [Lib.byteCells_append, List.length_append]
    exact ho
/-- The operations' bytes. -/
def opsB (os : List OpV) : List UInt8 := os.flatMap opB
def payB (idx : Nat) (os : List OpV) : List UInt8 := (bigB idx 8 ++ [UInt8.ofNat os.length]) ++ opsB os
def frameB (idx : Nat) (os : List OpV) : List UInt8 := ((([77] : List UInt8) ++ bigB (payB idx os).length 4) ++ payB idx os) ++ bigB (sumB (payB idx os)) 4
theorem firstE_zero : ∀ (es : List Int), firstE es = 0 → ∀ e ∈ es, e = 0
  | [], _, e, h => by simp at h
  | x :: r, h, e, he => by
    unfold firstE at h
    by_cases hx : x = 0
    · rw [if_pos hx] at h
      rcases List.mem_cons.1 he with rfl | he
      · exact hx
      · exact firstE_zero r h e he
    · rw [if_neg hx] at h; exact absurd h hx
/-- A sound operation can be written. -/
theorem fixOp_plain {o : OpV} (h : fixOp o = (o, 0)) (hw : 0 ≤ o.want ∧ o.want < 18446744073709551616) : OpPlain o := by
  have hz : firstE [(fixRec o).2.2.2.1, (fixRec o).2.2.2.2] = 0 := by
    unfold fixOp at h
    split at h
    · assumption
    · have h2 := (Prod.mk.inj h).2
      exact h2
  have e1 := firstE_zero _ hz (fixRec o).2.2.2.1 (by simp)
  refine ⟨?_, ?_, ?_, hw⟩
  · by_cases h1 : o.kind = 1 ∨ o.kind = 2 ∨ o.kind = 3 ∨ o.kind = 4 ∨ o.kind = 5 ∨ o.kind = 6
    · omega
    · unfold fixRec at e1
      rw [if_neg (by omega), if_neg (by omega), if_neg (by omega), if_neg (by omega), if_neg (by omega), if_neg (by omega)] at e1
      exact absurd e1 (by decide)
  · intro hk
    unfold fixRec at e1
    rw [if_neg (by omega), if_pos hk] at e1
    have e2 : svcE o.svc = 0 := by
      by_cases hs : svcE o.svc = 0
      · exact hs
      · rw [fixSvc_bad hs] at e1; exact e1
    have e3 := firstE_zero _ e2 (if o.svc.port < 1 ∨ 65535 < o.svc.port then 92 else 0) (by simp)
    by_cases hp : o.svc.port < 1 ∨ 65535 < o.svc.port
    · rw [if_pos hp] at e3; exact absurd e3 (by decide)
    · omega
  · intro hk
    unfold fixRec at e1
    rw [if_neg (by omega), if_neg (by omega), if_pos hk] at e1
    have e2 : chkE o.chk = 0 := by
      by_cases hs : chkE o.chk = 0
      · exact hs
      · rw [fixChk_bad hs] at e1; exact e1
    have e3 := firstE_zero _ e2 (if o.chk.status < 1 ∨ 3 < o.chk.status then 94 else 0) (by simp)
    by_cases hp : o.chk.status < 1 ∨ 3 < o.chk.status
    · rw [if_pos hp] at e3; exact absurd e3 (by decide)
    · omega
theorem opB_len {o : OpV} (hs : OpSmall o) (h : o.svc.tags.length ≤ 16) : (opB o).length ≤ 25000000 := by
  have hc : (casB o.cas o.want.toNat).length ≤ 9 := by unfold casB; cases o.cas <;> simp [bigB_len]
  have ht := textB_len o.svc.tags hs.ht
  have t2 : ∀ a b : ByteArray, a.size ≤ 1048576 → b.size ≤ 1048576 → (textB [a, b]).length ≤ 2097154 := fun a b h1 h2 => by
    have := textB_len [a, b] (by intro t ht; simp at ht; rcases ht with rfl | rfl <;> assumption)
    simpa using this
  have t3 : ∀ a b c : ByteArray, a.size ≤ 1048576 → b.size ≤ 1048576 → c.size ≤ 1048576 → (textB [a, b, c]).length ≤ 3145731 := fun a b c h1 h2 h3 => by
    have := textB_len [a, b, c] (by intro t ht; simp at ht; rcases ht with rfl | rfl | rfl <;> assumption)
    simpa using this
  have t1 : ∀ a : ByteArray, a.size ≤ 1048576 → (textB [a]).length ≤ 1048577 := fun a h1 => by
    have := textB_len [a] (by intro t ht; simp at ht; subst ht; assumption)
    simpa using this
  have htg : o.svc.tags.length * 1048577 ≤ 16 * 1048577 := Nat.mul_le_mul_right _ h
  have hr : (recB o).length ≤ 24000000 := by
    have a1 := t2 _ _ hs.h1 hs.h2
    have a2 := t3 _ _ _ hs.h3 hs.h4 hs.h5
    have a3 := t3 _ _ _ hs.h6 hs.h7 hs.h8
    have a4 := t1 _ hs.h9
    have a5 := t1 _ hs.h1
    have a6 := t2 _ _ hs.h3 hs.h4
    have a7 := t2 _ _ hs.h6 hs.h7
    unfold recB
    split
    · omega
    · split
      · simp only [List.length_append, List.length_cons, bigB_len]; omega
      · split
        · simp only [List.length_append, List.length_cons]; omega
        · split
          · omega
          · split
            · omega
            · split
              · omega
              · simp
  unfold opB
  simp only [List.length_cons, List.length_append]
  omega
theorem opsB_len (os : List OpV) (h : ∀ o ∈ os, (opB o).length ≤ 25000000) : (opsB os).length ≤ os.length * 25000000 := by
  induction os with
  | nil => simp [opsB]
  | cons o os ih =>
    have h1 := h o (by simp)
    have h2 := ih (fun o ho => h o (List.mem_cons_of_mem _ ho))
    simp only [opsB, List.flatMap_cons, List.length_append, List.length_cons] at h2 ⊢
    omega
set_option maxHeartbeats 8000000 in
set_option maxRecDepth 100000 in
theorem encode_calls (idx : Nat) (hidx : idx < 18446744073709551616) (v : Value) (os : List OpV) (hs : ∀ j, j < os.length → OpSmall (os.getD j OpV.zero)) (hwt : ∀ j, j < os.length → 0 ≤ (os.getD j OpV.zero).want ∧ (os.getD j OpV.zero).want < 18446744073709551616) (hn : os.length ≤ 1048576) (w : World) (hv : VarsOk w) (h : OpsAt w v os) :
    Calls Tryz.prog 10 #[.agg #[.int .u64 (idx : Int), v]] w fun e w' => ((¬ SoundV os ∧ e = .returned (.tuple #[.slice none 0 0, .int .i64 130])) ∨ (SoundV os ∧ ∃ v', e = .returned (.tuple #[v', .int .i64 0]) ∧ Bs w.heap.size w' v' (frameB idx os))) ∧ Below w.heap.size w w' := by
  have HOps := Lib.hid h
  obtain ⟨A, cap, rfl, hcap, hx⟩ := h
  have HC := Lib.hid hx
  have HS := Lib.hid hs
  have HW := Lib.hid hwt
  have HV := Lib.hid hv
  clear hs hv hx hwt
  go_enter Tryz.func10, Tryz.ntmps10
  have hbox := blk_new w (.cells #[.int .u64 (idx : Int), .slice A os.length cap] 25)
  have hB0 : Below w.heap.size w (w.alloc (.cells #[.int .u64 (idx : Int), .slice A os.length cap] 25)) := (Below.refl _ w).alloc (Nat.le_refl _) _
  have HB0 := Lib.hid hB0
  have HBX := Lib.hid hbox
  have z0 : (w.alloc (.cells #[.int .u64 (idx : Int), .slice A os.length cap] 25)).heap.size = w.heap.size + 1 := by simp
  clear hbox hB0
  go_wp2_with (first | (refine wpList_load_row rfl 25 (.tmp 1) rfl w.heap.size rfl _ _ _ _ HBX.out Tryz.underlying25 rfl (by kernel_rfl) ?_) | (go_at_call 24; refine (calls_hid (sound_calls (idx : Int) _ os HS.out hn _ (HV.out.below HB0.out) (HOps.out.below HB0.out))).mono ?_))
  rintro e w1 hh
  obtain ⟨hd, hb1⟩ := hh.out
  clear hh
  replace hb1 := hb1.mono (B' := w.heap.size + 1) (by simp)
  have bx1 := (hb1.block w.heap.size (by omega)).trans HBX.out
  have HB1 := Lib.hid (HB0.out.trans (hb1.mono (B' := w.heap.size) (by simp)))
  have z1 : w.heap.size + 1 ≤ w1.heap.size := by have := hb1.size; simp at this; omega
  clear hb1
  rcases hd with ⟨rfl, hx⟩ | ⟨rfl, hx⟩
  · have HX := Lib.hid hx
    clear hx
    go_wp2
    go_ret2
    exact ⟨.inl ⟨HX.out, rfl⟩, HB1.out⟩
  · have hsd := hx
    clear hx
    have hn1 : 1 ≤ os.length := hsd.1.1
    have hn2 : os.length ≤ 64 := hsd.1.2
    have HSD := Lib.hid hsd
    have hwn : IntKind.u8.wrap (os.length : Int) = (os.length : Int) := by simp [IntKind.wrap, IntKind.bits, IntKind.signed]; omega
    have HNB := Lib.hid (show ((UInt8.ofNat os.length).toNat : Int) = (os.length : Int) from by rw [UInt8.toNat_ofNat']; omega)
    have BX1 := Lib.hid bx1
    have mkS := Lib.hid (fun (W : World) (h : W.heap[w.heap.size]? = some (.cells #[.int .u64 (idx : Int), .slice A os.length cap] 25 (0, 0))) => (show W.heap[w.heap.size]? = some (.cells #[.int .u64 (idx : Int), .slice A os.length cap] 25 (0, 0)) ∧ W.cell? ⟨w.heap.size, 0, none⟩ = some (.int .u64 (idx : Int)) ∧ W.cell? ⟨w.heap.size, 1, none⟩ = some (.slice A os.length cap) from ⟨h, Blk.cell h 0, Blk.cell h 1⟩))
    clear hsd
    go_upto_region 3 with fail
    go_cut [4] from 8 (fun s4 wx => Bs w.heap.size wx s4 (bigB idx 8 ++ [UInt8.ofNat os.length]) ∧ Kp w.heap.size w wx ∧ w.heap.size + 1 ≤ wx.heap.size ∧ wx.heap[w.heap.size]? = some (.cells #[.int .u64 (idx : Int), .slice A os.length cap] 25 (0, 0)))
    case first =>
      go_region_held3 (fun W => W.heap[w.heap.size]? = some (.cells #[.int .u64 (idx : Int), .slice A os.length cap] 25 (0, 0)) ∧ W.cell? ⟨w.heap.size, 0, none⟩ = some (.int .u64 (idx : Int)) ∧ W.cell? ⟨w.heap.size, 1, none⟩ = some (.slice A os.length cap))
        (first | (exact mkS.out _ (blk_keep (by repeat (first | exact Below.refl _ _ | apply Below.drew | refine Below.alloc ?_ (by simp; try omega) _)) (hK7.out.other _ _ _ _ (blk_keep (by repeat (first | exact Below.refl _ _ | apply Below.drew | refine Below.alloc ?_ (by simp; try omega) _)) (hK5.other _ _ _ _ (blk_keep (by repeat (first | exact Below.refl _ _ | apply Below.drew | refine Below.alloc ?_ (by simp; try omega) _)) bx1) (by decide))) (by decide)))) | (exact mkS.out _ (blk_keep (by repeat (first | exact Below.refl _ _ | apply Below.drew | refine Below.alloc ?_ (by simp; try omega) _)) (hK5.other _ _ _ _ (blk_keep (by repeat (first | exact Below.refl _ _ | apply Below.drew | refine Below.alloc ?_ (by simp; try omega) _)) bx1) (by decide)))) | (exact mkS.out _ (blk_keep (by repeat (first | exact Below.refl _ _ | apply Below.drew | refine Below.alloc ?_ (by simp; try omega) _)) (bx1))))
        (first | (refine step_byte (by rfl) (.tmp 13) (.tmp 18) (by rfl) w.heap.size _ (bigB idx 8) (UInt8.ofNat os.length) (os.length : Int) w5.heap.size (by rfl) (by rfl) (by simp) HNB.out (by rw [bigB_len]; decide) (by have h1 := hK5.size; simp at h1 ⊢; omega) (own_below hO5 (by repeat (first | exact Below.refl _ _ | apply Below.drew | refine Below.alloc ?_ (by simp; try omega) _))) ?_; intro v7 w7 hO7 hK7) | (refine step_byte (by rfl) (.tmp 13) (.tmp 18) (by rfl) w.heap.size _ (bigB idx 8) (UInt8.ofNat os.length) (os.length : Int) w1.heap.size (by rfl) (by rfl) (by refine Blk.cell (cs := #[.int .u8 (os.length : Int)]) (t := 5) ?_ 0; exact blk_keep (by repeat (first | exact Below.refl _ _ | apply Below.drew | refine Below.alloc ?_ (by simp; try omega) _)) (hK5.rest _ _ (blk_new _ _) (by simp [Value.ownBlock]))) HNB.out (by rw [bigB_len]; decide) (by have h1 := hK5.size; simp at h1 ⊢; omega) (own_below hO5 (by repeat (first | exact Below.refl _ _ | apply Below.drew | refine Below.alloc ?_ (by simp; try omega) _))) ?_; intro v7 w7 hO7 hK7) | (go_at_call 25; refine (big_calls w.heap.size _ [] idx 8 hidx (by decide) (by decide) _ (Bs.nil _ _) (by simp; omega)).mono ?_; rintro e w5 ⟨v5, rfl, hO5, hK5⟩))
      all_goals go_wp2_with fail
      all_goals go_meet
      all_goals (case rel => exact ⟨by have := hO7.out; simpa using this, ((Kp.of_below HB1.out (Nat.le_refl _)).trans (App.below (by repeat (first | exact Below.refl _ _ | apply Below.drew | refine Below.alloc ?_ (by simp; try omega) _)) (by omega) hK5).kp).trans (App.below (by repeat (first | exact Below.refl _ _ | apply Below.drew | refine Below.alloc ?_ (by simp; try omega) _)) (by have h1 := hK5.size; simp at h1; omega) hK7.out).kp, by have h1 := hK5.size; have h2 := hK7.out.size; simp at h1 h2; omega, hK7.out.other _ _ _ _ (blk_keep (by repeat (first | exact Below.refl _ _ | apply Below.drew | refine Below.alloc ?_ (by simp; try omega) _)) (hK5.other _ _ _ _ (blk_keep (by repeat (first | exact Below.refl _ _ | apply Below.drew | refine Below.alloc ?_ (by simp; try omega) _)) BX1.out) (by decide))) (by decide)⟩)
    case rest =>
    obtain ⟨hO, hK, hz, hbx⟩ := hcut
    have HO1 := Lib.hid hO
    have HK1 := Lib.hid hK
    have BX2 := Lib.hid hbx
    have c1 := Blk.cell hbx 1
    simp only [List.getElem?_toArray, List.getElem?_cons_zero, List.getElem?_cons_succ] at c1
    clear hO hK hbx BX1 mkS
    go_wp2
    clear c1
    go_loopw [4, 23] (fun s4 i wr => ∃ k : Nat, k ≤ os.length ∧ i = .int .i64 k ∧ Hid (Bs w.heap.size wr s4 ((bigB idx 8 ++ [UInt8.ofNat os.length]) ++ opsB (os.take k))) ∧ Hid (Kp w.heap.size w wr) ∧ w.heap.size + 1 ≤ wr.heap.size ∧ Hid (wr.heap[w.heap.size]? = some (.cells #[.int .u64 (idx : Int), .slice A os.length cap] 25 (0, 0)))) (fun _ i _ => os.length - (intOf i).toNat)
    case atStart => exact ⟨0, Nat.zero_le _, rfl, Lib.hid (by simpa [opsB] using HO1.out), HK1, hz, BX2⟩
    case round =>
      obtain ⟨k, hk, rfl, hL, hKr, hzr, hE⟩ := hrel
      by_cases hlt : k < os.length
      · obtain ⟨b, o, rfl, hc⟩ := HC.out (by intro e; subst e; simp at hlt)
        obtain ⟨vt, hvt, hr⟩ := hc k hlt
        have hsm := HS.out k hlt
        have hpl := fixOp_plain (HSD.out.2 k hlt) (HW.out k hlt)
        have HNX := Lib.hid (show opsB (os.take (k + 1)) = opsB (os.take k) ++ opB (os.getD k OpV.zero) from by
          rw [List.take_add_one, List.getElem?_eq_getElem hlt]; unfold opsB; rw [List.flatMap_append]; congr 1; simp [List.getD, hlt])
        have hlen : ((bigB idx 8 ++ [UInt8.ofNat os.length]) ++ opsB (os.take k)).length ≤ 100000000000000 := by
          have h1 := opsB_len (os.take k) (fun o ho => by
            obtain ⟨j, hj, rfl⟩ := List.getElem_of_mem ho
            have hj2 : j < os.length := by rw [List.length_take] at hj; omega
            have e : (os.take k)[j] = os.getD j OpV.zero := by simp [List.getD, hj2]
            rw [e]
            exact opB_len (HS.out j hj2) (fixOp_tags (HSD.out.2 j hj2)))
          have h2 : (os.take k).length ≤ 64 := by rw [List.length_take]; omega
          have h3 : (os.take k).length * 25000000 ≤ 64 * 25000000 := Nat.mul_le_mul_right _ h2
          simp only [List.length_append, bigB_len, List.length_cons, List.length_nil]
          omega
        generalize os.getD k OpV.zero = O at hvt hr hsm hpl HNX
        have HR := Lib.hid (rangeAt_below hr hKr.out.below)
        have HT := Lib.hid ((TxtK.of_texts hvt).keep hKr.out)
        have HM := Lib.hid hsm
        have HPL := Lib.hid hpl
        obtain ⟨A1, p1, rfl, _⟩ := hvt
        clear hc hr hsm hpl
        go_upto_region 7 with (first | (refine wpList_load_mid rfl 53 (.tmp 25) rfl b (o + k * 21) rfl (opc O (.slice A1 O.svc.tags.length p1)).toList _ HR.out Tryz.underlying53 rfl (by kernel_rfl) ?_) | (refine store_whole rfl 53 6 (.tmp 26) rfl rfl wr.heap.size #[.int .i64 0, .string E0, .string E0, .int .u64 0, .int .u64 0, .string E0, .string E0, .string E0, .int .i64 0, .slice none 0 0, .int .u64 0, .int .u64 0, .string E0, .string E0, .string E0, .int .i64 0, .string E0, .int .u64 0, .int .u64 0, .bool false, .int .u64 0] (opc O (.slice A1 O.svc.tags.length p1)) 53 rfl rfl (blk_new _ _) (by kernel_rfl) rfl rfl ?_; intro W1 hW1 q1 pK))
        have B1 : Below wr.heap.size wr W1 := by rw [hW1.out]; exact below_setRow ((Below.refl _ wr).alloc (Nat.le_refl _) _) (Nat.le_refl _)
        have z2 : W1.heap.size = wr.heap.size + 1 := by rw [hW1.out]; simp [World.setRow]
        have K1 : Kp w.heap.size wr W1 := Kp.of_below B1 (by omega)
        have HT1 := Lib.hid (HT.out.keep K1)
        have HL1 := Lib.hid (show Bs w.heap.size W1 u4 _ from own_below hL.out B1)
        have HKa := Lib.hid (hKr.out.trans K1)
        have HE1 := Lib.hid (blk_keep B1 hE.out)
        have HQ1 := Lib.hid q1
        clear hW1 pK B1 q1 K1
        go_wp2_with (first | (refine wpList_load_row rfl 53 (.tmp 6) rfl wr.heap.size rfl _ _ _ _ HQ1.out Tryz.underlying53 rfl (by kernel_rfl) ?_) | (go_at_call 26; refine (op_calls w.heap.size _ _ O _ HM.out HPL.out hlen _ HL1.out HT1.out (by omega)).mono ?_))
        rintro e w2 ⟨v2, rfl, hO2, hK2⟩
        have z3 : w.heap.size + 1 ≤ w2.heap.size := by have := hK2.size; omega
        have HO2 := Lib.hid (show Bs w.heap.size w2 v2 ((bigB idx 8 ++ [UInt8.ofNat os.length]) ++ opsB (os.take (k + 1))) from by rw [HNX.out, ← List.append_assoc]; exact hO2)
        have HK2 := Lib.hid (HKa.out.trans hK2.kp)
        have HE2 := Lib.hid (hK2.other _ _ _ _ HE1.out (by decide))
        clear hO2 hK2
        go_wp2
        go_roundw
        case rel => exact ⟨k + 1, by omega, by go_num, HO2, HK2, z3, HE2⟩
        case measure => simp [intOf]; omega
      · obtain rfl : k = os.length := by omega
        have hp := hL.out
        rw [List.take_length] at hp
        have hplen : (payB idx os).length ≤ 1600000009 := by
          have h1 := opsB_len os (fun o ho => by
            obtain ⟨j, hj, rfl⟩ := List.getElem_of_mem ho
            have e : os[j] = os.getD j OpV.zero := by simp [List.getD, hj]
            rw [e]
            exact opB_len (HS.out j hj) (fixOp_tags (HSD.out.2 j hj)))
          have h3 : os.length * 25000000 ≤ 64 * 25000000 := Nat.mul_le_mul_right _ hn2
          unfold payB
          simp only [List.length_append, bigB_len, List.length_cons, List.length_nil]
          omega
        have hpne : payB idx os ≠ [] := by
          intro e
          have := congrArg List.length e
          unfold payB at this
          simp [bigB_len] at this
        have HF := Lib.hid (show frameB idx os = ((([77] : List UInt8) ++ bigB (payB idx os).length 4) ++ payB idx os) ++ bigB (sumB (payB idx os)) 4 from rfl)
        have hp2 : Bs w.heap.size wr u4 (payB idx os) := hp
        clear hp
        have hsl := sumS_lt (nums (payB idx os)) (nums_lt _)
        have hsl2 : sumB (payB idx os) < 18446744073709551616 := by unfold sumB; omega
        generalize payB idx os = P at hp2 hplen hpne HF hsl hsl2
        obtain ⟨A3, p3, rfl⟩ := hp2.slice
        have HP := Lib.hid hp2
        have HPN := Lib.hid hpne
        have hw64 : IntKind.u64.wrap (P.length : Int) = (P.length : Int) := by simp [IntKind.wrap, IntKind.bits, IntKind.signed]; omega
        clear hp2 hpne
        go_wp2_with (first | (go_at_call 25; refine (big_calls w.heap.size _ [77] P.length 4 (by omega) (by decide) (by decide) _ (Bs.one 77 77 rfl (by omega)) (by simp; omega)).mono ?_))
        rintro e w5 ⟨v5, rfl, hO5, hK5⟩
        have hpl := fun (i : Nat) (hi : (Value.slice A3 P.length p3).ownBlock = some i) => (World.ownsRow.lt HP.out i hi).2
        have hp5 : Bs w.heap.size w5 (.slice A3 P.length p3) P := by
          refine Bs.keepApp (Bs.alloc HP.out _) hK5 (fun i hi e => ?_)
          have h1 := hpl i hi
          have h2 : wr.heap.size = i := by simpa [Value.ownBlock] using e
          omega
        have hne5 : ∀ i, (Value.slice A3 P.length p3).ownBlock = some i → v5.ownBlock ≠ some i := fun i hi e => by
          have h1 := hpl i hi
          rcases hK5.at_ with h2 | ⟨g, h2, h3⟩
          · rw [h2] at e
            have h4 : wr.heap.size = i := by simpa [Value.ownBlock] using e
            omega
          · rw [h2] at e
            have h4 := Option.some.inj e
            simp at h3
            omega
        have z5 : w.heap.size ≤ w5.heap.size := by have := hK5.size; simp at this; omega
        have HP5 := Lib.hid hp5
        have HO5 := Lib.hid hO5
        have HN5 := Lib.hid hne5
        have HK5 := Lib.hid ((hKr.out.trans ((Kp.refl _ wr).alloc (by omega) _)).trans hK5.kp)
        clear hO5 hK5 hp5 hne5 hpl
        have hws : IntKind.u64.wrap (sumB P : Int) = (sumB P : Int) := by simp [IntKind.wrap, IntKind.bits, IntKind.signed]; omega
        have hl5 : ([77] ++ bigB P.length 4).length = 5 := by simp [bigB_len]
        have HL5 := Lib.hid hl5
        clear hl5
        go_wp2_with (first | (at_builtin; refine app_bytes rfl (.tmp 35) (.tmp 36) rfl w.heap.size v5 ([77] ++ bigB P.length 4) _ P rfl rfl (by rw [HL5.out]; omega) z5 HO5.out (BytesAt.of_bs HP5.out) HPN.out ?_; intro v6 w6 hO6 hK6) | (go_at_call 20; refine (calls_hid (sum_calls _ P (by omega) _ (BytesAt.of_bs (Bs.keepApp HP5.out hK6.out HN5.out)))).mono ?_))
        rintro e w7 hh
        obtain ⟨rfl, rfl⟩ := hh.out
        clear hh
        go_wp2_with (first | (go_at_call 25; refine (big_calls w.heap.size _ _ (sumB P) 4 hsl2 (by decide) (by rw [List.length_append, HL5.out]; omega) _ hO6.out (by have := hK6.out.size; omega)).mono ?_))
        rintro e w8 ⟨v8, rfl, hO8, hK8⟩
        have HR := Lib.hid (show Bs w.heap.size w8 v8 (frameB idx os) from by rw [HF.out]; exact hO8)
        have HB8 := Lib.hid (((HK5.out.trans hK6.out.kp).trans hK8.kp).below)
        clear hO8 hK8
        go_wp2
        go_ret2
        exact ⟨.inr ⟨HSD.out, _, rfl, HR.out⟩, HB8.out⟩
end Go.Proofs.YtkhgfdlinobabaaGreatDoor.G
