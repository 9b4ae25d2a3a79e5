/- JournalBack: the law's own walk. -/
import Derived.Test.YtkhgfdlinobabaaGreatDoorJBackL
import Derived.Test.YtkhgfdlinobabaaGreatDoorJSameE
import Derived.Test.YtkhgfdlinobabaaGreatDoorJShort
namespace Go.Proofs.YtkhgfdlinobabaaGreatDoor.G
open Go.RowKit
set_option linter.unusedVariables false
set_option linter.unusedSimpArgs false
theorem BytesAt.below {w w' : World} {v : Value} {l : List UInt8} (h : BytesAt w v l) (hb : Below w.heap.size w w') : BytesAt w' v l := by
  obtain ⟨A, cap, hv, hc, hx⟩ := h
  refine ⟨A, cap, hv, hc, fun hn => ?_⟩
  obtain ⟨b, o, hA, hcell⟩ := hx hn
  exact ⟨b, o, hA, fun j hj => cell_keep hb (hcell j hj)⟩
theorem opsmall_tags {os : List OpV} (hs : ∀ j, j < os.length → OpSmall (os.getD j OpV.zero)) : ∀ j, j < os.length → (os.getD j OpV.zero).svc.tags.length ≤ 1048576 := fun j hj => (hs j hj).hl
/-- A list of bytes, empty or not, behind a list of one's own, as one step. -/
theorem app_any {ops : Array Oper} {rest : List Oper} {o : Oper} {a : Act} {Q : Exit → Act → World → Prop} {w : World} (hgd : o.guard = none) (s x : Operand) (ho : o.op = .call { callee := .builtin .append, args := #[s, x], argTypes := #[28, 28] }) (base : Nat) (v : Value) (l : List UInt8) (vx : Value) (lx : List UInt8)
    (hs : a.eval s = v) (hx : a.eval x = vx) (hl : l.length + lx.length ≤ 140737488000000) (hb : base ≤ w.heap.size) (h1 : Bs base w v l) (h2 : BytesAt w vx lx)
    (h : ∀ v' w', Hid (Bs base w' v' (l ++ lx)) → Hid (App base v w v' w') → wpList Tryz.prog ops Q rest (a.put o.dst v') w') : wpList Tryz.prog ops Q (o :: rest) a w := by
  by_cases hn : lx = []
  · subst hn
    obtain ⟨i0, hi, hz0, hz1, hz2⟩ := info_parts info_byte
    obtain ⟨A, cap, rfl, hcap, hc⟩ := h2
    refine wpList_plain hgd fun K hK => ?_
    have hr : (Builtin.append_ #[28, 28] o.type #[v, .slice A 0 cap]).run Tryz.prog w = .ok v w := by
      rcases h1.2 with ⟨rfl, _⟩ | ⟨g, c, cur, rfl, _, _, hnc, _⟩
      · cases A <;> simp [Builtin.append_, run_underlying Tryz.underlying28, sizeOf, typeInfo, hi, Builtin.lenOf, Builtin.firstCells, loadCells, loadCellsFrom]
      · cases A <;> simp [Builtin.append_, run_underlying Tryz.underlying28, sizeOf, typeInfo, hi, Builtin.lenOf, Builtin.firstCells, loadCells, loadCellsFrom, hnc, storeCells]
    unfold Oper.wp execOp
    simp only [ho, resolve, invoke, builtin, Sem.run_bind, Sem.run_pure, Result.andThen_ok, List.map_toArray, List.map_cons, List.map_nil, hs, hx, List.length_nil, hr]
    exact hK _ _ (h v w (Lib.hid (by rw [List.append_nil]; exact h1)) (Lib.hid (App.refl _ _ _)))
  · exact app_bytes hgd s x ho base v l vx lx hs hx hl hb h1 h2 hn h
set_option maxHeartbeats 4000000 in
set_option maxRecDepth 100000 in
theorem back_law (hfix : ∀ W, VarsOk W → Calls Tryz.prog 7 #[] W (fun e w' => e = .returned (.bool true) ∧ Below W.heap.size W w'))
    (idx : Nat) (hidx : idx < 18446744073709551616) (v : Value) (os : List OpV) (hs : ∀ j, j < os.length → OpSmall (os.getD j OpV.zero)) (hwt : ∀ j, j < os.length → 0 ≤ (os.getD j OpV.zero).want ∧ (os.getD j OpV.zero).want < 18446744073709551616) (hn : os.length ≤ 1048576) (v2 : Value) (lm : List UInt8) (hlm : lm.length ≤ 1048576) (cut : Int) (w : World) (hv : VarsOk w) (h : OpsAt w v os) (hm : BytesAt w v2 lm) :
    Calls Tryz.prog 6 #[.agg #[.int .u64 (idx : Int), v], v2, .int .i64 cut] w fun e w' => e = .returned (.bool true) ∧ Below w.heap.size w w' := by
  have HO := Lib.hid h
  have HM := Lib.hid hm
  have HV := Lib.hid hv
  have HT := Lib.hid (opsmall_tags hs)
  have HS := Lib.hid hs
  have HW := Lib.hid hwt
  obtain ⟨A, cap, rfl, _⟩ := h
  obtain ⟨A2, cap2, rfl, _⟩ := hm
  clear hs hwt hv
  go_enter Tryz.func6, Tryz.ntmps6
  have HB0 := Lib.hid (show Below w.heap.size w (w.alloc (.cells #[.int .u64 (idx : Int), .slice A os.length cap] 25)) from (Below.refl _ w).alloc (Nat.le_refl _) _)
  go_wp2_with (go_at_call 7; refine (hfix _ (HV.out.below HB0.out)).mono ?_)
  rintro e w1 rfl hb1
  have HX := Lib.hid ((hb1.block w.heap.size (by omega)).trans (blk_new w (.cells #[.int .u64 (idx : Int), .slice A os.length cap] 25)))
  have HB1 := Lib.hid (HB0.out.trans (hb1.mono (B' := w.heap.size) (by omega)))
  have z1 : w.heap.size + 1 ≤ w1.heap.size := by have := hb1.size; simp at this; omega
  clear hb1 HB0
  go_wp2_with (first | (refine wpList_load_row rfl 25 (.tmp 3) rfl w.heap.size rfl _ _ _ _ HX.out Tryz.underlying25 rfl (by kernel_rfl) ?_) | (go_at_call 8; refine (calls_hid (copy_calls (idx : Int) _ os HT.out hn _ (HO.out.below HB1.out))).mono ?_))
  rintro e w2 hh
  obtain ⟨v2, vts, rfl, hown, hb2⟩ := hh.out
  clear hh
  have HO2 := Lib.hid hown.at_
  have HX2 := Lib.hid ((hb2.block w.heap.size (by omega)).trans HX.out)
  have HB2 := Lib.hid (HB1.out.trans (hb2.mono (by omega)))
  have z2 : w.heap.size + 1 ≤ w2.heap.size := by have := hb2.size; omega
  clear hown hb2 HB1 HX
  go_wp2_with (go_at_call 10; refine (calls_hid (encode_calls idx hidx _ os HS.out HW.out hn _ (HV.out.below HB2.out) HO2.out)).mono ?_)
  rintro e w3 hh
  obtain ⟨hd, hb3⟩ := hh.out
  clear hh
  have HX3 := Lib.hid ((hb3.block w.heap.size (by omega)).trans HX2.out)
  have HB3 := Lib.hid (HB2.out.trans (hb3.mono (by omega)))
  have z3 : w.heap.size + 1 ≤ w3.heap.size := by have := hb3.size; omega
  rcases hd with ⟨hsd, rfl⟩ | ⟨hsd, v3, rfl, hbs⟩
  · clear hsd hb3
    go_wp2
    go_ret
    exact ⟨rfl, HB3.out⟩
  · have hsh := sound_short hsd HW.out
    have HBs := Lib.hid hbs
    have HL := Lib.hid (fun more => decV_frame idx hidx os hsd hsh more)
    have HC := Lib.hid (fun c hc => decV_cut idx os hsd hsh c hc)
    have hfl : (frameB idx os).length ≤ 131081 := by
      have := payB_short idx os hsd.1.2 hsh
      unfold frameB
      simp only [List.length_append, bigB_len, List.length_cons, List.length_nil]
      omega
    clear hsd hb3 hsh
    generalize frameB idx os = l at HBs HL HC hfl hbs
    obtain ⟨A3, c3, rfl⟩ := hbs.slice
    clear hbs
    have HE := Lib.hid (show Bs w3.heap.size (w3.alloc (.cells #[] 5)) (.slice (some ⟨w3.heap.size, 0, none⟩) 0 0) [] from ⟨rfl, .inr ⟨_, 0, #[], rfl, Nat.le_refl _, blk_new _ _, Nat.le_refl _, by decide, rfl, rfl⟩⟩)
    have HA := Lib.hid (BytesAt.of_bs (Bs.alloc HBs.out (.cells #[] 5)))
    have HM3 := Lib.hid (HM.out.below HB3.out)
    go_wp2_with (first | (at_builtin; refine app_any rfl (.tmp 30) (.tmp 31) rfl w3.heap.size (.slice (some ⟨w3.heap.size, 0, none⟩) 0 0) [] _ l rfl rfl (by simp; omega) (by simp) HE.out HA.out ?_; intro v4 w4 hO4 hK4; have b4 : Hid (Below w3.heap.size w3 w4) := Lib.hid (((Below.refl _ w3).alloc (Nat.le_refl _) _).trans hK4.out.kp.below)) | (at_builtin; refine app_any rfl (.tmp 32) (.tmp 33) rfl w3.heap.size v4 l _ lm rfl rfl (by omega) (by have := b4.out.size; omega) (by have := hO4.out; rwa [List.nil_append] at this) (HM3.out.below b4.out) ?_; intro v5 w5 hO5 hK5; have b5 : Hid (Below w3.heap.size w3 w5) := Lib.hid (b4.out.trans hK5.out.kp.below)) | (go_at_call 19; refine (calls_hid (decode_any v5 (l ++ lm) (by simp; omega) _ (HV.out.below (HB3.out.trans (b5.out.mono (by omega)))) (BytesAt.of_bs hO5.out))).mono ?_))
    rintro e w6 hh
    obtain ⟨hb6, hres⟩ := hh.out
    clear hh
    have hD := HL.out lm
    rcases hres with ⟨n, er, hd, rfl⟩ | ⟨i2, os2, n, er, vo, vts2, hd, rfl, hown6⟩
    · rw [hD] at hd; exact absurd (Prod.mk.inj hd).1 (by simp)
    rw [hD] at hd
    have d1 := Option.some.inj (Prod.mk.inj hd).1
    have d2 := (Prod.mk.inj d1)
    have d3 := Prod.mk.inj (Prod.mk.inj hd).2
    obtain ⟨rfl, rfl⟩ := d2
    obtain ⟨rfl, rfl⟩ := d3
    obtain ⟨A6, c6, rfl⟩ := hown6.slice
    have z5 := b5.out.size
    have b6 : Hid (Below w3.heap.size w3 w6) := Lib.hid (b5.out.trans (hb6.mono z5))
    have hx6 := (b6.out.block w.heap.size (by omega)).trans HX3.out
    have z6 := b6.out.size
    have HX6 := Lib.hid hx6
    have HOg := Lib.hid hown6.at_
    have HOe := Lib.hid (HO.out.below (HB3.out.trans (b6.out.mono (by omega))))
    clear hd d1 hD hown6 hb6 hx6 HE HA HM3 HM
    have hle : ((l.length : Int) != (l.length : Int)) = false := by simp
    go_wp2_with (first | (refine store_whole rfl 25 9 (.tmp 36) rfl rfl w6.heap.size #[.int .u64 0, .slice none 0 0] #[.int .u64 (idx : Int), .slice A6 os.length c6] 25 rfl rfl (blk_new _ _) (by kernel_rfl) rfl rfl ?_; intro W7 hW7 p7 k7; have q7 := (k7 w.heap.size (by omega)).trans (blk_old HX6.out); clear k7; have b7 : Hid (Below w6.heap.size w6 W7) := Lib.hid (by rw [hW7.out]; exact below_setRow ((Below.refl _ w6).alloc (Nat.le_refl _) _) (Nat.le_refl _)); have g0 : W7.cell? ⟨w6.heap.size, 0, none⟩ = some (.int .u64 (idx : Int)) := Blk.cell p7 0; have g1 : W7.cell? ⟨w6.heap.size, 1, none⟩ = some (.slice A6 os.length c6) := Blk.cell p7 1; have e0 : W7.cell? ⟨w.heap.size, 0, none⟩ = some (.int .u64 (idx : Int)) := Blk.cell q7 0; have e1 : W7.cell? ⟨w.heap.size, 1, none⟩ = some (.slice A os.length cap) := Blk.cell q7 1; clear p7 q7 hW7) | (go_at_call 12; refine (calls_hid (sameEntry_eq (idx : Int) os _ _ _ (HOg.out.below b7.out) (HOe.out.below b7.out) HT.out hn)).mono ?_))
    rintro e w8 hh
    obtain ⟨rfl, hb8⟩ := hh.out
    clear hh
    have b8 : Hid (Below w3.heap.size w3 w8) := Lib.hid ((b6.out.trans (b7.out.mono z6)).trans (hb8.mono (by have := b7.out.size; omega)))
    have HB8 := Lib.hid (HB3.out.trans (b8.out.mono (by omega)))
    clear hb8 g0 g1 e0 e1 hle
    by_cases g1 : cut < 0
    · have t1 : decide (cut < 0) = true := decide_eq_true g1
      go_wp2
      go_ret
      exact ⟨rfl, HB8.out⟩
    obtain ⟨c, rfl⟩ : ∃ c : Nat, cut = c := ⟨cut.toNat, by omega⟩
    have t1 : decide ((c : Int) < 0) = false := decide_eq_false g1
    by_cases g2 : l.length ≤ c
    · have t2 : decide ((l.length : Int) ≤ (c : Int)) = true := decide_eq_true (by omega)
      go_wp2
      go_ret
      exact ⟨rfl, HB8.out⟩
    have t2 : decide ((l.length : Int) ≤ (c : Int)) = false := decide_eq_false (by omega)
    have hlt : c < l.length := by omega
    have hlb := BytesAt.of_bs HBs.out
    have hlen3 : l.length ≤ c3 := by
      obtain ⟨A', c', hv', hc', _⟩ := hlb
      injection hv' with _ _ e3
      omega
    have hT : BytesAt w8 (.slice A3 c c3) (l.take c) := (hlb.take c (by omega)).below b8.out
    have HTk := Lib.hid hT
    have hlt2 : (l.take c).length = c := by rw [List.length_take]; omega
    have z8 := b8.out.size
    have HE8 := Lib.hid (show Bs w8.heap.size (w8.alloc (.cells #[] 5)) (.slice (some ⟨w8.heap.size, 0, none⟩) 0 0) [] from ⟨rfl, .inr ⟨_, 0, #[], rfl, Nat.le_refl _, blk_new _ _, Nat.le_refl _, by decide, rfl, rfl⟩⟩)
    have HA8 := Lib.hid (HTk.out.below ((Below.refl _ w8).alloc (Nat.le_refl _) (.cells #[] 5)))
    have HCut := Lib.hid (HC.out c hlt)
    have hi0 : (0 : Int) ≤ (c : Int) := by omega
    have hi1 : (c : Int) ≤ (c3 : Int) := by omega
    have hi2 : c ≤ c3 := by omega
    clear hT hlb
    go_wp2_with (first | (at_builtin; refine app_any rfl (.tmp 62) (.tmp 65) rfl w8.heap.size (.slice (some ⟨w8.heap.size, 0, none⟩) 0 0) [] _ (l.take c) rfl rfl (by simp; omega) (by simp) HE8.out HA8.out ?_; intro v9 w9 hO9 hK9; have b9 : Hid (Below w8.heap.size w8 w9) := Lib.hid (((Below.refl _ w8).alloc (Nat.le_refl _) _).trans hK9.out.kp.below)) | (go_at_call 19; refine (calls_hid (decode_any v9 (l.take c) (by omega) _ (HV.out.below (HB8.out.trans (b9.out.mono (by omega)))) (BytesAt.of_bs (by have := hO9.out; rwa [List.nil_append] at this)))).mono ?_))
    rintro e w10 hh
    obtain ⟨hb10, hres⟩ := hh.out
    clear hh
    rcases hres with ⟨n, er, hd, rfl⟩ | ⟨i2, os2, n, er, vo, vts2, hd, rfl, hown6⟩
    case inr => rw [HCut.out] at hd; exact absurd (Prod.mk.inj hd).1 (by simp)
    rw [HCut.out] at hd
    have d3 := Prod.mk.inj (Prod.mk.inj hd).2
    obtain ⟨rfl, rfl⟩ := d3
    have HB10 := Lib.hid ((HB8.out.trans (b9.out.mono (by omega))).trans (hb10.mono (by have := b9.out.size; omega)))
    clear hd hb10
    go_wp2
    go_ret
    exact ⟨rfl, HB10.out⟩
end Go.Proofs.YtkhgfdlinobabaaGreatDoor.G
