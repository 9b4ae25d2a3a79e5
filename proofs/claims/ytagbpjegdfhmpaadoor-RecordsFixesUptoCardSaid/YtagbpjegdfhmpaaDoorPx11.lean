-- Written by a program of this session (mp.py) over the kit's print.
import Derived.Test.YtagbpjegdfhmpaaDoorPx0
import Derived.Test.YtagbpjegdfhmpaaDoorPx4
import Derived.Test.YtagbpjegdfhmpaaDoorPx10
namespace Go.Proofs.YtagbpjegdfhmpaaDoor.P
open Go.RowKit Go.Proofs.YtagbpjegdfhmpaaDoorW.PrintWords Go.Proofs.YtagbpjegdfhmpaaDoorW.PrintLast Go.Proofs.YtagbpjegdfhmpaaDoorW.PrintMore
attribute [local go_sem] max2_int min2_int max_two min_two max_three min_three max_four min_four   -- for this text's walks alone
open Go.Proofs.YtagbpjegdfhmpaaDoor.G
set_option linter.unusedVariables false
set_option linter.unusedSimpArgs false

/-! ### records_FixCheck: function 33 -/
mutual
def records_FixCheck.j0 : Nat → ByteArray → Int → ByteArray → Int → ByteArray → Int → ByteArray → ByteArray → ByteArray → Int → ByteArray → Int → Int → Option (ByteArray × ByteArray × ByteArray × Int × ByteArray × Int × Int × Int)
  | 0, _, _, _, _, _, _, _, _, _, _, _, _, _ => none
  | k + 1, x4, x5, x6, x7, x8, x9, x265000, x265001, x265002, x265003, x265004, x265005, x265006 => records_FixCheck.l0 k x4 x5 x6 x7 x8 x9 (decide ((x265004.size : Int) > 200)) 0 x265000 x265001 x265002 x265003 x265004 x265005 x265006
def records_FixCheck.j2 : Nat → ByteArray → Int → ByteArray → Int → ByteArray → Int → Bool → ByteArray → ByteArray → ByteArray → Int → ByteArray → Int → Int → Option (ByteArray × ByteArray × ByteArray × Int × ByteArray × Int × Int × Int)
  | 0, _, _, _, _, _, _, _, _, _, _, _, _, _, _ => none
  | k + 1, x4, x5, x6, x7, x8, x9, x10, x265000, x265001, x265002, x265003, x265004, x265005, x265006 => if x265003 < 1 then ((records_when.f true 94).bind fun t272 => ((records_when.f x10 95).bind fun t273 => ((records_first.f k (([x5, x7, x9, t272, t273] : List Int))).bind fun t277 => (if t277 = 0 then (some (x4, x6, x8, x265003, x265004, 0, 0, 0)) else (some ((⟨#[]⟩ : ByteArray), (⟨#[]⟩ : ByteArray), (⟨#[]⟩ : ByteArray), 0, (⟨#[]⟩ : ByteArray), 0, 0, t277)))))) else ((records_when.f (decide (x265003 > 3)) 94).bind fun t278 => ((records_when.f x10 95).bind fun t279 => ((records_first.f k (([x5, x7, x9, t278, t279] : List Int))).bind fun t283 => (if t283 = 0 then (some (x4, x6, x8, x265003, x265004, 0, 0, 0)) else (some ((⟨#[]⟩ : ByteArray), (⟨#[]⟩ : ByteArray), (⟨#[]⟩ : ByteArray), 0, (⟨#[]⟩ : ByteArray), 0, 0, t283))))))
def records_FixCheck.l0 : Nat → ByteArray → Int → ByteArray → Int → ByteArray → Int → Bool → Int → ByteArray → ByteArray → ByteArray → Int → ByteArray → Int → Int → Option (ByteArray × ByteArray × ByteArray × Int × ByteArray × Int × Int × Int)
  | 0, _, _, _, _, _, _, _, _, _, _, _, _, _, _, _ => none
  | k + 1, x4, x5, x6, x7, x8, x9, x10, x11, x265000, x265001, x265002, x265003, x265004, x265005, x265006 => if x11 < (x265004.size : Int) then (if x10 = true then (records_FixCheck.j2 k x4 x5 x6 x7 x8 x9 x10 x265000 x265001 x265002 x265003 x265004 x265005 x265006) else (if 0 ≤ x11 then (if (bt x265004 x11) < 32 then (records_FixCheck.l0 k x4 x5 x6 x7 x8 x9 true (wrap64 (x11 + 1)) x265000 x265001 x265002 x265003 x265004 x265005 x265006) else (records_FixCheck.l0 k x4 x5 x6 x7 x8 x9 (decide ((bt x265004 x11) > 126)) (wrap64 (x11 + 1)) x265000 x265001 x265002 x265003 x265004 x265005 x265006)) else (none))) else (records_FixCheck.j2 k x4 x5 x6 x7 x8 x9 x10 x265000 x265001 x265002 x265003 x265004 x265005 x265006)
end
def records_FixCheck.f (k : Nat) (a0_0 : ByteArray) (a0_1 : ByteArray) (a0_2 : ByteArray) (a0_3 : Int) (a0_4 : ByteArray) (a0_5 : Int) (a0_6 : Int) : Option (ByteArray × ByteArray × ByteArray × Int × ByteArray × Int × Int × Int) := (records_Label.f k a0_0).bind fun bt266 => ((records_Label.f k a0_1).bind fun bt268 => ((records_Label.f k a0_2).bind fun bt270 => (if a0_2.toList = ([] : List UInt8) then (records_FixCheck.j0 k bt266.1 bt266.2 bt268.1 bt268.2 bt270.1 0 a0_0 a0_1 a0_2 a0_3 a0_4 a0_5 a0_6) else (records_FixCheck.j0 k bt266.1 bt266.2 bt268.1 bt268.2 bt270.1 bt270.2 a0_0 a0_1 a0_2 a0_3 a0_4 a0_5 a0_6))))
theorem records_FixCheck.mono_l : ∀ k, (∀ y0 y1 y2 y3 y4 y5 y6 y7 y8 y9 y10 y11 y12, LeO (records_FixCheck.j0 k y0 y1 y2 y3 y4 y5 y6 y7 y8 y9 y10 y11 y12) (records_FixCheck.j0 (k + 1) y0 y1 y2 y3 y4 y5 y6 y7 y8 y9 y10 y11 y12)) ∧ (∀ y0 y1 y2 y3 y4 y5 y6 y7 y8 y9 y10 y11 y12 y13, LeO (records_FixCheck.j2 k y0 y1 y2 y3 y4 y5 y6 y7 y8 y9 y10 y11 y12 y13) (records_FixCheck.j2 (k + 1) y0 y1 y2 y3 y4 y5 y6 y7 y8 y9 y10 y11 y12 y13)) ∧ (∀ y0 y1 y2 y3 y4 y5 y6 y7 y8 y9 y10 y11 y12 y13 y14, LeO (records_FixCheck.l0 k y0 y1 y2 y3 y4 y5 y6 y7 y8 y9 y10 y11 y12 y13 y14) (records_FixCheck.l0 (k + 1) y0 y1 y2 y3 y4 y5 y6 y7 y8 y9 y10 y11 y12 y13 y14))
  | 0 => ⟨fun _ _ _ _ _ _ _ _ _ _ _ _ _ r h => by simp [records_FixCheck.j0] at h, fun _ _ _ _ _ _ _ _ _ _ _ _ _ _ r h => by simp [records_FixCheck.j2] at h, fun _ _ _ _ _ _ _ _ _ _ _ _ _ _ _ r h => by simp [records_FixCheck.l0] at h⟩
  | k + 1 => by
    obtain ⟨ih0, ih1, ih2⟩ := records_FixCheck.mono_l k
    refine ⟨?_, ?_, ?_⟩
    · intro y0 y1 y2 y3 y4 y5 y6 y7 y8 y9 y10 y11 y12
      unfold records_FixCheck.j0
      repeat' first
      | (with_reducible exact ih0 _ _ _ _ _ _ _ _ _ _ _ _ _)
      | (with_reducible exact ih1 _ _ _ _ _ _ _ _ _ _ _ _ _ _)
      | (with_reducible exact ih2 _ _ _ _ _ _ _ _ _ _ _ _ _ _ _)
      | (with_reducible exact records_Label.mono _ _)
      | (with_reducible exact records_first.mono _ _)
      | (with_reducible exact LeO.refl _)
      | (with_reducible exact LeO.none _)
      | (with_reducible refine LeO.ite ?_ ?_)
      | (with_reducible refine LeO.bind ?_ (fun _ => ?_))
      | exact ih0 _ _ _ _ _ _ _ _ _ _ _ _ _
      | exact ih1 _ _ _ _ _ _ _ _ _ _ _ _ _ _
      | exact ih2 _ _ _ _ _ _ _ _ _ _ _ _ _ _ _
      | exact records_Label.mono _ _
      | exact records_first.mono _ _
      | exact LeO.none _
      | refine LeO.ite ?_ ?_
      | refine LeO.bind ?_ (fun _ => ?_)
    · intro y0 y1 y2 y3 y4 y5 y6 y7 y8 y9 y10 y11 y12 y13
      unfold records_FixCheck.j2
      repeat' first
      | (with_reducible exact ih0 _ _ _ _ _ _ _ _ _ _ _ _ _)
      | (with_reducible exact ih1 _ _ _ _ _ _ _ _ _ _ _ _ _ _)
      | (with_reducible exact ih2 _ _ _ _ _ _ _ _ _ _ _ _ _ _ _)
      | (with_reducible exact records_Label.mono _ _)
      | (with_reducible exact records_first.mono _ _)
      | (with_reducible exact LeO.refl _)
      | (with_reducible exact LeO.none _)
      | (with_reducible refine LeO.ite ?_ ?_)
      | (with_reducible refine LeO.bind ?_ (fun _ => ?_))
      | exact ih0 _ _ _ _ _ _ _ _ _ _ _ _ _
      | exact ih1 _ _ _ _ _ _ _ _ _ _ _ _ _ _
      | exact ih2 _ _ _ _ _ _ _ _ _ _ _ _ _ _ _
      | exact records_Label.mono _ _
      | exact records_first.mono _ _
      | exact LeO.none _
      | refine LeO.ite ?_ ?_
      | refine LeO.bind ?_ (fun _ => ?_)
    · intro y0 y1 y2 y3 y4 y5 y6 y7 y8 y9 y10 y11 y12 y13 y14
      unfold records_FixCheck.l0
      repeat' first
      | (with_reducible exact ih0 _ _ _ _ _ _ _ _ _ _ _ _ _)
      | (with_reducible exact ih1 _ _ _ _ _ _ _ _ _ _ _ _ _ _)
      | (with_reducible exact ih2 _ _ _ _ _ _ _ _ _ _ _ _ _ _ _)
      | (with_reducible exact records_Label.mono _ _)
      | (with_reducible exact records_first.mono _ _)
      | (with_reducible exact LeO.refl _)
      | (with_reducible exact LeO.none _)
      | (with_reducible refine LeO.ite ?_ ?_)
      | (with_reducible refine LeO.bind ?_ (fun _ => ?_))
      | exact ih0 _ _ _ _ _ _ _ _ _ _ _ _ _
      | exact ih1 _ _ _ _ _ _ _ _ _ _ _ _ _ _
      | exact ih2 _ _ _ _ _ _ _ _ _ _ _ _ _ _ _
      | exact records_Label.mono _ _
      | exact records_first.mono _ _
      | exact LeO.none _
      | refine LeO.ite ?_ ?_
      | refine LeO.bind ?_ (fun _ => ?_)
theorem records_FixCheck.mono : ∀ a0 a1 a2 a3 a4 a5 a6 k, LeO (records_FixCheck.f k a0 a1 a2 a3 a4 a5 a6) (records_FixCheck.f (k + 1) a0 a1 a2 a3 a4 a5 a6) := by
  intro a0 a1 a2 a3 a4 a5 a6 k
  obtain ⟨ih0, ih1, ih2⟩ := records_FixCheck.mono_l k
  unfold records_FixCheck.f
  repeat' first
      | (with_reducible exact ih0 _ _ _ _ _ _ _ _ _ _ _ _ _)
      | (with_reducible exact ih1 _ _ _ _ _ _ _ _ _ _ _ _ _ _)
      | (with_reducible exact ih2 _ _ _ _ _ _ _ _ _ _ _ _ _ _ _)
      | (with_reducible exact records_Label.mono _ _)
      | (with_reducible exact records_first.mono _ _)
      | (with_reducible exact LeO.refl _)
      | (with_reducible exact LeO.none _)
      | (with_reducible refine LeO.ite ?_ ?_)
      | (with_reducible refine LeO.bind ?_ (fun _ => ?_))
      | exact ih0 _ _ _ _ _ _ _ _ _ _ _ _ _
      | exact ih1 _ _ _ _ _ _ _ _ _ _ _ _ _ _
      | exact ih2 _ _ _ _ _ _ _ _ _ _ _ _ _ _ _
      | exact records_Label.mono _ _
      | exact records_first.mono _ _
      | exact LeO.none _
      | refine LeO.ite ?_ ?_
      | refine LeO.bind ?_ (fun _ => ?_)
set_option maxHeartbeats 8000000 in
set_option maxRecDepth 100000 in
theorem records_FixCheck.calls (k : Nat) (a0_0 : ByteArray) (a0_1 : ByteArray) (a0_2 : ByteArray) (a0_3 : Int) (a0_4 : ByteArray) (a0_5 : Int) (a0_6 : Int) (r1 : ByteArray) (r2 : ByteArray) (r3 : ByteArray) (r4 : Int) (r5 : ByteArray) (r6 : Int) (r7 : Int) (r8 : Int) (w : World) (h : records_FixCheck.f k a0_0 a0_1 a0_2 a0_3 a0_4 a0_5 a0_6 = some (r1, r2, r3, r4, r5, r6, r7, r8)) :
    Calls Tryd.prog 33 #[.agg #[.string a0_0, .string a0_1, .string a0_2, .int .i64 a0_3, .string a0_4, .int .u64 a0_5, .int .u64 a0_6]] w fun e w' => e = .returned (.tuple #[.agg #[.string r1, .string r2, .string r3, .int .i64 r4, .string r5, .int .u64 r6, .int .u64 r7], .int .i64 r8]) ∧ Below w.heap.size w w' := by
  have hu41 := Tryd.underlying41
  have HB := Aside0.mk (Below.refl w.heap.size w)
  have H : ((records_Label.f k a0_0).bind fun bt266 => ((records_Label.f k a0_1).bind fun bt268 => ((records_Label.f k a0_2).bind fun bt270 => (if a0_2.toList = ([] : List UInt8) then (records_FixCheck.j0 k bt266.1 bt266.2 bt268.1 bt268.2 bt270.1 0 a0_0 a0_1 a0_2 a0_3 a0_4 a0_5 a0_6) else (records_FixCheck.j0 k bt266.1 bt266.2 bt268.1 bt268.2 bt270.1 bt270.2 a0_0 a0_1 a0_2 a0_3 a0_4 a0_5 a0_6))))) = some (r1, r2, r3, r4, r5, r6, r7, r8) := h
  clear h
  replace H := Option.bind_eq_some_iff.mp H
  obtain ⟨⟨t266, t267⟩, A20, H⟩ := H
  replace H : ((records_Label.f k a0_1).bind fun bt268 => ((records_Label.f k a0_2).bind fun bt270 => (if a0_2.toList = ([] : List UInt8) then (records_FixCheck.j0 k t266 t267 bt268.1 bt268.2 bt270.1 0 a0_0 a0_1 a0_2 a0_3 a0_4 a0_5 a0_6) else (records_FixCheck.j0 k t266 t267 bt268.1 bt268.2 bt270.1 bt270.2 a0_0 a0_1 a0_2 a0_3 a0_4 a0_5 a0_6)))) = some (r1, r2, r3, r4, r5, r6, r7, r8) := H
  have A2 := Aside0.mk A20
  clear A20
  replace H := Option.bind_eq_some_iff.mp H
  obtain ⟨⟨t268, t269⟩, A30, H⟩ := H
  replace H : ((records_Label.f k a0_2).bind fun bt270 => (if a0_2.toList = ([] : List UInt8) then (records_FixCheck.j0 k t266 t267 t268 t269 bt270.1 0 a0_0 a0_1 a0_2 a0_3 a0_4 a0_5 a0_6) else (records_FixCheck.j0 k t266 t267 t268 t269 bt270.1 bt270.2 a0_0 a0_1 a0_2 a0_3 a0_4 a0_5 a0_6))) = some (r1, r2, r3, r4, r5, r6, r7, r8) := H
  have A3 := Aside0.mk A30
  clear A30
  replace H := Option.bind_eq_some_iff.mp H
  obtain ⟨⟨t270, t271⟩, A40, H⟩ := H
  replace H : (if a0_2.toList = ([] : List UInt8) then (records_FixCheck.j0 k t266 t267 t268 t269 t270 0 a0_0 a0_1 a0_2 a0_3 a0_4 a0_5 a0_6) else (records_FixCheck.j0 k t266 t267 t268 t269 t270 t271 a0_0 a0_1 a0_2 a0_3 a0_4 a0_5 a0_6)) = some (r1, r2, r3, r4, r5, r6, r7, r8) := H
  have A4 := Aside0.mk A40
  clear A40
  have HC5 := Aside0.mk H
  clear H
  go_enter Tryd.func33, Tryd.ntmps33
  go_upto_if 33 with (first | ((with_reducible refine gate_dst (N := 1) rfl ?_); refine box_event ?hg (N := 1) ?hd (cs := #[.string a0_0, .string a0_1, .string a0_2, .int .i64 a0_3, .string a0_4, .int .u64 a0_5, .int .u64 a0_6]) (t := 41) ?hr ?_; (case hd => rfl); (case hg => rfl); (case hr => first | (go_simp; done) | (go_simp; rfl)); intro gb264 hg w6 hbox hb; have n0_ := Aside0.mk (below_step (pl_ HB) hb); have n1_ := Aside0.mk (hbox); have n2_ := Aside0.mk ((by rw [hg]; exact (below_size (pl_ HB)) : w.heap.size ≤ gb264)); have n3_ := n2_; clear HB; have HB := n0_; have BK264 := n1_; have GW264 := n2_; have GE264 := n3_; clear n0_ n1_ n2_ n3_; clear hb hbox hg) | ((with_reducible refine gate_dst (N := 2) rfl ?_); refine box_event ?hg (N := 2) ?hd (cs := #[.string (⟨#[]⟩ : ByteArray), .string (⟨#[]⟩ : ByteArray), .string (⟨#[]⟩ : ByteArray), .int .i64 0, .string (⟨#[]⟩ : ByteArray), .int .u64 0, .int .u64 0]) (t := 41) ?hr ?_; (case hd => rfl); (case hg => rfl); (case hr => first | (go_simp; done) | (go_simp; rfl)); intro gb265 hg w7 hbox hb; have n0_ := pb_ BK264 hb; have n1_ := Aside0.mk (below_step (pl_ HB) hb); have n2_ := Aside0.mk (hbox); have n3_ := Aside0.mk ((by rw [hg]; exact (below_size (pl_ HB)) : w.heap.size ≤ gb265)); have n4_ := n3_; have n5_ := Aside0.mk ((by rw [hg]; exact Nat.ne_of_lt (blk_lt (g := gb264) (o := .cells #[.string a0_0, .string a0_1, .string a0_2, .int .i64 a0_3, .string a0_4, .int .u64 a0_5, .int .u64 a0_6] 41 (0, 0)) (pk_ BK264)) : gb264 ≠ gb265)); have n6_ := Aside0.mk n5_.out.symm; clear BK264; clear HB; have BK264 := n0_; have HB := n1_; have BK265 := n2_; have GW265 := n3_; have GE265 := n4_; have NB264_265 := n5_; have NB265_264 := n6_; clear n0_ n1_ n2_ n3_ n4_ n5_ n6_; clear hb hbox hg; have hnb8 := NB264_265.out; have hnc8 := NB265_264.out; have hcz9_0 : w7.cell? ⟨gb264, 0, none⟩ = some (.string a0_0) := (blk_cell BK264.out 0).trans rfl; have hcz9_1 : w7.cell? ⟨gb264, 1, none⟩ = some (.string a0_1) := (blk_cell BK264.out 1).trans rfl; have hcz9_2 : w7.cell? ⟨gb264, 2, none⟩ = some (.string a0_2) := (blk_cell BK264.out 2).trans rfl; have hcz9_3 : w7.cell? ⟨gb264, 3, none⟩ = some (.int .i64 a0_3) := (blk_cell BK264.out 3).trans rfl; have hcz9_4 : w7.cell? ⟨gb264, 4, none⟩ = some (.string a0_4) := (blk_cell BK264.out 4).trans rfl; have hcz9_5 : w7.cell? ⟨gb264, 5, none⟩ = some (.int .u64 a0_5) := (blk_cell BK264.out 5).trans rfl; have hcz9_6 : w7.cell? ⟨gb264, 6, none⟩ = some (.int .u64 a0_6) := (blk_cell BK264.out 6).trans rfl; have hfz9_0 := blk_frozen BK264.out 0; have hfz9_1 := blk_frozen BK264.out 1; have hfz9_2 := blk_frozen BK264.out 2; have hfz9_3 := blk_frozen BK264.out 3; have hfz9_4 := blk_frozen BK264.out 4; have hfz9_5 := blk_frozen BK264.out 5; have hfz9_6 := blk_frozen BK264.out 6) | ((with_reducible refine gate_callee (f := 12) rfl ?_); refine goesL_ (some 16) rfl rfl Tryd.func12 (by kernel_rfl) rfl #[.string a0_0] rfl (by (try simp only [List.map_toArray, List.map_cons, List.map_nil]); first | done | rfl | (simp only [List.length_drop, List.length_take]; rfl)) ?_; (with_reducible refine (records_Label.calls k a0_0 t266 t267 _ A2.out).mono ?_); rintro e w10 ⟨rfl, hb⟩; refine ⟨_, rfl, ?_⟩; have n0_ := pb_ BK264 hb; have n1_ := pb_ BK265 hb; have n2_ := Aside0.mk (below_step (pl_ HB) hb); clear BK264; clear BK265; clear HB; have BK264 := n0_; have BK265 := n1_; have HB := n2_; clear n0_ n1_ n2_; (try clear hb); (try clear hb2); (try clear hk); (try clear hi); have hcz11_0 : w10.cell? ⟨gb264, 0, none⟩ = some (.string a0_0) := (blk_cell BK264.out 0).trans rfl; have hcz11_1 : w10.cell? ⟨gb264, 1, none⟩ = some (.string a0_1) := (blk_cell BK264.out 1).trans rfl; have hcz11_2 : w10.cell? ⟨gb264, 2, none⟩ = some (.string a0_2) := (blk_cell BK264.out 2).trans rfl; have hcz11_3 : w10.cell? ⟨gb264, 3, none⟩ = some (.int .i64 a0_3) := (blk_cell BK264.out 3).trans rfl; have hcz11_4 : w10.cell? ⟨gb264, 4, none⟩ = some (.string a0_4) := (blk_cell BK264.out 4).trans rfl; have hcz11_5 : w10.cell? ⟨gb264, 5, none⟩ = some (.int .u64 a0_5) := (blk_cell BK264.out 5).trans rfl; have hcz11_6 : w10.cell? ⟨gb264, 6, none⟩ = some (.int .u64 a0_6) := (blk_cell BK264.out 6).trans rfl; have hfz11_0 := blk_frozen BK264.out 0; have hfz11_1 := blk_frozen BK264.out 1; have hfz11_2 := blk_frozen BK264.out 2; have hfz11_3 := blk_frozen BK264.out 3; have hfz11_4 := blk_frozen BK264.out 4; have hfz11_5 := blk_frozen BK264.out 5; have hfz11_6 := blk_frozen BK264.out 6) | ((with_reducible refine gate_callee (f := 12) rfl ?_); refine goesL_ (some 22) rfl rfl Tryd.func12 (by kernel_rfl) rfl #[.string a0_1] rfl (by (try simp only [List.map_toArray, List.map_cons, List.map_nil]); first | done | rfl | (simp only [List.length_drop, List.length_take]; rfl)) ?_; (with_reducible refine (records_Label.calls k a0_1 t268 t269 _ A3.out).mono ?_); rintro e w12 ⟨rfl, hb⟩; refine ⟨_, rfl, ?_⟩; have n0_ := pb_ BK264 hb; have n1_ := pb_ BK265 hb; have n2_ := Aside0.mk (below_step (pl_ HB) hb); clear BK264; clear BK265; clear HB; have BK264 := n0_; have BK265 := n1_; have HB := n2_; clear n0_ n1_ n2_; (try clear hb); (try clear hb2); (try clear hk); (try clear hi); have hcz13_0 : w12.cell? ⟨gb264, 0, none⟩ = some (.string a0_0) := (blk_cell BK264.out 0).trans rfl; have hcz13_1 : w12.cell? ⟨gb264, 1, none⟩ = some (.string a0_1) := (blk_cell BK264.out 1).trans rfl; have hcz13_2 : w12.cell? ⟨gb264, 2, none⟩ = some (.string a0_2) := (blk_cell BK264.out 2).trans rfl; have hcz13_3 : w12.cell? ⟨gb264, 3, none⟩ = some (.int .i64 a0_3) := (blk_cell BK264.out 3).trans rfl; have hcz13_4 : w12.cell? ⟨gb264, 4, none⟩ = some (.string a0_4) := (blk_cell BK264.out 4).trans rfl; have hcz13_5 : w12.cell? ⟨gb264, 5, none⟩ = some (.int .u64 a0_5) := (blk_cell BK264.out 5).trans rfl; have hcz13_6 : w12.cell? ⟨gb264, 6, none⟩ = some (.int .u64 a0_6) := (blk_cell BK264.out 6).trans rfl; have hfz13_0 := blk_frozen BK264.out 0; have hfz13_1 := blk_frozen BK264.out 1; have hfz13_2 := blk_frozen BK264.out 2; have hfz13_3 := blk_frozen BK264.out 3; have hfz13_4 := blk_frozen BK264.out 4; have hfz13_5 := blk_frozen BK264.out 5; have hfz13_6 := blk_frozen BK264.out 6) | ((with_reducible refine gate_callee (f := 12) rfl ?_); refine goesL_ (some 28) rfl rfl Tryd.func12 (by kernel_rfl) rfl #[.string a0_2] rfl (by (try simp only [List.map_toArray, List.map_cons, List.map_nil]); first | done | rfl | (simp only [List.length_drop, List.length_take]; rfl)) ?_; (with_reducible refine (records_Label.calls k a0_2 t270 t271 _ A4.out).mono ?_); rintro e w14 ⟨rfl, hb⟩; refine ⟨_, rfl, ?_⟩; have n0_ := pb_ BK264 hb; have n1_ := pb_ BK265 hb; have n2_ := Aside0.mk (below_step (pl_ HB) hb); clear BK264; clear BK265; clear HB; have BK264 := n0_; have BK265 := n1_; have HB := n2_; clear n0_ n1_ n2_; (try clear hb); (try clear hb2); (try clear hk); (try clear hi); have hcz15_0 : w14.cell? ⟨gb264, 0, none⟩ = some (.string a0_0) := (blk_cell BK264.out 0).trans rfl; have hcz15_1 : w14.cell? ⟨gb264, 1, none⟩ = some (.string a0_1) := (blk_cell BK264.out 1).trans rfl; have hcz15_2 : w14.cell? ⟨gb264, 2, none⟩ = some (.string a0_2) := (blk_cell BK264.out 2).trans rfl; have hcz15_3 : w14.cell? ⟨gb264, 3, none⟩ = some (.int .i64 a0_3) := (blk_cell BK264.out 3).trans rfl; have hcz15_4 : w14.cell? ⟨gb264, 4, none⟩ = some (.string a0_4) := (blk_cell BK264.out 4).trans rfl; have hcz15_5 : w14.cell? ⟨gb264, 5, none⟩ = some (.int .u64 a0_5) := (blk_cell BK264.out 5).trans rfl; have hcz15_6 : w14.cell? ⟨gb264, 6, none⟩ = some (.int .u64 a0_6) := (blk_cell BK264.out 6).trans rfl; have hfz15_0 := blk_frozen BK264.out 0; have hfz15_1 := blk_frozen BK264.out 1; have hfz15_2 := blk_frozen BK264.out 2; have hfz15_3 := blk_frozen BK264.out 3; have hfz15_4 := blk_frozen BK264.out 4; have hfz15_5 := blk_frozen BK264.out 5; have hfz15_6 := blk_frozen BK264.out 6))
  (try simp only [Act.put, List.setIfInBounds_toArray, List.set_cons_zero, List.set_cons_succ])
  go_cut [9] (fun v9 wc => ∃ (kq : Nat) (x9_4 : Int), v9 = .int .i64 x9_4 ∧ Aside0 (records_FixCheck.j0 kq t266 t267 t268 t269 t270 x9_4 a0_0 a0_1 a0_2 a0_3 a0_4 a0_5 a0_6 = some (r1, r2, r3, r4, r5, r6, r7, r8)) ∧ Aside0 (kq ≤ k) ∧ Aside0 (wc.heap[gb264]? = some (.cells #[.string a0_0, .string a0_1, .string a0_2, .int .i64 a0_3, .string a0_4, .int .u64 a0_5, .int .u64 a0_6] 41 (0, 0))) ∧ Aside0 (wc.heap[gb265]? = some (.cells #[.string (⟨#[]⟩ : ByteArray), .string (⟨#[]⟩ : ByteArray), .string (⟨#[]⟩ : ByteArray), .int .i64 0, .string (⟨#[]⟩ : ByteArray), .int .u64 0, .int .u64 0] 41 (0, 0))) ∧ Aside0 (Below w.heap.size w wc))
  case first =>
    have H := HC5.out
    clear HC5
    by_cases c16 : a0_2.toList = ([] : List UInt8)
    · rw [if_pos c16] at H
      have c16b0 : (a0_2.toList == ([] : List UInt8)) = true := beq_iff_eq.mpr c16
      have c16b1 : (a0_2.toList != ([] : List UInt8)) = false := bne_eq_false_iff_eq.mpr c16
      clear c16
      (first | rw [c16b0] | rw [ie_t c16b0] | rw [ie_f c16b0] | (simp only [i64_w, i32_w]; rw [c16b0]) | skip)
      have H' := Aside0.mk H
      clear H
      go_wp2
      go_meet
      case rel => exact ⟨_, (0), (by first | rfl | (simp; done) | (simp [*]; done)), H', ⟨by first | omega | exact Nat.le_refl _⟩, ⟨pk_ BK264⟩, ⟨pk_ BK265⟩, ⟨pl_ HB⟩⟩
    · rw [if_neg c16] at H
      have c16b0 : (a0_2.toList == ([] : List UInt8)) = false := beq_eq_false_iff_ne.mpr c16
      have c16b1 : (a0_2.toList != ([] : List UInt8)) = true := bne_iff_ne.mpr c16
      (first | rw [c16b0] | rw [ie_t c16b0] | rw [ie_f c16b0] | (simp only [i64_w, i32_w]; rw [c16b0]) | skip)
      have H' := Aside0.mk H
      clear H
      go_wp2
      go_meet
      case rel => exact ⟨_, (t271), (by first | rfl | (simp; done) | (simp [*]; done)), H', ⟨by first | omega | exact Nat.le_refl _⟩, ⟨pk_ BK264⟩, ⟨pk_ BK265⟩, ⟨pl_ HB⟩⟩
  case rest =>
    clear HC5
    (try clear c1); (try clear p2); (try clear c3); (try clear c8); (try clear c12); (try clear c16); (try clear c16b0); (try clear c16b1); (try clear hcz11_0 hcz11_1 hcz11_2 hcz11_3 hcz11_4 hcz11_5 hcz11_6); (try clear hcz13_0 hcz13_1 hcz13_2 hcz13_3 hcz13_4 hcz13_5 hcz13_6); (try clear hcz15_0 hcz15_1 hcz15_2 hcz15_3 hcz15_4 hcz15_5 hcz15_6); (try clear hcz9_0 hcz9_1 hcz9_2 hcz9_3 hcz9_4 hcz9_5 hcz9_6); (try clear hfz11_0 hfz11_1 hfz11_2 hfz11_3 hfz11_4 hfz11_5 hfz11_6); (try clear hfz13_0 hfz13_1 hfz13_2 hfz13_3 hfz13_4 hfz13_5 hfz13_6); (try clear hfz15_0 hfz15_1 hfz15_2 hfz15_3 hfz15_4 hfz15_5 hfz15_6); (try clear hfz9_0 hfz9_1 hfz9_2 hfz9_3 hfz9_4 hfz9_5 hfz9_6)
    obtain ⟨kq, x9_4, rfl, HA, HJ4, BK264, BK265, HB⟩ := hcut
    cases kq with
    | zero => exact absurd HA.out (by simp [records_FixCheck.j0])
    | succ kj4 =>
      have H := HA.out
      clear HA
      simp only [records_FixCheck.j0] at H
      have HC17 := Aside0.mk H
      clear H
      have hnb18 := NB264_265.out
      have hnc18 := NB265_264.out
      have hcz19_0 : wc.cell? ⟨gb264, 0, none⟩ = some (.string a0_0) := (blk_cell BK264.out 0).trans rfl
      have hcz19_1 : wc.cell? ⟨gb264, 1, none⟩ = some (.string a0_1) := (blk_cell BK264.out 1).trans rfl
      have hcz19_2 : wc.cell? ⟨gb264, 2, none⟩ = some (.string a0_2) := (blk_cell BK264.out 2).trans rfl
      have hcz19_3 : wc.cell? ⟨gb264, 3, none⟩ = some (.int .i64 a0_3) := (blk_cell BK264.out 3).trans rfl
      have hcz19_4 : wc.cell? ⟨gb264, 4, none⟩ = some (.string a0_4) := (blk_cell BK264.out 4).trans rfl
      have hcz19_5 : wc.cell? ⟨gb264, 5, none⟩ = some (.int .u64 a0_5) := (blk_cell BK264.out 5).trans rfl
      have hcz19_6 : wc.cell? ⟨gb264, 6, none⟩ = some (.int .u64 a0_6) := (blk_cell BK264.out 6).trans rfl
      have hfz19_0 := blk_frozen BK264.out 0
      have hfz19_1 := blk_frozen BK264.out 1
      have hfz19_2 := blk_frozen BK264.out 2
      have hfz19_3 := blk_frozen BK264.out 3
      have hfz19_4 := blk_frozen BK264.out 4
      have hfz19_5 := blk_frozen BK264.out 5
      have hfz19_6 := blk_frozen BK264.out 6
      go_upto_block 0 with (fail)
      go_cut [10] (fun v10 wc => ∃ (kq : Nat) (x10_16 : Bool), v10 = .bool x10_16 ∧ Aside0 (records_FixCheck.j2 kq t266 t267 t268 t269 t270 x9_4 x10_16 a0_0 a0_1 a0_2 a0_3 a0_4 a0_5 a0_6 = some (r1, r2, r3, r4, r5, r6, r7, r8)) ∧ Aside0 (kq ≤ kj4) ∧ Aside0 (wc.heap[gb264]? = some (.cells #[.string a0_0, .string a0_1, .string a0_2, .int .i64 a0_3, .string a0_4, .int .u64 a0_5, .int .u64 a0_6] 41 (0, 0))) ∧ Aside0 (wc.heap[gb265]? = some (.cells #[.string (⟨#[]⟩ : ByteArray), .string (⟨#[]⟩ : ByteArray), .string (⟨#[]⟩ : ByteArray), .int .i64 0, .string (⟨#[]⟩ : ByteArray), .int .u64 0, .int .u64 0] 41 (0, 0))) ∧ Aside0 (Below w.heap.size w wc))
      case first =>
        have H := HC17.out
        clear HC17
        have H' := Aside0.mk H
        clear H
        go_wp2
        go_loopg [10, 11] kj4 (fun kq v10 v11 w' => ∃ (x10_2 : Bool) (x11_2 : Int), v10 = .bool x10_2 ∧ v11 = .int .i64 x11_2 ∧ Aside0 (records_FixCheck.l0 kq t266 t267 t268 t269 t270 x9_4 x10_2 x11_2 a0_0 a0_1 a0_2 a0_3 a0_4 a0_5 a0_6 = some (r1, r2, r3, r4, r5, r6, r7, r8)) ∧ Aside0 (kq ≤ kj4) ∧ Aside0 (w'.heap[gb264]? = some (.cells #[.string a0_0, .string a0_1, .string a0_2, .int .i64 a0_3, .string a0_4, .int .u64 a0_5, .int .u64 a0_6] 41 (0, 0))) ∧ Aside0 (w'.heap[gb265]? = some (.cells #[.string (⟨#[]⟩ : ByteArray), .string (⟨#[]⟩ : ByteArray), .string (⟨#[]⟩ : ByteArray), .int .i64 0, .string (⟨#[]⟩ : ByteArray), .int .u64 0, .int .u64 0] 41 (0, 0))) ∧ Aside0 (Below w.heap.size w w'))
        case atStart => exact ⟨(decide ((a0_4.size : Int) > 200)), (0), (by first | rfl | (simp; done) | (simp [*]; done)), (by first | rfl | (simp; done) | (simp [*]; done)), H', ⟨Nat.le_refl _⟩, ⟨pk_ BK264⟩, ⟨pk_ BK265⟩, ⟨pl_ HB⟩⟩
        case round =>
          clear H'
          (try clear c1); (try clear p2); (try clear c3); (try clear c8); (try clear c12); (try clear c16); (try clear c16b0); (try clear c16b1); (try clear c18); (try clear hcz11_0 hcz11_1 hcz11_2 hcz11_3 hcz11_4 hcz11_5 hcz11_6); (try clear hcz13_0 hcz13_1 hcz13_2 hcz13_3 hcz13_4 hcz13_5 hcz13_6); (try clear hcz15_0 hcz15_1 hcz15_2 hcz15_3 hcz15_4 hcz15_5 hcz15_6); (try clear hcz19_0 hcz19_1 hcz19_2 hcz19_3 hcz19_4 hcz19_5 hcz19_6); (try clear hcz9_0 hcz9_1 hcz9_2 hcz9_3 hcz9_4 hcz9_5 hcz9_6); (try clear hfz11_0 hfz11_1 hfz11_2 hfz11_3 hfz11_4 hfz11_5 hfz11_6); (try clear hfz13_0 hfz13_1 hfz13_2 hfz13_3 hfz13_4 hfz13_5 hfz13_6); (try clear hfz15_0 hfz15_1 hfz15_2 hfz15_3 hfz15_4 hfz15_5 hfz15_6); (try clear hfz19_0 hfz19_1 hfz19_2 hfz19_3 hfz19_4 hfz19_5 hfz19_6); (try clear hfz9_0 hfz9_1 hfz9_2 hfz9_3 hfz9_4 hfz9_5 hfz9_6); (try clear p2)
          obtain ⟨x10_2, x11_2, rfl, rfl, HA, HK2, BK264, BK265, HB⟩ := hrel
          cases gk with
          | zero => exact absurd HA.out (by simp [records_FixCheck.l0])
          | succ k2 =>
            have H := HA.out
            clear HA
            simp only [records_FixCheck.l0] at H
            by_cases c20 : x11_2 < (a0_4.size : Int)
            · rw [if_pos c20] at H
              have c20b0 : decide (x11_2 < (a0_4.size : Int)) = true := decide_eq_true c20
              clear c20
              (first | rw [c20b0] | (simp only [i64_w, i32_w]; rw [c20b0]) | skip)
              by_cases c21 : x10_2 = true
              · subst c21
                have H1 : (records_FixCheck.j2 k2 t266 t267 t268 t269 t270 x9_4 true a0_0 a0_1 a0_2 a0_3 a0_4 a0_5 a0_6) = some (r1, r2, r3, r4, r5, r6, r7, r8) := by rw [if_pos rfl] at H; exact H
                clear H
                have H := H1
                clear H1
                have H' := Aside0.mk H
                clear H
                have hnb22 := NB264_265.out
                have hnc22 := NB265_264.out
                have hcz23_0 : wr.cell? ⟨gb264, 0, none⟩ = some (.string a0_0) := (blk_cell BK264.out 0).trans rfl
                have hcz23_1 : wr.cell? ⟨gb264, 1, none⟩ = some (.string a0_1) := (blk_cell BK264.out 1).trans rfl
                have hcz23_2 : wr.cell? ⟨gb264, 2, none⟩ = some (.string a0_2) := (blk_cell BK264.out 2).trans rfl
                have hcz23_3 : wr.cell? ⟨gb264, 3, none⟩ = some (.int .i64 a0_3) := (blk_cell BK264.out 3).trans rfl
                have hcz23_4 : wr.cell? ⟨gb264, 4, none⟩ = some (.string a0_4) := (blk_cell BK264.out 4).trans rfl
                have hcz23_5 : wr.cell? ⟨gb264, 5, none⟩ = some (.int .u64 a0_5) := (blk_cell BK264.out 5).trans rfl
                have hcz23_6 : wr.cell? ⟨gb264, 6, none⟩ = some (.int .u64 a0_6) := (blk_cell BK264.out 6).trans rfl
                have hfz23_0 := blk_frozen BK264.out 0
                have hfz23_1 := blk_frozen BK264.out 1
                have hfz23_2 := blk_frozen BK264.out 2
                have hfz23_3 := blk_frozen BK264.out 3
                have hfz23_4 := blk_frozen BK264.out 4
                have hfz23_5 := blk_frozen BK264.out 5
                have hfz23_6 := blk_frozen BK264.out 6
                go_wp2
                go_meet
                case rel => exact ⟨_, (true), (by first | rfl | (simp; done) | (simp [*]; done)), H', ⟨by have := HJ4.out; have := HK2.out; first | omega | exact Nat.le_refl _⟩, ⟨pk_ BK264⟩, ⟨pk_ BK265⟩, ⟨pl_ HB⟩⟩
              · replace c21 := Bool.eq_false_iff.mpr c21
                subst c21
                have H1 : (if 0 ≤ x11_2 then (if (bt a0_4 x11_2) < 32 then (records_FixCheck.l0 k2 t266 t267 t268 t269 t270 x9_4 true (wrap64 (x11_2 + 1)) a0_0 a0_1 a0_2 a0_3 a0_4 a0_5 a0_6) else (records_FixCheck.l0 k2 t266 t267 t268 t269 t270 x9_4 (decide ((bt a0_4 x11_2) > 126)) (wrap64 (x11_2 + 1)) a0_0 a0_1 a0_2 a0_3 a0_4 a0_5 a0_6)) else (none)) = some (r1, r2, r3, r4, r5, r6, r7, r8) := by rw [if_neg (show ¬ (false = true) by decide)] at H; exact H
                clear H
                have H := H1
                clear H1
                by_cases c24 : 0 ≤ x11_2
                · rw [if_pos c24] at H
                  have c24b0 : decide (0 ≤ x11_2) = true := decide_eq_true c24
                  clear c24
                  by_cases c26 : (bt a0_4 x11_2) < 32
                  · rw [if_pos c26] at H
                    have c26b0 : decide ((bt a0_4 x11_2) < 32) = true := decide_eq_true c26
                    clear c26
                    have H' := Aside0.mk H
                    clear H
                    have hnb27 := NB264_265.out
                    have hnc27 := NB265_264.out
                    have hcz28_0 : wr.cell? ⟨gb264, 0, none⟩ = some (.string a0_0) := (blk_cell BK264.out 0).trans rfl
                    have hcz28_1 : wr.cell? ⟨gb264, 1, none⟩ = some (.string a0_1) := (blk_cell BK264.out 1).trans rfl
                    have hcz28_2 : wr.cell? ⟨gb264, 2, none⟩ = some (.string a0_2) := (blk_cell BK264.out 2).trans rfl
                    have hcz28_3 : wr.cell? ⟨gb264, 3, none⟩ = some (.int .i64 a0_3) := (blk_cell BK264.out 3).trans rfl
                    have hcz28_4 : wr.cell? ⟨gb264, 4, none⟩ = some (.string a0_4) := (blk_cell BK264.out 4).trans rfl
                    have hcz28_5 : wr.cell? ⟨gb264, 5, none⟩ = some (.int .u64 a0_5) := (blk_cell BK264.out 5).trans rfl
                    have hcz28_6 : wr.cell? ⟨gb264, 6, none⟩ = some (.int .u64 a0_6) := (blk_cell BK264.out 6).trans rfl
                    have hfz28_0 := blk_frozen BK264.out 0
                    have hfz28_1 := blk_frozen BK264.out 1
                    have hfz28_2 := blk_frozen BK264.out 2
                    have hfz28_3 := blk_frozen BK264.out 3
                    have hfz28_4 := blk_frozen BK264.out 4
                    have hfz28_5 := blk_frozen BK264.out 5
                    have hfz28_6 := blk_frozen BK264.out 6
                    have p25 : 0 ≤ (x11_2 : Int) := of_decide_eq_true (by first | (with_reducible assumption) | assumption)
                    have q25 : x11_2 < (a0_4.size : Int) := of_decide_eq_true (by first | (with_reducible assumption) | assumption)
                    have hx25 := bt_at a0_4 x11_2
                    replace p25 := eq_true p25
                    replace q25 := eq_true q25
                    go_wp2
                    go_roundg k2
                    case measure => have := HJ4.out; have := HK2.out; omega
                    case rel => exact ⟨(true), (wrap64 (x11_2 + 1)), (by first | rfl | (simp; done) | (simp [*]; done)), (by first | rfl | (simp; done) | (simp [*]; done)), H', ⟨by have := HJ4.out; have := HK2.out; omega⟩, ⟨pk_ BK264⟩, ⟨pk_ BK265⟩, ⟨pl_ HB⟩⟩
                  · rw [if_neg c26] at H
                    have c26b0 : decide ((bt a0_4 x11_2) < 32) = false := decide_eq_false c26
                    clear c26
                    have H' := Aside0.mk H
                    clear H
                    have hnb30 := NB264_265.out
                    have hnc30 := NB265_264.out
                    have hcz31_0 : wr.cell? ⟨gb264, 0, none⟩ = some (.string a0_0) := (blk_cell BK264.out 0).trans rfl
                    have hcz31_1 : wr.cell? ⟨gb264, 1, none⟩ = some (.string a0_1) := (blk_cell BK264.out 1).trans rfl
                    have hcz31_2 : wr.cell? ⟨gb264, 2, none⟩ = some (.string a0_2) := (blk_cell BK264.out 2).trans rfl
                    have hcz31_3 : wr.cell? ⟨gb264, 3, none⟩ = some (.int .i64 a0_3) := (blk_cell BK264.out 3).trans rfl
                    have hcz31_4 : wr.cell? ⟨gb264, 4, none⟩ = some (.string a0_4) := (blk_cell BK264.out 4).trans rfl
                    have hcz31_5 : wr.cell? ⟨gb264, 5, none⟩ = some (.int .u64 a0_5) := (blk_cell BK264.out 5).trans rfl
                    have hcz31_6 : wr.cell? ⟨gb264, 6, none⟩ = some (.int .u64 a0_6) := (blk_cell BK264.out 6).trans rfl
                    have hfz31_0 := blk_frozen BK264.out 0
                    have hfz31_1 := blk_frozen BK264.out 1
                    have hfz31_2 := blk_frozen BK264.out 2
                    have hfz31_3 := blk_frozen BK264.out 3
                    have hfz31_4 := blk_frozen BK264.out 4
                    have hfz31_5 := blk_frozen BK264.out 5
                    have hfz31_6 := blk_frozen BK264.out 6
                    have p25 : 0 ≤ (x11_2 : Int) := of_decide_eq_true (by first | (with_reducible assumption) | assumption)
                    have q25 : x11_2 < (a0_4.size : Int) := of_decide_eq_true (by first | (with_reducible assumption) | assumption)
                    have hx25 := bt_at a0_4 x11_2
                    replace p25 := eq_true p25
                    replace q25 := eq_true q25
                    have p29 : 0 ≤ (x11_2 : Int) := of_decide_eq_true (by first | (with_reducible assumption) | assumption)
                    have q29 : x11_2 < (a0_4.size : Int) := of_decide_eq_true (by first | (with_reducible assumption) | assumption)
                    have hx29 := bt_at a0_4 x11_2
                    replace p29 := eq_true p29
                    replace q29 := eq_true q29
                    go_wp2
                    go_roundg k2
                    case measure => have := HJ4.out; have := HK2.out; omega
                    case rel => exact ⟨(decide ((bt a0_4 x11_2) > 126)), (wrap64 (x11_2 + 1)), (by first | rfl | (simp; done) | (simp [*]; done)), (by first | rfl | (simp; done) | (simp [*]; done)), H', ⟨by have := HJ4.out; have := HK2.out; omega⟩, ⟨pk_ BK264⟩, ⟨pk_ BK265⟩, ⟨pl_ HB⟩⟩
                · rw [if_neg c24] at H
                  exact absurd H (by simp)
            · rw [if_neg c20] at H
              have c20b0 : decide (x11_2 < (a0_4.size : Int)) = false := decide_eq_false c20
              clear c20
              (first | rw [c20b0] | (simp only [i64_w, i32_w]; rw [c20b0]) | skip)
              have H' := Aside0.mk H
              clear H
              have hnb32 := NB264_265.out
              have hnc32 := NB265_264.out
              have hcz33_0 : wr.cell? ⟨gb264, 0, none⟩ = some (.string a0_0) := (blk_cell BK264.out 0).trans rfl
              have hcz33_1 : wr.cell? ⟨gb264, 1, none⟩ = some (.string a0_1) := (blk_cell BK264.out 1).trans rfl
              have hcz33_2 : wr.cell? ⟨gb264, 2, none⟩ = some (.string a0_2) := (blk_cell BK264.out 2).trans rfl
              have hcz33_3 : wr.cell? ⟨gb264, 3, none⟩ = some (.int .i64 a0_3) := (blk_cell BK264.out 3).trans rfl
              have hcz33_4 : wr.cell? ⟨gb264, 4, none⟩ = some (.string a0_4) := (blk_cell BK264.out 4).trans rfl
              have hcz33_5 : wr.cell? ⟨gb264, 5, none⟩ = some (.int .u64 a0_5) := (blk_cell BK264.out 5).trans rfl
              have hcz33_6 : wr.cell? ⟨gb264, 6, none⟩ = some (.int .u64 a0_6) := (blk_cell BK264.out 6).trans rfl
              have hfz33_0 := blk_frozen BK264.out 0
              have hfz33_1 := blk_frozen BK264.out 1
              have hfz33_2 := blk_frozen BK264.out 2
              have hfz33_3 := blk_frozen BK264.out 3
              have hfz33_4 := blk_frozen BK264.out 4
              have hfz33_5 := blk_frozen BK264.out 5
              have hfz33_6 := blk_frozen BK264.out 6
              go_wp2
              go_meet
              case rel => exact ⟨_, (x10_2), (by first | rfl | (simp; done) | (simp [*]; done)), H', ⟨by have := HJ4.out; have := HK2.out; first | omega | exact Nat.le_refl _⟩, ⟨pk_ BK264⟩, ⟨pk_ BK265⟩, ⟨pl_ HB⟩⟩
      case rest =>
        clear HC17
        (try clear c1); (try clear c2); (try clear p2); (try clear q2); (try clear hx2); (try clear c3); (try clear p6); (try clear c8); (try clear c12); (try clear c16); (try clear c16b0); (try clear c16b1); (try clear c18); (try clear c20); (try clear c20b0); (try clear c21); (try clear c22); (try clear c24); (try clear c24b0); (try clear p25); (try clear q25); (try clear hx25); (try clear c26); (try clear c26b0); (try clear c27); (try clear p29); (try clear q29); (try clear hx29); (try clear c30); (try clear c32); (try clear c33); (try clear hcz11_0 hcz11_1 hcz11_2 hcz11_3 hcz11_4 hcz11_5 hcz11_6); (try clear hcz13_0 hcz13_1 hcz13_2 hcz13_3 hcz13_4 hcz13_5 hcz13_6); (try clear hcz15_0 hcz15_1 hcz15_2 hcz15_3 hcz15_4 hcz15_5 hcz15_6); (try clear hcz19_0 hcz19_1 hcz19_2 hcz19_3 hcz19_4 hcz19_5 hcz19_6); (try clear hcz23_0 hcz23_1 hcz23_2 hcz23_3 hcz23_4 hcz23_5 hcz23_6); (try clear hcz28_0 hcz28_1 hcz28_2 hcz28_3 hcz28_4 hcz28_5 hcz28_6); (try clear hcz31_0 hcz31_1 hcz31_2 hcz31_3 hcz31_4 hcz31_5 hcz31_6); (try clear hcz33_0 hcz33_1 hcz33_2 hcz33_3 hcz33_4 hcz33_5 hcz33_6); (try clear hcz9_0 hcz9_1 hcz9_2 hcz9_3 hcz9_4 hcz9_5 hcz9_6); (try clear hfz11_0 hfz11_1 hfz11_2 hfz11_3 hfz11_4 hfz11_5 hfz11_6); (try clear hfz13_0 hfz13_1 hfz13_2 hfz13_3 hfz13_4 hfz13_5 hfz13_6); (try clear hfz15_0 hfz15_1 hfz15_2 hfz15_3 hfz15_4 hfz15_5 hfz15_6); (try clear hfz19_0 hfz19_1 hfz19_2 hfz19_3 hfz19_4 hfz19_5 hfz19_6); (try clear hfz23_0 hfz23_1 hfz23_2 hfz23_3 hfz23_4 hfz23_5 hfz23_6); (try clear hfz28_0 hfz28_1 hfz28_2 hfz28_3 hfz28_4 hfz28_5 hfz28_6); (try clear hfz31_0 hfz31_1 hfz31_2 hfz31_3 hfz31_4 hfz31_5 hfz31_6); (try clear hfz33_0 hfz33_1 hfz33_2 hfz33_3 hfz33_4 hfz33_5 hfz33_6); (try clear hfz9_0 hfz9_1 hfz9_2 hfz9_3 hfz9_4 hfz9_5 hfz9_6); (try clear p2); (try clear p25); (try clear p29); (try clear q25); (try clear q29)
        obtain ⟨kq, x10_16, rfl, HA, HJ16, BK264, BK265, HB⟩ := hcut
        cases kq with
        | zero => exact absurd HA.out (by simp [records_FixCheck.j2])
        | succ kj16 =>
          have H := HA.out
          clear HA
          simp only [records_FixCheck.j2] at H
          by_cases c34 : a0_3 < 1
          · rw [if_pos c34] at H
            have c34b0 : decide (a0_3 < 1) = true := decide_eq_true c34
            clear c34
            replace H := Option.bind_eq_some_iff.mp H
            obtain ⟨t272, A350, H⟩ := H
            replace H : ((records_when.f x10_16 95).bind fun t273 => ((records_first.f kj16 (([t267, t269, x9_4, t272, t273] : List Int))).bind fun t277 => (if t277 = 0 then (some (t266, t268, t270, a0_3, a0_4, 0, 0, 0)) else (some ((⟨#[]⟩ : ByteArray), (⟨#[]⟩ : ByteArray), (⟨#[]⟩ : ByteArray), 0, (⟨#[]⟩ : ByteArray), 0, 0, t277))))) = some (r1, r2, r3, r4, r5, r6, r7, r8) := H
            have A35 := Aside0.mk A350
            clear A350
            replace H := Option.bind_eq_some_iff.mp H
            obtain ⟨t273, A360, H⟩ := H
            replace H : ((records_first.f kj16 (([t267, t269, x9_4, t272, t273] : List Int))).bind fun t277 => (if t277 = 0 then (some (t266, t268, t270, a0_3, a0_4, 0, 0, 0)) else (some ((⟨#[]⟩ : ByteArray), (⟨#[]⟩ : ByteArray), (⟨#[]⟩ : ByteArray), 0, (⟨#[]⟩ : ByteArray), 0, 0, t277)))) = some (r1, r2, r3, r4, r5, r6, r7, r8) := H
            have A36 := Aside0.mk A360
            clear A360
            obtain ⟨y274, hy274⟩ : ∃ y_ : List Int, y_ = (([t267, t269, x9_4, t272, t273] : List Int)) := ⟨_, rfl⟩
            replace H : ((records_first.f kj16 y274).bind fun t277 => (if t277 = 0 then (some (t266, t268, t270, a0_3, a0_4, 0, 0, 0)) else (some ((⟨#[]⟩ : ByteArray), (⟨#[]⟩ : ByteArray), (⟨#[]⟩ : ByteArray), 0, (⟨#[]⟩ : ByteArray), 0, 0, t277)))) = some (r1, r2, r3, r4, r5, r6, r7, r8) := by first | (rw [hy274]; with_reducible exact H) | (have H2_ := (Option.bind_some _ _).symm.trans H; rw [hy274]; with_reducible exact H2_) | (have H2_ := (Option.bind_some _ _).symm.trans H; with_reducible exact H2_) | with_reducible exact H | (rw [hy274]; exact H) | exact H
            have Ny274 := Aside0.mk hy274
            clear hy274
            replace H := Option.bind_eq_some_iff.mp H
            obtain ⟨t277, A370, H⟩ := H
            replace H : (if t277 = 0 then (some (t266, t268, t270, a0_3, a0_4, 0, 0, 0)) else (some ((⟨#[]⟩ : ByteArray), (⟨#[]⟩ : ByteArray), (⟨#[]⟩ : ByteArray), 0, (⟨#[]⟩ : ByteArray), 0, 0, t277))) = some (r1, r2, r3, r4, r5, r6, r7, r8) := H
            have A37 := Aside0.mk A370
            clear A370
            by_cases c38 : t277 = 0
            · rw [if_pos c38] at H
              have c38b0 : (t277 == 0) = true := beq_iff_eq.mpr c38
              have c38b1 : (t277 != 0) = false := bne_eq_false_iff_eq.mpr c38
              clear c38
              simp only [Option.some.injEq, Prod.mk.injEq] at H
              obtain ⟨rfl, rfl, rfl, rfl, rfl, rfl, rfl, rfl⟩ := H
              have hnb39 := NB264_265.out
              have hnc39 := NB265_264.out
              have hcz40_0 : wc.cell? ⟨gb264, 0, none⟩ = some (.string a0_0) := (blk_cell BK264.out 0).trans rfl
              have hcz40_1 : wc.cell? ⟨gb264, 1, none⟩ = some (.string a0_1) := (blk_cell BK264.out 1).trans rfl
              have hcz40_2 : wc.cell? ⟨gb264, 2, none⟩ = some (.string a0_2) := (blk_cell BK264.out 2).trans rfl
              have hcz40_3 : wc.cell? ⟨gb264, 3, none⟩ = some (.int .i64 a0_3) := (blk_cell BK264.out 3).trans rfl
              have hcz40_4 : wc.cell? ⟨gb264, 4, none⟩ = some (.string a0_4) := (blk_cell BK264.out 4).trans rfl
              have hcz40_5 : wc.cell? ⟨gb264, 5, none⟩ = some (.int .u64 a0_5) := (blk_cell BK264.out 5).trans rfl
              have hcz40_6 : wc.cell? ⟨gb264, 6, none⟩ = some (.int .u64 a0_6) := (blk_cell BK264.out 6).trans rfl
              have hfz40_0 := blk_frozen BK264.out 0
              have hfz40_1 := blk_frozen BK264.out 1
              have hfz40_2 := blk_frozen BK264.out 2
              have hfz40_3 := blk_frozen BK264.out 3
              have hfz40_4 := blk_frozen BK264.out 4
              have hfz40_5 := blk_frozen BK264.out 5
              have hfz40_6 := blk_frozen BK264.out 6
              go_wp2_with (first | ((with_reducible refine gate_callee (f := 62) rfl ?_); refine goesL_ (some 72) rfl rfl Tryd.func62 (by kernel_rfl) rfl #[.bool true, .int .i64 94] rfl (by (try simp only [List.map_toArray, List.map_cons, List.map_nil]); first | done | rfl | (simp only [List.length_drop, List.length_take]; rfl)) ?_; (with_reducible refine (records_when.calls true 94 t272 _ A35.out).mono ?_); rintro e w' ⟨rfl, ⟨nd, rfl⟩⟩; refine ⟨_, rfl, ?_⟩; (try (rw [drewN_self wc]; generalize hq_ : World.drewN wc _ = wc; have n0_ : Aside0 (wc.heap[gb264]? = some (.cells #[.string a0_0, .string a0_1, .string a0_2, .int .i64 a0_3, .string a0_4, .int .u64 a0_5, .int .u64 a0_6] 41 (0, 0))) := ⟨by rw [← hq_]; exact (pk_ BK264)⟩; have n1_ : Aside0 (wc.heap[gb265]? = some (.cells #[.string (⟨#[]⟩ : ByteArray), .string (⟨#[]⟩ : ByteArray), .string (⟨#[]⟩ : ByteArray), .int .i64 0, .string (⟨#[]⟩ : ByteArray), .int .u64 0, .int .u64 0] 41 (0, 0))) := ⟨by rw [← hq_]; exact (pk_ BK265)⟩; have n2_ : Aside0 (Below w.heap.size w wc) := ⟨by rw [← hq_]; exact (pl_ HB)⟩; clear BK264 BK265 HB hq_; have BK264 := n0_; have BK265 := n1_; have HB := n2_; clear n0_ n1_ n2_))) | ((with_reducible refine gate_callee (f := 62) rfl ?_); refine goesL_ (some 74) rfl rfl Tryd.func62 (by kernel_rfl) rfl #[.bool x10_16, .int .i64 95] rfl (by (try simp only [List.map_toArray, List.map_cons, List.map_nil]); first | done | rfl | (simp only [List.length_drop, List.length_take]; rfl)) ?_; (with_reducible refine (records_when.calls x10_16 95 t273 _ A36.out).mono ?_); rintro e w' ⟨rfl, ⟨nd, rfl⟩⟩; refine ⟨_, rfl, ?_⟩; (try (rw [drewN_self wc]; generalize hq_ : World.drewN wc _ = wc; have n0_ : Aside0 (wc.heap[gb264]? = some (.cells #[.string a0_0, .string a0_1, .string a0_2, .int .i64 a0_3, .string a0_4, .int .u64 a0_5, .int .u64 a0_6] 41 (0, 0))) := ⟨by rw [← hq_]; exact (pk_ BK264)⟩; have n1_ : Aside0 (wc.heap[gb265]? = some (.cells #[.string (⟨#[]⟩ : ByteArray), .string (⟨#[]⟩ : ByteArray), .string (⟨#[]⟩ : ByteArray), .int .i64 0, .string (⟨#[]⟩ : ByteArray), .int .u64 0, .int .u64 0] 41 (0, 0))) := ⟨by rw [← hq_]; exact (pk_ BK265)⟩; have n2_ : Aside0 (Below w.heap.size w wc) := ⟨by rw [← hq_]; exact (pl_ HB)⟩; clear BK264 BK265 HB hq_; have BK264 := n0_; have BK265 := n1_; have HB := n2_; clear n0_ n1_ n2_))) | ((with_reducible refine gate_dst (N := 75) rfl ?_); refine Kd.R_lit (Kd.int .i64) _ 25 ?hg (N := 75) ?hd (xs := ([t267, t269, x9_4, t272, t273] : List Int)) (inner := [.int .i64 t267, .int .i64 t269, .int .i64 x9_4, .int .i64 t272, .int .i64 t273]) (ok := fun _ => True) (okp := fun _ => True) ?hr ?hp (fun _ hk => hk) trivial (Below.refl _ _) (Nat.le_refl _) (by simp) ?_; (case hd => rfl); (case hg => rfl); (case hr => first | (go_simp; done) | (go_simp; rfl)); (case hp => exact (Reps.one (show Kd.M (Kd.int .i64) _ _ _ t267 [.int .i64 t267] from rfl) (Reps.one (show Kd.M (Kd.int .i64) _ _ _ t269 [.int .i64 t269] from rfl) (Reps.one (show Kd.M (Kd.int .i64) _ _ _ x9_4 [.int .i64 x9_4] from rfl) (Reps.one (show Kd.M (Kd.int .i64) _ _ _ t272 [.int .i64 t272] from rfl) (Reps.one (show Kd.M (Kd.int .i64) _ _ _ t273 [.int .i64 t273] from rfl) (Reps.none _ _))))))); intro v275 w41 ho42 hb hg_ hnew_; clear hg_ hnew_; (first | rw [← Ny274.out] at ho42 | (simp only [Int.reduceToNat] at ho42; rw [← Ny274.out] at ho42)); have n0_ := Aside0.mk (Kd.R_lower ho42 (below_size (pl_ HB))); have n1_ := pb_ BK264 hb; have n2_ := pb_ BK265 hb; have n3_ := Aside0.mk (below_step (pl_ HB) hb); clear BK264; clear BK265; clear HB; have HO276 := n0_; have BK264 := n1_; have BK265 := n2_; have HB := n3_; clear n0_ n1_ n2_ n3_; clear hb ho42; obtain ⟨Ao43, co43, eo43⟩ := Kd.R_slice HO276.out; subst eo43) | ((with_reducible refine gate_callee (f := 60) rfl ?_); refine goesL_ (some 76) rfl rfl Tryd.func60 (by kernel_rfl) rfl #[.slice Ao43 y274.length co43] rfl (by (try simp only [List.map_toArray, List.map_cons, List.map_nil]); first | done | rfl | (simp only [List.length_drop, List.length_take]; rfl)) ?_; (with_reducible refine (records_first.calls kj16 _ _ y274 t277 _ ?side1 ?side2 A37.out).mono ?_); (case side1 => repeat (first | exact (Kd.R_reads' HO276.out).2.2 | (with_reducible refine Kd.C_alloc ?_ _) | (with_reducible refine Kd.C_drewN ?_ _) | (with_reducible refine Kd.C_drew ?_))); (case side2 => exact (Kd.R_reads' HO276.out).2.1); rintro e w' ⟨rfl, ⟨nd, rfl⟩⟩; refine ⟨_, rfl, ?_⟩; (try (rw [drewN_self w41]; generalize hq_ : World.drewN w41 _ = w41; have n0_ : Aside0 (Kd.R (Kd.int .i64) 25 w41 w.heap.size (fun _ => True) (.slice Ao43 y274.length co43) y274) := ⟨by rw [← hq_]; exact (pr_ HO276)⟩; have n1_ : Aside0 (w41.heap[gb264]? = some (.cells #[.string a0_0, .string a0_1, .string a0_2, .int .i64 a0_3, .string a0_4, .int .u64 a0_5, .int .u64 a0_6] 41 (0, 0))) := ⟨by rw [← hq_]; exact (pk_ BK264)⟩; have n2_ : Aside0 (w41.heap[gb265]? = some (.cells #[.string (⟨#[]⟩ : ByteArray), .string (⟨#[]⟩ : ByteArray), .string (⟨#[]⟩ : ByteArray), .int .i64 0, .string (⟨#[]⟩ : ByteArray), .int .u64 0, .int .u64 0] 41 (0, 0))) := ⟨by rw [← hq_]; exact (pk_ BK265)⟩; have n3_ : Aside0 (Below w.heap.size w w41) := ⟨by rw [← hq_]; exact (pl_ HB)⟩; clear HO276 BK264 BK265 HB hq_; have HO276 := n0_; have BK264 := n1_; have BK265 := n2_; have HB := n3_; clear n0_ n1_ n2_ n3_)); have hcz44_0 : w41.cell? ⟨gb264, 0, none⟩ = some (.string a0_0) := (blk_cell BK264.out 0).trans rfl; have hcz44_1 : w41.cell? ⟨gb264, 1, none⟩ = some (.string a0_1) := (blk_cell BK264.out 1).trans rfl; have hcz44_2 : w41.cell? ⟨gb264, 2, none⟩ = some (.string a0_2) := (blk_cell BK264.out 2).trans rfl; have hcz44_3 : w41.cell? ⟨gb264, 3, none⟩ = some (.int .i64 a0_3) := (blk_cell BK264.out 3).trans rfl; have hcz44_4 : w41.cell? ⟨gb264, 4, none⟩ = some (.string a0_4) := (blk_cell BK264.out 4).trans rfl; have hcz44_5 : w41.cell? ⟨gb264, 5, none⟩ = some (.int .u64 a0_5) := (blk_cell BK264.out 5).trans rfl; have hcz44_6 : w41.cell? ⟨gb264, 6, none⟩ = some (.int .u64 a0_6) := (blk_cell BK264.out 6).trans rfl; have hfz44_0 := blk_frozen BK264.out 0; have hfz44_1 := blk_frozen BK264.out 1; have hfz44_2 := blk_frozen BK264.out 2; have hfz44_3 := blk_frozen BK264.out 3; have hfz44_4 := blk_frozen BK264.out 4; have hfz44_5 := blk_frozen BK264.out 5; have hfz44_6 := blk_frozen BK264.out 6; have hcz45_0 : w41.cell? ⟨gb265, 0, none⟩ = some (.string (⟨#[]⟩ : ByteArray)) := (blk_cell BK265.out 0).trans rfl; have hcz45_1 : w41.cell? ⟨gb265, 1, none⟩ = some (.string (⟨#[]⟩ : ByteArray)) := (blk_cell BK265.out 1).trans rfl; have hcz45_2 : w41.cell? ⟨gb265, 2, none⟩ = some (.string (⟨#[]⟩ : ByteArray)) := (blk_cell BK265.out 2).trans rfl; have hcz45_3 : w41.cell? ⟨gb265, 3, none⟩ = some (.int .i64 0) := (blk_cell BK265.out 3).trans rfl; have hcz45_4 : w41.cell? ⟨gb265, 4, none⟩ = some (.string (⟨#[]⟩ : ByteArray)) := (blk_cell BK265.out 4).trans rfl; have hcz45_5 : w41.cell? ⟨gb265, 5, none⟩ = some (.int .u64 0) := (blk_cell BK265.out 5).trans rfl; have hcz45_6 : w41.cell? ⟨gb265, 6, none⟩ = some (.int .u64 0) := (blk_cell BK265.out 6).trans rfl; have hfz45_0 := blk_frozen BK265.out 0; have hfz45_1 := blk_frozen BK265.out 1; have hfz45_2 := blk_frozen BK265.out 2; have hfz45_3 := blk_frozen BK265.out 3; have hfz45_4 := blk_frozen BK265.out 4; have hfz45_5 := blk_frozen BK265.out 5; have hfz45_6 := blk_frozen BK265.out 6))
              refine bodyPost_ret (results_ct rfl _ _ gb265 41 #[.string t266, .string t268, .string t270, .int .i64 a0_3, .string a0_4, .int .u64 0, .int .u64 0] (0, 0) _ rfl (by (with_reducible repeat (first | refine blk_drewN ?_ _ | refine blk_drew ?_ | refine blk_alloc ?_ _)); refine blk_put (cs := #[.string t266, .string t268, .string t270, .int .i64 a0_3, .string a0_4, .int .u64 0, .int .u64 0]) ?_ 6 _ rfl; (with_reducible repeat (first | refine blk_drewN ?_ _ | refine blk_drew ?_ | refine blk_alloc ?_ _)); refine blk_put (cs := #[.string t266, .string t268, .string t270, .int .i64 a0_3, .string a0_4, .int .u64 0, .int .u64 0]) ?_ 5 _ rfl; (with_reducible repeat (first | refine blk_drewN ?_ _ | refine blk_drew ?_ | refine blk_alloc ?_ _)); refine blk_put (cs := #[.string t266, .string t268, .string t270, .int .i64 a0_3, .string (⟨#[]⟩ : ByteArray), .int .u64 0, .int .u64 0]) ?_ 4 _ rfl; (with_reducible repeat (first | refine blk_drewN ?_ _ | refine blk_drew ?_ | refine blk_alloc ?_ _)); refine blk_put (cs := #[.string t266, .string t268, .string t270, .int .i64 0, .string (⟨#[]⟩ : ByteArray), .int .u64 0, .int .u64 0]) ?_ 3 _ rfl; (with_reducible repeat (first | refine blk_drewN ?_ _ | refine blk_drew ?_ | refine blk_alloc ?_ _)); refine blk_put (cs := #[.string t266, .string t268, .string (⟨#[]⟩ : ByteArray), .int .i64 0, .string (⟨#[]⟩ : ByteArray), .int .u64 0, .int .u64 0]) ?_ 2 _ rfl; (with_reducible repeat (first | refine blk_drewN ?_ _ | refine blk_drew ?_ | refine blk_alloc ?_ _)); refine blk_put (cs := #[.string t266, .string (⟨#[]⟩ : ByteArray), .string (⟨#[]⟩ : ByteArray), .int .i64 0, .string (⟨#[]⟩ : ByteArray), .int .u64 0, .int .u64 0]) ?_ 1 _ rfl; (with_reducible repeat (first | refine blk_drewN ?_ _ | refine blk_drew ?_ | refine blk_alloc ?_ _)); refine blk_put (cs := #[.string (⟨#[]⟩ : ByteArray), .string (⟨#[]⟩ : ByteArray), .string (⟨#[]⟩ : ByteArray), .int .i64 0, .string (⟨#[]⟩ : ByteArray), .int .u64 0, .int .u64 0]) ?_ 0 _ rfl; (with_reducible repeat (first | refine blk_drewN ?_ _ | refine blk_drew ?_ | refine blk_alloc ?_ _)); exact BK265.out) Tryd.underlying41 rfl (by kernel_rfl)) rfl ?_
              exact ⟨by first | rfl | (simp [errW_none, errW_some] <;> rfl) | (simp [*, errW_none, errW_some] <;> rfl), by repeat (first | (with_reducible first | exact HB.out | apply below_alloc | apply pw_below_drewN | apply below_drew1 | refine below_set ?_ GE264.out | refine below_set ?_ GE265.out) | exact HB.out)⟩
            · rw [if_neg c38] at H
              have c38b0 : (t277 == 0) = false := beq_eq_false_iff_ne.mpr c38
              have c38b1 : (t277 != 0) = true := bne_iff_ne.mpr c38
              simp only [Option.some.injEq, Prod.mk.injEq] at H
              obtain ⟨rfl, rfl, rfl, rfl, rfl, rfl, rfl, rfl⟩ := H
              have hnb46 := NB264_265.out
              have hnc46 := NB265_264.out
              have hcz47_0 : wc.cell? ⟨gb264, 0, none⟩ = some (.string a0_0) := (blk_cell BK264.out 0).trans rfl
              have hcz47_1 : wc.cell? ⟨gb264, 1, none⟩ = some (.string a0_1) := (blk_cell BK264.out 1).trans rfl
              have hcz47_2 : wc.cell? ⟨gb264, 2, none⟩ = some (.string a0_2) := (blk_cell BK264.out 2).trans rfl
              have hcz47_3 : wc.cell? ⟨gb264, 3, none⟩ = some (.int .i64 a0_3) := (blk_cell BK264.out 3).trans rfl
              have hcz47_4 : wc.cell? ⟨gb264, 4, none⟩ = some (.string a0_4) := (blk_cell BK264.out 4).trans rfl
              have hcz47_5 : wc.cell? ⟨gb264, 5, none⟩ = some (.int .u64 a0_5) := (blk_cell BK264.out 5).trans rfl
              have hcz47_6 : wc.cell? ⟨gb264, 6, none⟩ = some (.int .u64 a0_6) := (blk_cell BK264.out 6).trans rfl
              have hfz47_0 := blk_frozen BK264.out 0
              have hfz47_1 := blk_frozen BK264.out 1
              have hfz47_2 := blk_frozen BK264.out 2
              have hfz47_3 := blk_frozen BK264.out 3
              have hfz47_4 := blk_frozen BK264.out 4
              have hfz47_5 := blk_frozen BK264.out 5
              have hfz47_6 := blk_frozen BK264.out 6
              go_wp2_with (first | ((with_reducible refine gate_callee (f := 62) rfl ?_); refine goesL_ (some 72) rfl rfl Tryd.func62 (by kernel_rfl) rfl #[.bool true, .int .i64 94] rfl (by (try simp only [List.map_toArray, List.map_cons, List.map_nil]); first | done | rfl | (simp only [List.length_drop, List.length_take]; rfl)) ?_; (with_reducible refine (records_when.calls true 94 t272 _ A35.out).mono ?_); rintro e w' ⟨rfl, ⟨nd, rfl⟩⟩; refine ⟨_, rfl, ?_⟩; (try (rw [drewN_self wc]; generalize hq_ : World.drewN wc _ = wc; have n0_ : Aside0 (wc.heap[gb264]? = some (.cells #[.string a0_0, .string a0_1, .string a0_2, .int .i64 a0_3, .string a0_4, .int .u64 a0_5, .int .u64 a0_6] 41 (0, 0))) := ⟨by rw [← hq_]; exact (pk_ BK264)⟩; have n1_ : Aside0 (wc.heap[gb265]? = some (.cells #[.string (⟨#[]⟩ : ByteArray), .string (⟨#[]⟩ : ByteArray), .string (⟨#[]⟩ : ByteArray), .int .i64 0, .string (⟨#[]⟩ : ByteArray), .int .u64 0, .int .u64 0] 41 (0, 0))) := ⟨by rw [← hq_]; exact (pk_ BK265)⟩; have n2_ : Aside0 (Below w.heap.size w wc) := ⟨by rw [← hq_]; exact (pl_ HB)⟩; clear BK264 BK265 HB hq_; have BK264 := n0_; have BK265 := n1_; have HB := n2_; clear n0_ n1_ n2_))) | ((with_reducible refine gate_callee (f := 62) rfl ?_); refine goesL_ (some 74) rfl rfl Tryd.func62 (by kernel_rfl) rfl #[.bool x10_16, .int .i64 95] rfl (by (try simp only [List.map_toArray, List.map_cons, List.map_nil]); first | done | rfl | (simp only [List.length_drop, List.length_take]; rfl)) ?_; (with_reducible refine (records_when.calls x10_16 95 t273 _ A36.out).mono ?_); rintro e w' ⟨rfl, ⟨nd, rfl⟩⟩; refine ⟨_, rfl, ?_⟩; (try (rw [drewN_self wc]; generalize hq_ : World.drewN wc _ = wc; have n0_ : Aside0 (wc.heap[gb264]? = some (.cells #[.string a0_0, .string a0_1, .string a0_2, .int .i64 a0_3, .string a0_4, .int .u64 a0_5, .int .u64 a0_6] 41 (0, 0))) := ⟨by rw [← hq_]; exact (pk_ BK264)⟩; have n1_ : Aside0 (wc.heap[gb265]? = some (.cells #[.string (⟨#[]⟩ : ByteArray), .string (⟨#[]⟩ : ByteArray), .string (⟨#[]⟩ : ByteArray), .int .i64 0, .string (⟨#[]⟩ : ByteArray), .int .u64 0, .int .u64 0] 41 (0, 0))) := ⟨by rw [← hq_]; exact (pk_ BK265)⟩; have n2_ : Aside0 (Below w.heap.size w wc) := ⟨by rw [← hq_]; exact (pl_ HB)⟩; clear BK264 BK265 HB hq_; have BK264 := n0_; have BK265 := n1_; have HB := n2_; clear n0_ n1_ n2_))) | ((with_reducible refine gate_dst (N := 75) rfl ?_); refine Kd.R_lit (Kd.int .i64) _ 25 ?hg (N := 75) ?hd (xs := ([t267, t269, x9_4, t272, t273] : List Int)) (inner := [.int .i64 t267, .int .i64 t269, .int .i64 x9_4, .int .i64 t272, .int .i64 t273]) (ok := fun _ => True) (okp := fun _ => True) ?hr ?hp (fun _ hk => hk) trivial (Below.refl _ _) (Nat.le_refl _) (by simp) ?_; (case hd => rfl); (case hg => rfl); (case hr => first | (go_simp; done) | (go_simp; rfl)); (case hp => exact (Reps.one (show Kd.M (Kd.int .i64) _ _ _ t267 [.int .i64 t267] from rfl) (Reps.one (show Kd.M (Kd.int .i64) _ _ _ t269 [.int .i64 t269] from rfl) (Reps.one (show Kd.M (Kd.int .i64) _ _ _ x9_4 [.int .i64 x9_4] from rfl) (Reps.one (show Kd.M (Kd.int .i64) _ _ _ t272 [.int .i64 t272] from rfl) (Reps.one (show Kd.M (Kd.int .i64) _ _ _ t273 [.int .i64 t273] from rfl) (Reps.none _ _))))))); intro v275 w48 ho49 hb hg_ hnew_; clear hg_ hnew_; (first | rw [← Ny274.out] at ho49 | (simp only [Int.reduceToNat] at ho49; rw [← Ny274.out] at ho49)); have n0_ := Aside0.mk (Kd.R_lower ho49 (below_size (pl_ HB))); have n1_ := pb_ BK264 hb; have n2_ := pb_ BK265 hb; have n3_ := Aside0.mk (below_step (pl_ HB) hb); clear BK264; clear BK265; clear HB; have HO276 := n0_; have BK264 := n1_; have BK265 := n2_; have HB := n3_; clear n0_ n1_ n2_ n3_; clear hb ho49; obtain ⟨Ao50, co50, eo50⟩ := Kd.R_slice HO276.out; subst eo50) | ((with_reducible refine gate_callee (f := 60) rfl ?_); refine goesL_ (some 76) rfl rfl Tryd.func60 (by kernel_rfl) rfl #[.slice Ao50 y274.length co50] rfl (by (try simp only [List.map_toArray, List.map_cons, List.map_nil]); first | done | rfl | (simp only [List.length_drop, List.length_take]; rfl)) ?_; (with_reducible refine (records_first.calls kj16 _ _ y274 t277 _ ?side1 ?side2 A37.out).mono ?_); (case side1 => repeat (first | exact (Kd.R_reads' HO276.out).2.2 | (with_reducible refine Kd.C_alloc ?_ _) | (with_reducible refine Kd.C_drewN ?_ _) | (with_reducible refine Kd.C_drew ?_))); (case side2 => exact (Kd.R_reads' HO276.out).2.1); rintro e w' ⟨rfl, ⟨nd, rfl⟩⟩; refine ⟨_, rfl, ?_⟩; (try (rw [drewN_self w48]; generalize hq_ : World.drewN w48 _ = w48; have n0_ : Aside0 (Kd.R (Kd.int .i64) 25 w48 w.heap.size (fun _ => True) (.slice Ao50 y274.length co50) y274) := ⟨by rw [← hq_]; exact (pr_ HO276)⟩; have n1_ : Aside0 (w48.heap[gb264]? = some (.cells #[.string a0_0, .string a0_1, .string a0_2, .int .i64 a0_3, .string a0_4, .int .u64 a0_5, .int .u64 a0_6] 41 (0, 0))) := ⟨by rw [← hq_]; exact (pk_ BK264)⟩; have n2_ : Aside0 (w48.heap[gb265]? = some (.cells #[.string (⟨#[]⟩ : ByteArray), .string (⟨#[]⟩ : ByteArray), .string (⟨#[]⟩ : ByteArray), .int .i64 0, .string (⟨#[]⟩ : ByteArray), .int .u64 0, .int .u64 0] 41 (0, 0))) := ⟨by rw [← hq_]; exact (pk_ BK265)⟩; have n3_ : Aside0 (Below w.heap.size w w48) := ⟨by rw [← hq_]; exact (pl_ HB)⟩; clear HO276 BK264 BK265 HB hq_; have HO276 := n0_; have BK264 := n1_; have BK265 := n2_; have HB := n3_; clear n0_ n1_ n2_ n3_)); have hcz51_0 : w48.cell? ⟨gb265, 0, none⟩ = some (.string (⟨#[]⟩ : ByteArray)) := (blk_cell BK265.out 0).trans rfl; have hcz51_1 : w48.cell? ⟨gb265, 1, none⟩ = some (.string (⟨#[]⟩ : ByteArray)) := (blk_cell BK265.out 1).trans rfl; have hcz51_2 : w48.cell? ⟨gb265, 2, none⟩ = some (.string (⟨#[]⟩ : ByteArray)) := (blk_cell BK265.out 2).trans rfl; have hcz51_3 : w48.cell? ⟨gb265, 3, none⟩ = some (.int .i64 0) := (blk_cell BK265.out 3).trans rfl; have hcz51_4 : w48.cell? ⟨gb265, 4, none⟩ = some (.string (⟨#[]⟩ : ByteArray)) := (blk_cell BK265.out 4).trans rfl; have hcz51_5 : w48.cell? ⟨gb265, 5, none⟩ = some (.int .u64 0) := (blk_cell BK265.out 5).trans rfl; have hcz51_6 : w48.cell? ⟨gb265, 6, none⟩ = some (.int .u64 0) := (blk_cell BK265.out 6).trans rfl; have hfz51_0 := blk_frozen BK265.out 0; have hfz51_1 := blk_frozen BK265.out 1; have hfz51_2 := blk_frozen BK265.out 2; have hfz51_3 := blk_frozen BK265.out 3; have hfz51_4 := blk_frozen BK265.out 4; have hfz51_5 := blk_frozen BK265.out 5; have hfz51_6 := blk_frozen BK265.out 6))
              refine bodyPost_ret (results_ct rfl _ _ gb265 41 #[.string (⟨#[]⟩ : ByteArray), .string (⟨#[]⟩ : ByteArray), .string (⟨#[]⟩ : ByteArray), .int .i64 0, .string (⟨#[]⟩ : ByteArray), .int .u64 0, .int .u64 0] (0, 0) _ rfl (by (with_reducible repeat (first | refine blk_drewN ?_ _ | refine blk_drew ?_ | refine blk_alloc ?_ _)); refine blk_put (cs := #[.string (⟨#[]⟩ : ByteArray), .string (⟨#[]⟩ : ByteArray), .string (⟨#[]⟩ : ByteArray), .int .i64 0, .string (⟨#[]⟩ : ByteArray), .int .u64 0, .int .u64 0]) ?_ 6 _ rfl; (with_reducible repeat (first | refine blk_drewN ?_ _ | refine blk_drew ?_ | refine blk_alloc ?_ _)); refine blk_put (cs := #[.string (⟨#[]⟩ : ByteArray), .string (⟨#[]⟩ : ByteArray), .string (⟨#[]⟩ : ByteArray), .int .i64 0, .string (⟨#[]⟩ : ByteArray), .int .u64 0, .int .u64 0]) ?_ 5 _ rfl; (with_reducible repeat (first | refine blk_drewN ?_ _ | refine blk_drew ?_ | refine blk_alloc ?_ _)); refine blk_put (cs := #[.string (⟨#[]⟩ : ByteArray), .string (⟨#[]⟩ : ByteArray), .string (⟨#[]⟩ : ByteArray), .int .i64 0, .string (⟨#[]⟩ : ByteArray), .int .u64 0, .int .u64 0]) ?_ 4 _ rfl; (with_reducible repeat (first | refine blk_drewN ?_ _ | refine blk_drew ?_ | refine blk_alloc ?_ _)); refine blk_put (cs := #[.string (⟨#[]⟩ : ByteArray), .string (⟨#[]⟩ : ByteArray), .string (⟨#[]⟩ : ByteArray), .int .i64 0, .string (⟨#[]⟩ : ByteArray), .int .u64 0, .int .u64 0]) ?_ 3 _ rfl; (with_reducible repeat (first | refine blk_drewN ?_ _ | refine blk_drew ?_ | refine blk_alloc ?_ _)); refine blk_put (cs := #[.string (⟨#[]⟩ : ByteArray), .string (⟨#[]⟩ : ByteArray), .string (⟨#[]⟩ : ByteArray), .int .i64 0, .string (⟨#[]⟩ : ByteArray), .int .u64 0, .int .u64 0]) ?_ 2 _ rfl; (with_reducible repeat (first | refine blk_drewN ?_ _ | refine blk_drew ?_ | refine blk_alloc ?_ _)); refine blk_put (cs := #[.string (⟨#[]⟩ : ByteArray), .string (⟨#[]⟩ : ByteArray), .string (⟨#[]⟩ : ByteArray), .int .i64 0, .string (⟨#[]⟩ : ByteArray), .int .u64 0, .int .u64 0]) ?_ 1 _ rfl; (with_reducible repeat (first | refine blk_drewN ?_ _ | refine blk_drew ?_ | refine blk_alloc ?_ _)); refine blk_put (cs := #[.string (⟨#[]⟩ : ByteArray), .string (⟨#[]⟩ : ByteArray), .string (⟨#[]⟩ : ByteArray), .int .i64 0, .string (⟨#[]⟩ : ByteArray), .int .u64 0, .int .u64 0]) ?_ 0 _ rfl; (with_reducible repeat (first | refine blk_drewN ?_ _ | refine blk_drew ?_ | refine blk_alloc ?_ _)); exact BK265.out) Tryd.underlying41 rfl (by kernel_rfl)) rfl ?_
              exact ⟨by first | rfl | (simp [errW_none, errW_some] <;> rfl) | (simp [*, errW_none, errW_some] <;> rfl), by repeat (first | (with_reducible first | exact HB.out | apply below_alloc | apply pw_below_drewN | apply below_drew1 | refine below_set ?_ GE264.out | refine below_set ?_ GE265.out) | exact HB.out)⟩
          · rw [if_neg c34] at H
            have c34b0 : decide (a0_3 < 1) = false := decide_eq_false c34
            clear c34
            replace H := Option.bind_eq_some_iff.mp H
            obtain ⟨t278, A520, H⟩ := H
            replace H : ((records_when.f x10_16 95).bind fun t279 => ((records_first.f kj16 (([t267, t269, x9_4, t278, t279] : List Int))).bind fun t283 => (if t283 = 0 then (some (t266, t268, t270, a0_3, a0_4, 0, 0, 0)) else (some ((⟨#[]⟩ : ByteArray), (⟨#[]⟩ : ByteArray), (⟨#[]⟩ : ByteArray), 0, (⟨#[]⟩ : ByteArray), 0, 0, t283))))) = some (r1, r2, r3, r4, r5, r6, r7, r8) := H
            have A52 := Aside0.mk A520
            clear A520
            replace H := Option.bind_eq_some_iff.mp H
            obtain ⟨t279, A530, H⟩ := H
            replace H : ((records_first.f kj16 (([t267, t269, x9_4, t278, t279] : List Int))).bind fun t283 => (if t283 = 0 then (some (t266, t268, t270, a0_3, a0_4, 0, 0, 0)) else (some ((⟨#[]⟩ : ByteArray), (⟨#[]⟩ : ByteArray), (⟨#[]⟩ : ByteArray), 0, (⟨#[]⟩ : ByteArray), 0, 0, t283)))) = some (r1, r2, r3, r4, r5, r6, r7, r8) := H
            have A53 := Aside0.mk A530
            clear A530
            obtain ⟨y280, hy280⟩ : ∃ y_ : List Int, y_ = (([t267, t269, x9_4, t278, t279] : List Int)) := ⟨_, rfl⟩
            replace H : ((records_first.f kj16 y280).bind fun t283 => (if t283 = 0 then (some (t266, t268, t270, a0_3, a0_4, 0, 0, 0)) else (some ((⟨#[]⟩ : ByteArray), (⟨#[]⟩ : ByteArray), (⟨#[]⟩ : ByteArray), 0, (⟨#[]⟩ : ByteArray), 0, 0, t283)))) = some (r1, r2, r3, r4, r5, r6, r7, r8) := by first | (rw [hy280]; with_reducible exact H) | (have H2_ := (Option.bind_some _ _).symm.trans H; rw [hy280]; with_reducible exact H2_) | (have H2_ := (Option.bind_some _ _).symm.trans H; with_reducible exact H2_) | with_reducible exact H | (rw [hy280]; exact H) | exact H
            have Ny280 := Aside0.mk hy280
            clear hy280
            replace H := Option.bind_eq_some_iff.mp H
            obtain ⟨t283, A540, H⟩ := H
            replace H : (if t283 = 0 then (some (t266, t268, t270, a0_3, a0_4, 0, 0, 0)) else (some ((⟨#[]⟩ : ByteArray), (⟨#[]⟩ : ByteArray), (⟨#[]⟩ : ByteArray), 0, (⟨#[]⟩ : ByteArray), 0, 0, t283))) = some (r1, r2, r3, r4, r5, r6, r7, r8) := H
            have A54 := Aside0.mk A540
            clear A540
            by_cases c55 : t283 = 0
            · rw [if_pos c55] at H
              have c55b0 : (t283 == 0) = true := beq_iff_eq.mpr c55
              have c55b1 : (t283 != 0) = false := bne_eq_false_iff_eq.mpr c55
              clear c55
              simp only [Option.some.injEq, Prod.mk.injEq] at H
              obtain ⟨rfl, rfl, rfl, rfl, rfl, rfl, rfl, rfl⟩ := H
              have hnb56 := NB264_265.out
              have hnc56 := NB265_264.out
              have hcz57_0 : wc.cell? ⟨gb264, 0, none⟩ = some (.string a0_0) := (blk_cell BK264.out 0).trans rfl
              have hcz57_1 : wc.cell? ⟨gb264, 1, none⟩ = some (.string a0_1) := (blk_cell BK264.out 1).trans rfl
              have hcz57_2 : wc.cell? ⟨gb264, 2, none⟩ = some (.string a0_2) := (blk_cell BK264.out 2).trans rfl
              have hcz57_3 : wc.cell? ⟨gb264, 3, none⟩ = some (.int .i64 a0_3) := (blk_cell BK264.out 3).trans rfl
              have hcz57_4 : wc.cell? ⟨gb264, 4, none⟩ = some (.string a0_4) := (blk_cell BK264.out 4).trans rfl
              have hcz57_5 : wc.cell? ⟨gb264, 5, none⟩ = some (.int .u64 a0_5) := (blk_cell BK264.out 5).trans rfl
              have hcz57_6 : wc.cell? ⟨gb264, 6, none⟩ = some (.int .u64 a0_6) := (blk_cell BK264.out 6).trans rfl
              have hfz57_0 := blk_frozen BK264.out 0
              have hfz57_1 := blk_frozen BK264.out 1
              have hfz57_2 := blk_frozen BK264.out 2
              have hfz57_3 := blk_frozen BK264.out 3
              have hfz57_4 := blk_frozen BK264.out 4
              have hfz57_5 := blk_frozen BK264.out 5
              have hfz57_6 := blk_frozen BK264.out 6
              go_wp2_with (first | ((with_reducible refine gate_callee (f := 62) rfl ?_); refine goesL_ (some 72) rfl rfl Tryd.func62 (by kernel_rfl) rfl #[.bool (decide (a0_3 > 3)), .int .i64 94] rfl (by (try simp only [List.map_toArray, List.map_cons, List.map_nil]); first | done | rfl | (simp only [List.length_drop, List.length_take]; rfl)) ?_; (with_reducible refine (records_when.calls (decide (a0_3 > 3)) 94 t278 _ A52.out).mono ?_); rintro e w' ⟨rfl, ⟨nd, rfl⟩⟩; refine ⟨_, rfl, ?_⟩; (try (rw [drewN_self wc]; generalize hq_ : World.drewN wc _ = wc; have n0_ : Aside0 (wc.heap[gb264]? = some (.cells #[.string a0_0, .string a0_1, .string a0_2, .int .i64 a0_3, .string a0_4, .int .u64 a0_5, .int .u64 a0_6] 41 (0, 0))) := ⟨by rw [← hq_]; exact (pk_ BK264)⟩; have n1_ : Aside0 (wc.heap[gb265]? = some (.cells #[.string (⟨#[]⟩ : ByteArray), .string (⟨#[]⟩ : ByteArray), .string (⟨#[]⟩ : ByteArray), .int .i64 0, .string (⟨#[]⟩ : ByteArray), .int .u64 0, .int .u64 0] 41 (0, 0))) := ⟨by rw [← hq_]; exact (pk_ BK265)⟩; have n2_ : Aside0 (Below w.heap.size w wc) := ⟨by rw [← hq_]; exact (pl_ HB)⟩; clear BK264 BK265 HB hq_; have BK264 := n0_; have BK265 := n1_; have HB := n2_; clear n0_ n1_ n2_))) | ((with_reducible refine gate_callee (f := 62) rfl ?_); refine goesL_ (some 74) rfl rfl Tryd.func62 (by kernel_rfl) rfl #[.bool x10_16, .int .i64 95] rfl (by (try simp only [List.map_toArray, List.map_cons, List.map_nil]); first | done | rfl | (simp only [List.length_drop, List.length_take]; rfl)) ?_; (with_reducible refine (records_when.calls x10_16 95 t279 _ A53.out).mono ?_); rintro e w' ⟨rfl, ⟨nd, rfl⟩⟩; refine ⟨_, rfl, ?_⟩; (try (rw [drewN_self wc]; generalize hq_ : World.drewN wc _ = wc; have n0_ : Aside0 (wc.heap[gb264]? = some (.cells #[.string a0_0, .string a0_1, .string a0_2, .int .i64 a0_3, .string a0_4, .int .u64 a0_5, .int .u64 a0_6] 41 (0, 0))) := ⟨by rw [← hq_]; exact (pk_ BK264)⟩; have n1_ : Aside0 (wc.heap[gb265]? = some (.cells #[.string (⟨#[]⟩ : ByteArray), .string (⟨#[]⟩ : ByteArray), .string (⟨#[]⟩ : ByteArray), .int .i64 0, .string (⟨#[]⟩ : ByteArray), .int .u64 0, .int .u64 0] 41 (0, 0))) := ⟨by rw [← hq_]; exact (pk_ BK265)⟩; have n2_ : Aside0 (Below w.heap.size w wc) := ⟨by rw [← hq_]; exact (pl_ HB)⟩; clear BK264 BK265 HB hq_; have BK264 := n0_; have BK265 := n1_; have HB := n2_; clear n0_ n1_ n2_))) | ((with_reducible refine gate_dst (N := 75) rfl ?_); refine Kd.R_lit (Kd.int .i64) _ 25 ?hg (N := 75) ?hd (xs := ([t267, t269, x9_4, t278, t279] : List Int)) (inner := [.int .i64 t267, .int .i64 t269, .int .i64 x9_4, .int .i64 t278, .int .i64 t279]) (ok := fun _ => True) (okp := fun _ => True) ?hr ?hp (fun _ hk => hk) trivial (Below.refl _ _) (Nat.le_refl _) (by simp) ?_; (case hd => rfl); (case hg => rfl); (case hr => first | (go_simp; done) | (go_simp; rfl)); (case hp => exact (Reps.one (show Kd.M (Kd.int .i64) _ _ _ t267 [.int .i64 t267] from rfl) (Reps.one (show Kd.M (Kd.int .i64) _ _ _ t269 [.int .i64 t269] from rfl) (Reps.one (show Kd.M (Kd.int .i64) _ _ _ x9_4 [.int .i64 x9_4] from rfl) (Reps.one (show Kd.M (Kd.int .i64) _ _ _ t278 [.int .i64 t278] from rfl) (Reps.one (show Kd.M (Kd.int .i64) _ _ _ t279 [.int .i64 t279] from rfl) (Reps.none _ _))))))); intro v281 w58 ho59 hb hg_ hnew_; clear hg_ hnew_; (first | rw [← Ny280.out] at ho59 | (simp only [Int.reduceToNat] at ho59; rw [← Ny280.out] at ho59)); have n0_ := Aside0.mk (Kd.R_lower ho59 (below_size (pl_ HB))); have n1_ := pb_ BK264 hb; have n2_ := pb_ BK265 hb; have n3_ := Aside0.mk (below_step (pl_ HB) hb); clear BK264; clear BK265; clear HB; have HO282 := n0_; have BK264 := n1_; have BK265 := n2_; have HB := n3_; clear n0_ n1_ n2_ n3_; clear hb ho59; obtain ⟨Ao60, co60, eo60⟩ := Kd.R_slice HO282.out; subst eo60) | ((with_reducible refine gate_callee (f := 60) rfl ?_); refine goesL_ (some 76) rfl rfl Tryd.func60 (by kernel_rfl) rfl #[.slice Ao60 y280.length co60] rfl (by (try simp only [List.map_toArray, List.map_cons, List.map_nil]); first | done | rfl | (simp only [List.length_drop, List.length_take]; rfl)) ?_; (with_reducible refine (records_first.calls kj16 _ _ y280 t283 _ ?side1 ?side2 A54.out).mono ?_); (case side1 => repeat (first | exact (Kd.R_reads' HO282.out).2.2 | (with_reducible refine Kd.C_alloc ?_ _) | (with_reducible refine Kd.C_drewN ?_ _) | (with_reducible refine Kd.C_drew ?_))); (case side2 => exact (Kd.R_reads' HO282.out).2.1); rintro e w' ⟨rfl, ⟨nd, rfl⟩⟩; refine ⟨_, rfl, ?_⟩; (try (rw [drewN_self w58]; generalize hq_ : World.drewN w58 _ = w58; have n0_ : Aside0 (Kd.R (Kd.int .i64) 25 w58 w.heap.size (fun _ => True) (.slice Ao60 y280.length co60) y280) := ⟨by rw [← hq_]; exact (pr_ HO282)⟩; have n1_ : Aside0 (w58.heap[gb264]? = some (.cells #[.string a0_0, .string a0_1, .string a0_2, .int .i64 a0_3, .string a0_4, .int .u64 a0_5, .int .u64 a0_6] 41 (0, 0))) := ⟨by rw [← hq_]; exact (pk_ BK264)⟩; have n2_ : Aside0 (w58.heap[gb265]? = some (.cells #[.string (⟨#[]⟩ : ByteArray), .string (⟨#[]⟩ : ByteArray), .string (⟨#[]⟩ : ByteArray), .int .i64 0, .string (⟨#[]⟩ : ByteArray), .int .u64 0, .int .u64 0] 41 (0, 0))) := ⟨by rw [← hq_]; exact (pk_ BK265)⟩; have n3_ : Aside0 (Below w.heap.size w w58) := ⟨by rw [← hq_]; exact (pl_ HB)⟩; clear HO282 BK264 BK265 HB hq_; have HO282 := n0_; have BK264 := n1_; have BK265 := n2_; have HB := n3_; clear n0_ n1_ n2_ n3_)); have hcz61_0 : w58.cell? ⟨gb264, 0, none⟩ = some (.string a0_0) := (blk_cell BK264.out 0).trans rfl; have hcz61_1 : w58.cell? ⟨gb264, 1, none⟩ = some (.string a0_1) := (blk_cell BK264.out 1).trans rfl; have hcz61_2 : w58.cell? ⟨gb264, 2, none⟩ = some (.string a0_2) := (blk_cell BK264.out 2).trans rfl; have hcz61_3 : w58.cell? ⟨gb264, 3, none⟩ = some (.int .i64 a0_3) := (blk_cell BK264.out 3).trans rfl; have hcz61_4 : w58.cell? ⟨gb264, 4, none⟩ = some (.string a0_4) := (blk_cell BK264.out 4).trans rfl; have hcz61_5 : w58.cell? ⟨gb264, 5, none⟩ = some (.int .u64 a0_5) := (blk_cell BK264.out 5).trans rfl; have hcz61_6 : w58.cell? ⟨gb264, 6, none⟩ = some (.int .u64 a0_6) := (blk_cell BK264.out 6).trans rfl; have hfz61_0 := blk_frozen BK264.out 0; have hfz61_1 := blk_frozen BK264.out 1; have hfz61_2 := blk_frozen BK264.out 2; have hfz61_3 := blk_frozen BK264.out 3; have hfz61_4 := blk_frozen BK264.out 4; have hfz61_5 := blk_frozen BK264.out 5; have hfz61_6 := blk_frozen BK264.out 6; have hcz62_0 : w58.cell? ⟨gb265, 0, none⟩ = some (.string (⟨#[]⟩ : ByteArray)) := (blk_cell BK265.out 0).trans rfl; have hcz62_1 : w58.cell? ⟨gb265, 1, none⟩ = some (.string (⟨#[]⟩ : ByteArray)) := (blk_cell BK265.out 1).trans rfl; have hcz62_2 : w58.cell? ⟨gb265, 2, none⟩ = some (.string (⟨#[]⟩ : ByteArray)) := (blk_cell BK265.out 2).trans rfl; have hcz62_3 : w58.cell? ⟨gb265, 3, none⟩ = some (.int .i64 0) := (blk_cell BK265.out 3).trans rfl; have hcz62_4 : w58.cell? ⟨gb265, 4, none⟩ = some (.string (⟨#[]⟩ : ByteArray)) := (blk_cell BK265.out 4).trans rfl; have hcz62_5 : w58.cell? ⟨gb265, 5, none⟩ = some (.int .u64 0) := (blk_cell BK265.out 5).trans rfl; have hcz62_6 : w58.cell? ⟨gb265, 6, none⟩ = some (.int .u64 0) := (blk_cell BK265.out 6).trans rfl; have hfz62_0 := blk_frozen BK265.out 0; have hfz62_1 := blk_frozen BK265.out 1; have hfz62_2 := blk_frozen BK265.out 2; have hfz62_3 := blk_frozen BK265.out 3; have hfz62_4 := blk_frozen BK265.out 4; have hfz62_5 := blk_frozen BK265.out 5; have hfz62_6 := blk_frozen BK265.out 6))
              refine bodyPost_ret (results_ct rfl _ _ gb265 41 #[.string t266, .string t268, .string t270, .int .i64 a0_3, .string a0_4, .int .u64 0, .int .u64 0] (0, 0) _ rfl (by (with_reducible repeat (first | refine blk_drewN ?_ _ | refine blk_drew ?_ | refine blk_alloc ?_ _)); refine blk_put (cs := #[.string t266, .string t268, .string t270, .int .i64 a0_3, .string a0_4, .int .u64 0, .int .u64 0]) ?_ 6 _ rfl; (with_reducible repeat (first | refine blk_drewN ?_ _ | refine blk_drew ?_ | refine blk_alloc ?_ _)); refine blk_put (cs := #[.string t266, .string t268, .string t270, .int .i64 a0_3, .string a0_4, .int .u64 0, .int .u64 0]) ?_ 5 _ rfl; (with_reducible repeat (first | refine blk_drewN ?_ _ | refine blk_drew ?_ | refine blk_alloc ?_ _)); refine blk_put (cs := #[.string t266, .string t268, .string t270, .int .i64 a0_3, .string (⟨#[]⟩ : ByteArray), .int .u64 0, .int .u64 0]) ?_ 4 _ rfl; (with_reducible repeat (first | refine blk_drewN ?_ _ | refine blk_drew ?_ | refine blk_alloc ?_ _)); refine blk_put (cs := #[.string t266, .string t268, .string t270, .int .i64 0, .string (⟨#[]⟩ : ByteArray), .int .u64 0, .int .u64 0]) ?_ 3 _ rfl; (with_reducible repeat (first | refine blk_drewN ?_ _ | refine blk_drew ?_ | refine blk_alloc ?_ _)); refine blk_put (cs := #[.string t266, .string t268, .string (⟨#[]⟩ : ByteArray), .int .i64 0, .string (⟨#[]⟩ : ByteArray), .int .u64 0, .int .u64 0]) ?_ 2 _ rfl; (with_reducible repeat (first | refine blk_drewN ?_ _ | refine blk_drew ?_ | refine blk_alloc ?_ _)); refine blk_put (cs := #[.string t266, .string (⟨#[]⟩ : ByteArray), .string (⟨#[]⟩ : ByteArray), .int .i64 0, .string (⟨#[]⟩ : ByteArray), .int .u64 0, .int .u64 0]) ?_ 1 _ rfl; (with_reducible repeat (first | refine blk_drewN ?_ _ | refine blk_drew ?_ | refine blk_alloc ?_ _)); refine blk_put (cs := #[.string (⟨#[]⟩ : ByteArray), .string (⟨#[]⟩ : ByteArray), .string (⟨#[]⟩ : ByteArray), .int .i64 0, .string (⟨#[]⟩ : ByteArray), .int .u64 0, .int .u64 0]) ?_ 0 _ rfl; (with_reducible repeat (first | refine blk_drewN ?_ _ | refine blk_drew ?_ | refine blk_alloc ?_ _)); exact BK265.out) Tryd.underlying41 rfl (by kernel_rfl)) rfl ?_
              exact ⟨by first | rfl | (simp [errW_none, errW_some] <;> rfl) | (simp [*, errW_none, errW_some] <;> rfl), by repeat (first | (with_reducible first | exact HB.out | apply below_alloc | apply pw_below_drewN | apply below_drew1 | refine below_set ?_ GE264.out | refine below_set ?_ GE265.out) | exact HB.out)⟩
            · rw [if_neg c55] at H
              have c55b0 : (t283 == 0) = false := beq_eq_false_iff_ne.mpr c55
              have c55b1 : (t283 != 0) = true := bne_iff_ne.mpr c55
              simp only [Option.some.injEq, Prod.mk.injEq] at H
              obtain ⟨rfl, rfl, rfl, rfl, rfl, rfl, rfl, rfl⟩ := H
              have hnb63 := NB264_265.out
              have hnc63 := NB265_264.out
              have hcz64_0 : wc.cell? ⟨gb264, 0, none⟩ = some (.string a0_0) := (blk_cell BK264.out 0).trans rfl
              have hcz64_1 : wc.cell? ⟨gb264, 1, none⟩ = some (.string a0_1) := (blk_cell BK264.out 1).trans rfl
              have hcz64_2 : wc.cell? ⟨gb264, 2, none⟩ = some (.string a0_2) := (blk_cell BK264.out 2).trans rfl
              have hcz64_3 : wc.cell? ⟨gb264, 3, none⟩ = some (.int .i64 a0_3) := (blk_cell BK264.out 3).trans rfl
              have hcz64_4 : wc.cell? ⟨gb264, 4, none⟩ = some (.string a0_4) := (blk_cell BK264.out 4).trans rfl
              have hcz64_5 : wc.cell? ⟨gb264, 5, none⟩ = some (.int .u64 a0_5) := (blk_cell BK264.out 5).trans rfl
              have hcz64_6 : wc.cell? ⟨gb264, 6, none⟩ = some (.int .u64 a0_6) := (blk_cell BK264.out 6).trans rfl
              have hfz64_0 := blk_frozen BK264.out 0
              have hfz64_1 := blk_frozen BK264.out 1
              have hfz64_2 := blk_frozen BK264.out 2
              have hfz64_3 := blk_frozen BK264.out 3
              have hfz64_4 := blk_frozen BK264.out 4
              have hfz64_5 := blk_frozen BK264.out 5
              have hfz64_6 := blk_frozen BK264.out 6
              go_wp2_with (first | ((with_reducible refine gate_callee (f := 62) rfl ?_); refine goesL_ (some 72) rfl rfl Tryd.func62 (by kernel_rfl) rfl #[.bool (decide (a0_3 > 3)), .int .i64 94] rfl (by (try simp only [List.map_toArray, List.map_cons, List.map_nil]); first | done | rfl | (simp only [List.length_drop, List.length_take]; rfl)) ?_; (with_reducible refine (records_when.calls (decide (a0_3 > 3)) 94 t278 _ A52.out).mono ?_); rintro e w' ⟨rfl, ⟨nd, rfl⟩⟩; refine ⟨_, rfl, ?_⟩; (try (rw [drewN_self wc]; generalize hq_ : World.drewN wc _ = wc; have n0_ : Aside0 (wc.heap[gb264]? = some (.cells #[.string a0_0, .string a0_1, .string a0_2, .int .i64 a0_3, .string a0_4, .int .u64 a0_5, .int .u64 a0_6] 41 (0, 0))) := ⟨by rw [← hq_]; exact (pk_ BK264)⟩; have n1_ : Aside0 (wc.heap[gb265]? = some (.cells #[.string (⟨#[]⟩ : ByteArray), .string (⟨#[]⟩ : ByteArray), .string (⟨#[]⟩ : ByteArray), .int .i64 0, .string (⟨#[]⟩ : ByteArray), .int .u64 0, .int .u64 0] 41 (0, 0))) := ⟨by rw [← hq_]; exact (pk_ BK265)⟩; have n2_ : Aside0 (Below w.heap.size w wc) := ⟨by rw [← hq_]; exact (pl_ HB)⟩; clear BK264 BK265 HB hq_; have BK264 := n0_; have BK265 := n1_; have HB := n2_; clear n0_ n1_ n2_))) | ((with_reducible refine gate_callee (f := 62) rfl ?_); refine goesL_ (some 74) rfl rfl Tryd.func62 (by kernel_rfl) rfl #[.bool x10_16, .int .i64 95] rfl (by (try simp only [List.map_toArray, List.map_cons, List.map_nil]); first | done | rfl | (simp only [List.length_drop, List.length_take]; rfl)) ?_; (with_reducible refine (records_when.calls x10_16 95 t279 _ A53.out).mono ?_); rintro e w' ⟨rfl, ⟨nd, rfl⟩⟩; refine ⟨_, rfl, ?_⟩; (try (rw [drewN_self wc]; generalize hq_ : World.drewN wc _ = wc; have n0_ : Aside0 (wc.heap[gb264]? = some (.cells #[.string a0_0, .string a0_1, .string a0_2, .int .i64 a0_3, .string a0_4, .int .u64 a0_5, .int .u64 a0_6] 41 (0, 0))) := ⟨by rw [← hq_]; exact (pk_ BK264)⟩; have n1_ : Aside0 (wc.heap[gb265]? = some (.cells #[.string (⟨#[]⟩ : ByteArray), .string (⟨#[]⟩ : ByteArray), .string (⟨#[]⟩ : ByteArray), .int .i64 0, .string (⟨#[]⟩ : ByteArray), .int .u64 0, .int .u64 0] 41 (0, 0))) := ⟨by rw [← hq_]; exact (pk_ BK265)⟩; have n2_ : Aside0 (Below w.heap.size w wc) := ⟨by rw [← hq_]; exact (pl_ HB)⟩; clear BK264 BK265 HB hq_; have BK264 := n0_; have BK265 := n1_; have HB := n2_; clear n0_ n1_ n2_))) | ((with_reducible refine gate_dst (N := 75) rfl ?_); refine Kd.R_lit (Kd.int .i64) _ 25 ?hg (N := 75) ?hd (xs := ([t267, t269, x9_4, t278, t279] : List Int)) (inner := [.int .i64 t267, .int .i64 t269, .int .i64 x9_4, .int .i64 t278, .int .i64 t279]) (ok := fun _ => True) (okp := fun _ => True) ?hr ?hp (fun _ hk => hk) trivial (Below.refl _ _) (Nat.le_refl _) (by simp) ?_; (case hd => rfl); (case hg => rfl); (case hr => first | (go_simp; done) | (go_simp; rfl)); (case hp => exact (Reps.one (show Kd.M (Kd.int .i64) _ _ _ t267 [.int .i64 t267] from rfl) (Reps.one (show Kd.M (Kd.int .i64) _ _ _ t269 [.int .i64 t269] from rfl) (Reps.one (show Kd.M (Kd.int .i64) _ _ _ x9_4 [.int .i64 x9_4] from rfl) (Reps.one (show Kd.M (Kd.int .i64) _ _ _ t278 [.int .i64 t278] from rfl) (Reps.one (show Kd.M (Kd.int .i64) _ _ _ t279 [.int .i64 t279] from rfl) (Reps.none _ _))))))); intro v281 w65 ho66 hb hg_ hnew_; clear hg_ hnew_; (first | rw [← Ny280.out] at ho66 | (simp only [Int.reduceToNat] at ho66; rw [← Ny280.out] at ho66)); have n0_ := Aside0.mk (Kd.R_lower ho66 (below_size (pl_ HB))); have n1_ := pb_ BK264 hb; have n2_ := pb_ BK265 hb; have n3_ := Aside0.mk (below_step (pl_ HB) hb); clear BK264; clear BK265; clear HB; have HO282 := n0_; have BK264 := n1_; have BK265 := n2_; have HB := n3_; clear n0_ n1_ n2_ n3_; clear hb ho66; obtain ⟨Ao67, co67, eo67⟩ := Kd.R_slice HO282.out; subst eo67) | ((with_reducible refine gate_callee (f := 60) rfl ?_); refine goesL_ (some 76) rfl rfl Tryd.func60 (by kernel_rfl) rfl #[.slice Ao67 y280.length co67] rfl (by (try simp only [List.map_toArray, List.map_cons, List.map_nil]); first | done | rfl | (simp only [List.length_drop, List.length_take]; rfl)) ?_; (with_reducible refine (records_first.calls kj16 _ _ y280 t283 _ ?side1 ?side2 A54.out).mono ?_); (case side1 => repeat (first | exact (Kd.R_reads' HO282.out).2.2 | (with_reducible refine Kd.C_alloc ?_ _) | (with_reducible refine Kd.C_drewN ?_ _) | (with_reducible refine Kd.C_drew ?_))); (case side2 => exact (Kd.R_reads' HO282.out).2.1); rintro e w' ⟨rfl, ⟨nd, rfl⟩⟩; refine ⟨_, rfl, ?_⟩; (try (rw [drewN_self w65]; generalize hq_ : World.drewN w65 _ = w65; have n0_ : Aside0 (Kd.R (Kd.int .i64) 25 w65 w.heap.size (fun _ => True) (.slice Ao67 y280.length co67) y280) := ⟨by rw [← hq_]; exact (pr_ HO282)⟩; have n1_ : Aside0 (w65.heap[gb264]? = some (.cells #[.string a0_0, .string a0_1, .string a0_2, .int .i64 a0_3, .string a0_4, .int .u64 a0_5, .int .u64 a0_6] 41 (0, 0))) := ⟨by rw [← hq_]; exact (pk_ BK264)⟩; have n2_ : Aside0 (w65.heap[gb265]? = some (.cells #[.string (⟨#[]⟩ : ByteArray), .string (⟨#[]⟩ : ByteArray), .string (⟨#[]⟩ : ByteArray), .int .i64 0, .string (⟨#[]⟩ : ByteArray), .int .u64 0, .int .u64 0] 41 (0, 0))) := ⟨by rw [← hq_]; exact (pk_ BK265)⟩; have n3_ : Aside0 (Below w.heap.size w w65) := ⟨by rw [← hq_]; exact (pl_ HB)⟩; clear HO282 BK264 BK265 HB hq_; have HO282 := n0_; have BK264 := n1_; have BK265 := n2_; have HB := n3_; clear n0_ n1_ n2_ n3_)); have hcz68_0 : w65.cell? ⟨gb265, 0, none⟩ = some (.string (⟨#[]⟩ : ByteArray)) := (blk_cell BK265.out 0).trans rfl; have hcz68_1 : w65.cell? ⟨gb265, 1, none⟩ = some (.string (⟨#[]⟩ : ByteArray)) := (blk_cell BK265.out 1).trans rfl; have hcz68_2 : w65.cell? ⟨gb265, 2, none⟩ = some (.string (⟨#[]⟩ : ByteArray)) := (blk_cell BK265.out 2).trans rfl; have hcz68_3 : w65.cell? ⟨gb265, 3, none⟩ = some (.int .i64 0) := (blk_cell BK265.out 3).trans rfl; have hcz68_4 : w65.cell? ⟨gb265, 4, none⟩ = some (.string (⟨#[]⟩ : ByteArray)) := (blk_cell BK265.out 4).trans rfl; have hcz68_5 : w65.cell? ⟨gb265, 5, none⟩ = some (.int .u64 0) := (blk_cell BK265.out 5).trans rfl; have hcz68_6 : w65.cell? ⟨gb265, 6, none⟩ = some (.int .u64 0) := (blk_cell BK265.out 6).trans rfl; have hfz68_0 := blk_frozen BK265.out 0; have hfz68_1 := blk_frozen BK265.out 1; have hfz68_2 := blk_frozen BK265.out 2; have hfz68_3 := blk_frozen BK265.out 3; have hfz68_4 := blk_frozen BK265.out 4; have hfz68_5 := blk_frozen BK265.out 5; have hfz68_6 := blk_frozen BK265.out 6))
              refine bodyPost_ret (results_ct rfl _ _ gb265 41 #[.string (⟨#[]⟩ : ByteArray), .string (⟨#[]⟩ : ByteArray), .string (⟨#[]⟩ : ByteArray), .int .i64 0, .string (⟨#[]⟩ : ByteArray), .int .u64 0, .int .u64 0] (0, 0) _ rfl (by (with_reducible repeat (first | refine blk_drewN ?_ _ | refine blk_drew ?_ | refine blk_alloc ?_ _)); refine blk_put (cs := #[.string (⟨#[]⟩ : ByteArray), .string (⟨#[]⟩ : ByteArray), .string (⟨#[]⟩ : ByteArray), .int .i64 0, .string (⟨#[]⟩ : ByteArray), .int .u64 0, .int .u64 0]) ?_ 6 _ rfl; (with_reducible repeat (first | refine blk_drewN ?_ _ | refine blk_drew ?_ | refine blk_alloc ?_ _)); refine blk_put (cs := #[.string (⟨#[]⟩ : ByteArray), .string (⟨#[]⟩ : ByteArray), .string (⟨#[]⟩ : ByteArray), .int .i64 0, .string (⟨#[]⟩ : ByteArray), .int .u64 0, .int .u64 0]) ?_ 5 _ rfl; (with_reducible repeat (first | refine blk_drewN ?_ _ | refine blk_drew ?_ | refine blk_alloc ?_ _)); refine blk_put (cs := #[.string (⟨#[]⟩ : ByteArray), .string (⟨#[]⟩ : ByteArray), .string (⟨#[]⟩ : ByteArray), .int .i64 0, .string (⟨#[]⟩ : ByteArray), .int .u64 0, .int .u64 0]) ?_ 4 _ rfl; (with_reducible repeat (first | refine blk_drewN ?_ _ | refine blk_drew ?_ | refine blk_alloc ?_ _)); refine blk_put (cs := #[.string (⟨#[]⟩ : ByteArray), .string (⟨#[]⟩ : ByteArray), .string (⟨#[]⟩ : ByteArray), .int .i64 0, .string (⟨#[]⟩ : ByteArray), .int .u64 0, .int .u64 0]) ?_ 3 _ rfl; (with_reducible repeat (first | refine blk_drewN ?_ _ | refine blk_drew ?_ | refine blk_alloc ?_ _)); refine blk_put (cs := #[.string (⟨#[]⟩ : ByteArray), .string (⟨#[]⟩ : ByteArray), .string (⟨#[]⟩ : ByteArray), .int .i64 0, .string (⟨#[]⟩ : ByteArray), .int .u64 0, .int .u64 0]) ?_ 2 _ rfl; (with_reducible repeat (first | refine blk_drewN ?_ _ | refine blk_drew ?_ | refine blk_alloc ?_ _)); refine blk_put (cs := #[.string (⟨#[]⟩ : ByteArray), .string (⟨#[]⟩ : ByteArray), .string (⟨#[]⟩ : ByteArray), .int .i64 0, .string (⟨#[]⟩ : ByteArray), .int .u64 0, .int .u64 0]) ?_ 1 _ rfl; (with_reducible repeat (first | refine blk_drewN ?_ _ | refine blk_drew ?_ | refine blk_alloc ?_ _)); refine blk_put (cs := #[.string (⟨#[]⟩ : ByteArray), .string (⟨#[]⟩ : ByteArray), .string (⟨#[]⟩ : ByteArray), .int .i64 0, .string (⟨#[]⟩ : ByteArray), .int .u64 0, .int .u64 0]) ?_ 0 _ rfl; (with_reducible repeat (first | refine blk_drewN ?_ _ | refine blk_drew ?_ | refine blk_alloc ?_ _)); exact BK265.out) Tryd.underlying41 rfl (by kernel_rfl)) rfl ?_
              exact ⟨by first | rfl | (simp [errW_none, errW_some] <;> rfl) | (simp [*, errW_none, errW_some] <;> rfl), by repeat (first | (with_reducible first | exact HB.out | apply below_alloc | apply pw_below_drewN | apply below_drew1 | refine below_set ?_ GE264.out | refine below_set ?_ GE265.out) | exact HB.out)⟩

end Go.Proofs.YtagbpjegdfhmpaaDoor.P
