/- records.FixCheck: what it answers. -/
import Derived.Test.YtkhgfdlinobabaaGreatDoorJSvc
import Derived.Deep.Cut
import Derived.Deep.CutBlock
namespace Go.Proofs.YtkhgfdlinobabaaGreatDoor.G
open Go.RowKit
set_option linter.unusedVariables false
set_option linter.unusedSimpArgs false
def NoteOk (s : ByteArray) : Prop := s.size ≤ 200 ∧ ∀ j, j < s.size → 32 ≤ byI s j ∧ byI s j ≤ 126
open Classical in
noncomputable def noteE (s : ByteArray) : Int := if NoteOk s then 0 else 95
theorem noteE_ok {s : ByteArray} (h : NoteOk s) : noteE s = 0 := if_pos h
theorem noteE_bad {s : ByteArray} (h : ¬ NoteOk s) : noteE s = 95 := if_neg h
theorem noteB (s : ByteArray) : ∃ b : Bool, (b = true ↔ ¬ NoteOk s) ∧ noteE s = if b then 95 else 0 := by
  by_cases h : NoteOk s
  · exact ⟨false, by simp [h], by rw [noteE_ok h]; rfl⟩
  · exact ⟨true, by simp [h], by rw [noteE_bad h]; rfl⟩
noncomputable def chkE (c : Chk) : Int := firstE [(labelV c.node).2, (labelV c.id).2, if c.service = E0 then 0 else (labelV c.service).2, if c.status < 1 ∨ 3 < c.status then 94 else 0, noteE c.note]
noncomputable def fixChk (c : Chk) : Chk × Int := if chkE c = 0 then (⟨(labelV c.node).1, (labelV c.id).1, (labelV c.service).1, c.status, c.note, 0, 0⟩, 0) else (Chk.zero, chkE c)
theorem fixChk_ok {s : Chk} (h : chkE s = 0) : fixChk s = (⟨(labelV s.node).1, (labelV s.id).1, (labelV s.service).1, s.status, s.note, 0, 0⟩, 0) := if_pos h
theorem fixChk_bad {s : Chk} (h : chkE s ≠ 0) : fixChk s = (Chk.zero, chkE s) := if_neg h
set_option maxHeartbeats 4000000 in
set_option maxRecDepth 100000 in
theorem fixCheck_calls (nd id sv : ByteArray) (p : Int) (nt : ByteArray) (m c : Int) (h1 : nd.size ≤ 140737488355328) (h2 : id.size ≤ 140737488355328) (h3 : sv.size ≤ 140737488355328) (h4 : nt.size ≤ 140737488355328) (w : World) :
    Calls Tryz.prog 60 #[.agg #[.string nd, .string id, .string sv, .int .i64 p, .string nt, .int .u64 m, .int .u64 c]] w fun e w' => ∃ r x, fixChk ⟨nd, id, sv, p, nt, m, c⟩ = (r, x) ∧ e = .returned (.tuple #[.agg #[.string r.node, .string r.id, .string r.service, .int .i64 r.status, .string r.note, .int .u64 r.made, .int .u64 r.changed], .int .i64 x]) ∧ Below w.heap.size w w' := by
  have HF : Hid ((chkE ⟨nd, id, sv, p, nt, m, c⟩ = 0 → fixChk ⟨nd, id, sv, p, nt, m, c⟩ = (⟨(labelV nd).1, (labelV id).1, (labelV sv).1, p, nt, 0, 0⟩, 0)) ∧ (chkE ⟨nd, id, sv, p, nt, m, c⟩ ≠ 0 → fixChk ⟨nd, id, sv, p, nt, m, c⟩ = (Chk.zero, chkE ⟨nd, id, sv, p, nt, m, c⟩))) := Lib.hid ⟨fun h => fixChk_ok h, fun h => fixChk_bad h⟩
  obtain ⟨E, hE⟩ : ∃ E, E = chkE ⟨nd, id, sv, p, nt, m, c⟩ := ⟨_, rfl⟩
  have hE2 : E = firstE [(labelV nd).2, (labelV id).2, if sv = E0 then 0 else (labelV sv).2, if p < 1 ∨ 3 < p then 94 else 0, noteE nt] := hE
  rw [← hE] at HF
  have HE := Lib.hid hE2
  clear hE hE2
  go_enter Tryz.func60, Tryz.ntmps60
  go_wp2_with (go_at_call 61; refine (label_calls nd h1 _).mono ?_)
  rintro e w1 ⟨rfl, hb1⟩
  have p1 := blk_keep hb1 (blk_old (blk_new w _))
  have q1 := blk_keep hb1 (blk_new _ _)
  have B1 : Below w.heap.size w w1 := (((Below.refl _ w).alloc (Nat.le_refl _) _).alloc (by simp) _).trans (hb1.mono (by simp; omega))
  have s1 : w.heap.size + 1 < w1.heap.size := by have := hb1.size; simp at this; omega
  have HB := Lib.hid B1
  clear hb1 B1
  rw [show (w.alloc (.cells #[.string nd, .string id, .string sv, .int .i64 p, .string nt, .int .u64 m, .int .u64 c] 51)).heap.size = w.heap.size + 1 by simp] at q1
  have c1 := Blk.cell p1 1
  simp only [List.getElem?_toArray, List.getElem?_cons_zero, List.getElem?_cons_succ] at c1
  go_wp2_with (go_at_call 61; refine (label_calls id h2 _).mono ?_)
  rintro e w2 ⟨rfl, hb2⟩
  have p2 := blk_keep hb2 p1
  have q2 := blk_keep hb2 q1
  have s2 : w.heap.size + 1 < w2.heap.size := by have := hb2.size; omega
  have HB := Lib.hid (HB.out.trans (hb2.mono (by omega)))
  clear hb2 p1 q1 c1 s1
  have c1 := Blk.cell p2 2
  simp only [List.getElem?_toArray, List.getElem?_cons_zero, List.getElem?_cons_succ] at c1
  go_wp2_with (go_at_call 61; refine (label_calls sv h3 _).mono ?_)
  rintro e w4 ⟨rfl, hb3⟩
  have p4 := blk_keep hb3 p2
  have q4 := blk_keep hb3 q2
  have s4 : w.heap.size + 1 < w4.heap.size := by have := hb3.size; omega
  have s5 : w.heap.size < w4.heap.size := by omega
  have HB := Lib.hid (HB.out.trans (hb3.mono (by omega)))
  clear hb3 p2 q2 c1 s2
  have c2 := Blk.cell p4 2
  have c3 := Blk.cell p4 3
  have c4 := Blk.cell p4 4
  simp only [List.getElem?_toArray, List.getElem?_cons_zero, List.getElem?_cons_succ] at c2 c3 c4
  have d0 := Blk.cell q4 0
  have d1 := Blk.cell q4 1
  have d2 := Blk.cell q4 2
  have d3 := Blk.cell q4 3
  have d4 := Blk.cell q4 4
  have d5 := Blk.cell q4 5
  have d6 := Blk.cell q4 6
  simp only [List.getElem?_toArray, List.getElem?_cons_zero, List.getElem?_cons_succ] at d0 d1 d2 d3 d4 d5 d6
  have f0 := Blk.free q4 0
  have f1 := Blk.free q4 1
  have f2 := Blk.free q4 2
  have f3 := Blk.free q4 3
  have f4 := Blk.free q4 4
  have f5 := Blk.free q4 5
  have f6 := Blk.free q4 6
  have HQ := Lib.hid q4
  clear p4 q4
  generalize hl1 : labelV nd = lv1 at HE HF
  generalize hl2 : labelV id = lv2 at HE HF
  generalize hl3 : labelV sv = lv3 at HE HF
  obtain ⟨r1, x1⟩ := lv1
  obtain ⟨r2, x2⟩ := lv2
  obtain ⟨r3, x3⟩ := lv3
  simp only at HE HF
  clear hl1 hl2 hl3
  obtain ⟨y3, hy3⟩ : ∃ y, y = if sv = E0 then 0 else x3 := ⟨_, rfl⟩
  obtain ⟨bd, hbd, hbd2⟩ := noteB nt
  obtain ⟨y4, hy4⟩ : ∃ y : Int, y = if p < 1 ∨ 3 < p then 94 else 0 := ⟨_, rfl⟩
  have HE2 : Hid (E = firstE [x1, x2, y3, y4, if bd then 95 else 0]) := Lib.hid (by rw [HE.out, hy3, hy4, hbd2])
  have Hy3 := Lib.hid hy3
  have Hy4 := Lib.hid hy4
  have Hbd := Lib.hid hbd
  clear hy3 hy4 hbd hbd2 HE
  go_upto_if 33 with fail
  go_cut [9] from 14 (fun s9 wc => s9 = .int .i64 y3 ∧ wc = w4)
  case first =>
    by_cases hsv : sv = E0
    · subst hsv
      have hy : y3 = 0 := by rw [Hy3.out, if_pos rfl]
      have hz : E0.toList.isEmpty = true := by rw [ByteArray.toList_eq]; rfl
      go_wp2
      all_goals first | (exact absurd (hz.symm.trans ‹E0.toList.isEmpty = false›) (by decide)) | (go_meet; (case rel => exact ⟨by rw [hy], rfl⟩))
    · have hy : y3 = x3 := by rw [Hy3.out, if_neg hsv]
      have hs0 : sv.toList.isEmpty = false := by
        rw [ByteArray.toList_eq]
        obtain ⟨⟨l⟩⟩ := sv
        cases l with
        | nil => exact absurd rfl hsv
        | cons a l => rfl
      go_wp2
      all_goals first | (exact absurd (hs0.symm.trans ‹sv.toList.isEmpty = true›) (by decide)) | (go_meet; (case rel => exact ⟨by rw [hy], rfl⟩))
  case rest =>
  obtain ⟨rfl, rfl⟩ := hcut
  go_upto_block 0 with fail
  go_cut [10, 11] from 38 (fun s10 s11 wx => s10 = .bool bd ∧ wx = wc)
  case first =>
    go_wp2_with fail
    go_loopw [10, 11] (fun b i wr => ∃ (bb : Bool) (k : Nat), k ≤ nt.size ∧ b = .bool bb ∧ i = .int .i64 k ∧ wr = wc ∧ Hid (bb = true → ¬ NoteOk nt) ∧ Hid (bb = false → nt.size ≤ 200 ∧ ∀ j, j < k → 32 ≤ byI nt j ∧ byI nt j ≤ 126)) (fun _ i _ => nt.size - (intOf i).toNat)
    case atStart => exact ⟨_, 0, Nat.zero_le _, rfl, rfl, rfl, Lib.hid (fun h hn => by have := of_decide_eq_true h; have := hn.1; omega), Lib.hid (fun h => ⟨by have := of_decide_eq_false h; omega, fun j hj => absurd hj (Nat.not_lt_zero _)⟩)⟩
    case round =>
      obtain ⟨bb, k, hk, rfl, rfl, rfl, hT, hG⟩ := hrel
      by_cases hlt : k < nt.size
      · cases bb
        · have e2 := byI_get nt k hlt
          have hr := byI_range nt k
          have good : 32 ≤ byI nt k ∧ byI nt k ≤ 126 → Hid (false = false → nt.size ≤ 200 ∧ ∀ j, j < k + 1 → 32 ≤ byI nt j ∧ byI nt j ≤ 126) := fun h => Lib.hid (fun _ => ⟨(hG.out rfl).1, fun j hj => by
            by_cases e : j = k
            · subst e; exact h
            · exact (hG.out rfl).2 j (by omega)⟩)
          have bad : ¬ (32 ≤ byI nt k ∧ byI nt k ≤ 126) → Hid (true = true → ¬ NoteOk nt) := fun h => Lib.hid (fun _ hn => h (hn.2 k hlt))
          generalize byI nt k = c at e2 hr good bad
          have hcl : c < 32 ∨ (32 ≤ c ∧ c ≤ 126) ∨ 126 < c := by omega
          rcases hcl with hc | hc | hc
          · have u1 : decide (c < 32) = true := decide_eq_true hc
            have hbd := bad (by omega)
            go_wp2
            go_roundw
            case rel => exact ⟨true, k + 1, by omega, rfl, by go_num, trivial, hbd, Lib.hid (fun h => by cases h)⟩
            case measure => simp [intOf]; omega
          · have u1 : decide (c < 32) = false := decide_eq_false (by omega)
            have u2 : decide (126 < c) = false := decide_eq_false (by omega)
            have hgd := good hc
            go_wp2
            go_roundw
            case rel => exact ⟨false, k + 1, by omega, rfl, by go_num, trivial, Lib.hid (fun h => by cases h), hgd⟩
            case measure => simp [intOf]; omega
          · have u1 : decide (c < 32) = false := decide_eq_false (by omega)
            have u2 : decide (126 < c) = true := decide_eq_true (by omega)
            have hbd := bad (by omega)
            go_wp2
            go_roundw
            case rel => exact ⟨true, k + 1, by omega, rfl, by go_num, trivial, hbd, Lib.hid (fun h => by cases h)⟩
            case measure => simp [intOf]; omega
        · have hb2 : bd = true := Hbd.out.2 (hT.out rfl)
          go_wp2
          go_meet
          case rel => exact ⟨by rw [hb2], rfl⟩
      · obtain rfl : k = nt.size := by omega
        have hb2 : bd = bb := by
          cases bb
          · cases hb : bd
            · rfl
            · exact absurd (hG.out rfl) (Hbd.out.1 hb)
          · exact Hbd.out.2 (hT.out rfl)
        cases bb <;> (go_wp2; go_meet; (case rel => exact ⟨by rw [hb2], rfl⟩))
  case rest =>
  obtain ⟨rfl, rfl⟩ := hcut
  go_upto_region 11 with fail
  go_cut [12] from 61 (fun s12 wz => s12 = .int .i64 E ∧ ∃ o, wz = wc.alloc o)
  case first =>
    have go : (p < 1) ∨ (1 ≤ p ∧ p ≤ 3) ∨ (3 < p) := by omega
    rcases go with hp | hp | hp
    · have t1 : decide (p < 1) = true := decide_eq_true hp
      have hy : y4 = 94 := by rw [Hy4.out, if_pos (.inl hp)]
      subst hy
      clear hp
      cases bd
      · have HE3 : Hid (E = firstE [x1, x2, y3, 94, 0]) := Lib.hid (by rw [HE2.out]; rfl)
        clear HE2
        go_wp2_with (first | (go_at_call 72; refine (when_calls true 94 _).mono ?_; rintro e w5 ⟨rfl, rfl⟩) | (go_at_call 72; refine (when_calls false 95 _).mono ?_; rintro e w5 ⟨rfl, rfl⟩) | (go_at_call 62; refine (first_calls [x1, x2, y3, 94, 0] (by simp) _ _ 0 5 ?hc (by simp)).mono ?_))
        case hc =>
          intro j hj
          match j, hj with
          | 0, _ => simp
          | 1, _ => simp
          | 2, _ => simp
          | 3, _ => simp
          | 4, _ => simp
        rintro e w6 ⟨rfl, rfl⟩
        rw [← HE3.out]
        go_wp2
        go_meet
        case rel => exact ⟨rfl, _, rfl⟩
      · have HE3 : Hid (E = firstE [x1, x2, y3, 94, 95]) := Lib.hid (by rw [HE2.out]; rfl)
        clear HE2
        go_wp2_with (first | (go_at_call 72; refine (when_calls true 94 _).mono ?_; rintro e w5 ⟨rfl, rfl⟩) | (go_at_call 72; refine (when_calls true 95 _).mono ?_; rintro e w5 ⟨rfl, rfl⟩) | (go_at_call 62; refine (first_calls [x1, x2, y3, 94, 95] (by simp) _ _ 0 5 ?hc (by simp)).mono ?_))
        case hc =>
          intro j hj
          match j, hj with
          | 0, _ => simp
          | 1, _ => simp
          | 2, _ => simp
          | 3, _ => simp
          | 4, _ => simp
        rintro e w6 ⟨rfl, rfl⟩
        rw [← HE3.out]
        go_wp2
        go_meet
        case rel => exact ⟨rfl, _, rfl⟩
    · have t1 : decide (p < 1) = false := decide_eq_false (by omega)
      have t2 : decide (3 < p) = false := decide_eq_false (by omega)
      have hy : y4 = 0 := by rw [Hy4.out, if_neg (by omega)]
      subst hy
      clear hp
      cases bd
      · have HE3 : Hid (E = firstE [x1, x2, y3, 0, 0]) := Lib.hid (by rw [HE2.out]; rfl)
        clear HE2
        go_wp2_with (first | (go_at_call 72; refine (when_calls false 94 _).mono ?_; rintro e w5 ⟨rfl, rfl⟩) | (go_at_call 72; refine (when_calls false 95 _).mono ?_; rintro e w5 ⟨rfl, rfl⟩) | (go_at_call 62; refine (first_calls [x1, x2, y3, 0, 0] (by simp) _ _ 0 5 ?hc (by simp)).mono ?_))
        case hc =>
          intro j hj
          match j, hj with
          | 0, _ => simp
          | 1, _ => simp
          | 2, _ => simp
          | 3, _ => simp
          | 4, _ => simp
        rintro e w6 ⟨rfl, rfl⟩
        rw [← HE3.out]
        go_wp2
        go_meet
        case rel => exact ⟨rfl, _, rfl⟩
      · have HE3 : Hid (E = firstE [x1, x2, y3, 0, 95]) := Lib.hid (by rw [HE2.out]; rfl)
        clear HE2
        go_wp2_with (first | (go_at_call 72; refine (when_calls false 94 _).mono ?_; rintro e w5 ⟨rfl, rfl⟩) | (go_at_call 72; refine (when_calls true 95 _).mono ?_; rintro e w5 ⟨rfl, rfl⟩) | (go_at_call 62; refine (first_calls [x1, x2, y3, 0, 95] (by simp) _ _ 0 5 ?hc (by simp)).mono ?_))
        case hc =>
          intro j hj
          match j, hj with
          | 0, _ => simp
          | 1, _ => simp
          | 2, _ => simp
          | 3, _ => simp
          | 4, _ => simp
        rintro e w6 ⟨rfl, rfl⟩
        rw [← HE3.out]
        go_wp2
        go_meet
        case rel => exact ⟨rfl, _, rfl⟩
    · have t1 : decide (p < 1) = false := decide_eq_false (by omega)
      have t2 : decide (3 < p) = true := decide_eq_true (by omega)
      have hy : y4 = 94 := by rw [Hy4.out, if_pos (.inr hp)]
      subst hy
      clear hp
      cases bd
      · have HE3 : Hid (E = firstE [x1, x2, y3, 94, 0]) := Lib.hid (by rw [HE2.out]; rfl)
        clear HE2
        go_wp2_with (first | (go_at_call 72; refine (when_calls true 94 _).mono ?_; rintro e w5 ⟨rfl, rfl⟩) | (go_at_call 72; refine (when_calls false 95 _).mono ?_; rintro e w5 ⟨rfl, rfl⟩) | (go_at_call 62; refine (first_calls [x1, x2, y3, 94, 0] (by simp) _ _ 0 5 ?hc (by simp)).mono ?_))
        case hc =>
          intro j hj
          match j, hj with
          | 0, _ => simp
          | 1, _ => simp
          | 2, _ => simp
          | 3, _ => simp
          | 4, _ => simp
        rintro e w6 ⟨rfl, rfl⟩
        rw [← HE3.out]
        go_wp2
        go_meet
        case rel => exact ⟨rfl, _, rfl⟩
      · have HE3 : Hid (E = firstE [x1, x2, y3, 94, 95]) := Lib.hid (by rw [HE2.out]; rfl)
        clear HE2
        go_wp2_with (first | (go_at_call 72; refine (when_calls true 94 _).mono ?_; rintro e w5 ⟨rfl, rfl⟩) | (go_at_call 72; refine (when_calls true 95 _).mono ?_; rintro e w5 ⟨rfl, rfl⟩) | (go_at_call 62; refine (first_calls [x1, x2, y3, 94, 95] (by simp) _ _ 0 5 ?hc (by simp)).mono ?_))
        case hc =>
          intro j hj
          match j, hj with
          | 0, _ => simp
          | 1, _ => simp
          | 2, _ => simp
          | 3, _ => simp
          | 4, _ => simp
        rintro e w6 ⟨rfl, rfl⟩
        rw [← HE3.out]
        go_wp2
        go_meet
        case rel => exact ⟨rfl, _, rfl⟩
  case rest =>
  obtain ⟨rfl, o, rfl⟩ := hcut
  by_cases hz : E = 0
  · have hr := HF.out.1 hz
    clear HF
    subst hz
    go_wp2
    refine bodyPost_at (fun W2 => W2.heap[w.heap.size + 1]? = some (.cells #[.string r1, .string r2, .string r3, .int .i64 p, .string nt, .int .u64 0, .int .u64 0] 51 (0, 0)) ∧ Below w.heap.size w W2) ⟨blk_old (set7 HQ.out _ _ _ _ _ _ _), (below_sets7 HB.out (by omega) _ _ _ _ _ _ _).alloc (by rw [sets7_size]; omega) _⟩ ?_
    rintro W2 ⟨hq, hb⟩
    have e0 := Blk.cell hq 0
    have e1 := Blk.cell hq 1
    have e2 := Blk.cell hq 2
    have e3 := Blk.cell hq 3
    have e4 := Blk.cell hq 4
    have e5 := Blk.cell hq 5
    have e6 := Blk.cell hq 6
    simp only [List.getElem?_toArray, List.getElem?_cons_zero, List.getElem?_cons_succ] at e0 e1 e2 e3 e4 e5 e6
    refine bodyPost_ret (v := .tuple #[.agg #[.string r1, .string r2, .string r3, .int .i64 p, .string nt, .int .u64 0, .int .u64 0], .int .i64 0]) (by simp [results, Tryz.results60, go_sem, e0, e1, e2, e3, e4, e5, e6]) rfl ?_
    exact ⟨_, _, hr, rfl, hb⟩
  · have hr := HF.out.2 hz
    clear HF
    have t9 : (E != 0) = true := bne_iff_ne.2 hz
    go_wp2
    refine bodyPost_at (fun W2 => W2.heap[w.heap.size + 1]? = some (.cells #[.string E0, .string E0, .string E0, .int .i64 0, .string E0, .int .u64 0, .int .u64 0] 51 (0, 0)) ∧ Below w.heap.size w W2) ⟨blk_old (set7 HQ.out _ _ _ _ _ _ _), (below_sets7 HB.out (by omega) _ _ _ _ _ _ _).alloc (by rw [sets7_size]; omega) _⟩ ?_
    rintro W2 ⟨hq, hb⟩
    have e0 := Blk.cell hq 0
    have e1 := Blk.cell hq 1
    have e2 := Blk.cell hq 2
    have e3 := Blk.cell hq 3
    have e4 := Blk.cell hq 4
    have e5 := Blk.cell hq 5
    have e6 := Blk.cell hq 6
    simp only [List.getElem?_toArray, List.getElem?_cons_zero, List.getElem?_cons_succ] at e0 e1 e2 e3 e4 e5 e6
    refine bodyPost_ret (v := .tuple #[.agg #[.string E0, .string E0, .string E0, .int .i64 0, .string E0, .int .u64 0, .int .u64 0], .int .i64 E]) (by simp [results, Tryz.results60, go_sem, e0, e1, e2, e3, e4, e5, e6]) rfl ?_
    exact ⟨_, _, hr, rfl, hb⟩
end Go.Proofs.YtkhgfdlinobabaaGreatDoor.G
