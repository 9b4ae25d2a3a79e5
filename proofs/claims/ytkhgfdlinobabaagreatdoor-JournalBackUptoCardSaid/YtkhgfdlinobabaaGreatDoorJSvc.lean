/- records.FixService, records.FixCheck: what they answer. -/
import Derived.Test.YtkhgfdlinobabaaGreatDoorJFix
namespace Go.Proofs.YtkhgfdlinobabaaGreatDoor.G
open Go.RowKit
set_option linter.unusedVariables false
set_option linter.unusedSimpArgs false
/-- The records of the catalog, as plain values. -/
structure Nod where
  name : ByteArray
  addr : ByteArray
  made : Int
  changed : Int
structure Svc where
  node : ByteArray
  id : ByteArray
  name : ByteArray
  port : Int
  tags : List ByteArray
  made : Int
  changed : Int
structure Chk where
  node : ByteArray
  id : ByteArray
  service : ByteArray
  status : Int
  note : ByteArray
  made : Int
  changed : Int
abbrev E0 : ByteArray := ⟨#[]⟩
def Nod.zero : Nod := ⟨E0, E0, 0, 0⟩
def Svc.zero : Svc := ⟨E0, E0, E0, 0, [], 0, 0⟩
def Chk.zero : Chk := ⟨E0, E0, E0, 0, E0, 0, 0⟩
noncomputable def svcE (s : Svc) : Int := firstE [(labelV s.node).2, (labelV s.id).2, (labelV s.name).2, if s.port < 1 ∨ 65535 < s.port then 92 else 0, (tagsV s.tags).2]
noncomputable def fixSvc (s : Svc) : Svc × Int := if svcE s = 0 then (⟨(labelV s.node).1, (labelV s.id).1, (labelV s.name).1, s.port, (tagsV s.tags).1, 0, 0⟩, 0) else (Svc.zero, svcE s)
theorem fixSvc_ok {s : Svc} (h : svcE s = 0) : fixSvc s = (⟨(labelV s.node).1, (labelV s.id).1, (labelV s.name).1, s.port, (tagsV s.tags).1, 0, 0⟩, 0) := if_pos h
theorem fixSvc_bad {s : Svc} (h : svcE s ≠ 0) : fixSvc s = (Svc.zero, svcE s) := if_neg h
theorem set7 {g : Nat} {w : World} {b0 b1 b2 b3 b4 b5 b6 : Value} {t : TypeId} (h : w.heap[g]? = some (.cells #[b0, b1, b2, b3, b4, b5, b6] t (0, 0))) (a0 a1 a2 a3 a4 a5 a6 : Value) :
    (((((((w.setCell ⟨g, 0, none⟩ a0).setCell ⟨g, 1, none⟩ a1).setCell ⟨g, 2, none⟩ a2).setCell ⟨g, 3, none⟩ a3).setCell ⟨g, 4, none⟩ a4).setCell ⟨g, 5, none⟩ a5).setCell ⟨g, 6, none⟩ a6).heap[g]? = some (.cells #[a0, a1, a2, a3, a4, a5, a6] t (0, 0)) := by
  simp [World.setCell, Array.getElem?_modify, h]
theorem sets7_size {g : Nat} {w : World} (a0 a1 a2 a3 a4 a5 a6 : Value) :
    (((((((w.setCell ⟨g, 0, none⟩ a0).setCell ⟨g, 1, none⟩ a1).setCell ⟨g, 2, none⟩ a2).setCell ⟨g, 3, none⟩ a3).setCell ⟨g, 4, none⟩ a4).setCell ⟨g, 5, none⟩ a5).setCell ⟨g, 6, none⟩ a6).heap.size = w.heap.size := by simp [World.setCell]
theorem own_setCell {w : World} {base e sz n : Nat} {v : Value} {xs : List Value} (h : w.ownsRow base e sz v n xs) {a : Addr} (hne : ∀ k, v.ownBlock = some k → k ≠ a.block) (u : Value) : (w.setCell a u).ownsRow base e sz v n xs := by
  refine ⟨h.1, ?_⟩
  rcases h.2 with h2 | ⟨g, cap, cur, hv, hg, hh, r⟩
  · exact .inl h2
  · exact .inr ⟨g, cap, cur, hv, hg, (Below.heap_setCell _ _ _ _ (hne g (by rw [hv]; rfl))).trans hh, r⟩
theorem own_sets7 {w : World} {base e sz n g : Nat} {v : Value} {xs : List Value} (h : w.ownsRow base e sz v n xs) (hne : ∀ k, v.ownBlock = some k → k ≠ g) (a0 a1 a2 a3 a4 a5 a6 : Value) :
    (((((((w.setCell ⟨g, 0, none⟩ a0).setCell ⟨g, 1, none⟩ a1).setCell ⟨g, 2, none⟩ a2).setCell ⟨g, 3, none⟩ a3).setCell ⟨g, 4, none⟩ a4).setCell ⟨g, 5, none⟩ a5).setCell ⟨g, 6, none⟩ a6).ownsRow base e sz v n xs :=
  own_setCell (own_setCell (own_setCell (own_setCell (own_setCell (own_setCell (own_setCell h hne _) hne _) hne _) hne _) hne _) hne _) hne _
theorem own_raise {w : World} {base base' e sz n : Nat} {v : Value} {xs : List Value} (h : w.ownsRow base e sz v n xs) (hb : base' ≤ base) : w.ownsRow base' e sz v n xs :=
  ⟨h.1, h.2.elim .inl fun ⟨g, cap, cur, hv, hg, r⟩ => .inr ⟨g, cap, cur, hv, by omega, r⟩⟩
/-- The state of a walk's end, told by what is known of it. -/
theorem bodyPost_at {P : Program} {fn : Func} {R : Ending → World → Prop} {e : Exit} {a : Act} {W : World} (p : World → Prop) (hp : p W) (h : ∀ W2, p W2 → bodyPost P fn R e a W2) : bodyPost P fn R e a W := h W hp
theorem below_sets7 {B g : Nat} {w w' : World} (h : Below B w w') (hg : B ≤ g) (a0 a1 a2 a3 a4 a5 a6 : Value) :
    Below B w (((((((w'.setCell ⟨g, 0, none⟩ a0).setCell ⟨g, 1, none⟩ a1).setCell ⟨g, 2, none⟩ a2).setCell ⟨g, 3, none⟩ a3).setCell ⟨g, 4, none⟩ a4).setCell ⟨g, 5, none⟩ a5).setCell ⟨g, 6, none⟩ a6) :=
  ((((((h.setCell (p := ⟨g, 0, none⟩) hg _).setCell (p := ⟨g, 1, none⟩) hg _).setCell (p := ⟨g, 2, none⟩) hg _).setCell (p := ⟨g, 3, none⟩) hg _).setCell (p := ⟨g, 4, none⟩) hg _).setCell (p := ⟨g, 5, none⟩) hg _).setCell (p := ⟨g, 6, none⟩) hg _
set_option maxHeartbeats 4000000 in
set_option maxRecDepth 100000 in
theorem fixService_calls (nd id nm : ByteArray) (p : Int) (v : Value) (l : List ByteArray) (m c : Int) (h1 : nd.size ≤ 140737488355328) (h2 : id.size ≤ 140737488355328) (h3 : nm.size ≤ 140737488355328) (hs : ∀ t ∈ l, t.size ≤ 140737488355328) (w : World) (h : TextsAt w v l) :
    Calls Tryz.prog 59 #[.agg #[.string nd, .string id, .string nm, .int .i64 p, v, .int .u64 m, .int .u64 c]] w fun e w' => ∃ r x v', fixSvc ⟨nd, id, nm, p, l, m, c⟩ = (r, x) ∧ e = .returned (.tuple #[.agg #[.string r.node, .string r.id, .string r.name, .int .i64 r.port, v', .int .u64 r.made, .int .u64 r.changed], .int .i64 x]) ∧ w'.ownsRow w.heap.size 9 1 v' r.tags.length (tx r.tags) ∧ Below w.heap.size w w' := by
  have hform : ∃ A cap, v = .slice A l.length cap := by obtain ⟨A, cap, hv, _⟩ := h; exact ⟨A, cap, hv⟩
  have HT := Lib.hid h
  have HS := Lib.hid hs
  clear h hs
  have HF : Hid ((svcE ⟨nd, id, nm, p, l, m, c⟩ = 0 → fixSvc ⟨nd, id, nm, p, l, m, c⟩ = (⟨(labelV nd).1, (labelV id).1, (labelV nm).1, p, (tagsV l).1, 0, 0⟩, 0)) ∧ (svcE ⟨nd, id, nm, p, l, m, c⟩ ≠ 0 → fixSvc ⟨nd, id, nm, p, l, m, c⟩ = (Svc.zero, svcE ⟨nd, id, nm, p, l, m, c⟩))) := Lib.hid ⟨fun h => fixSvc_ok h, fun h => fixSvc_bad h⟩
  obtain ⟨E, hE⟩ : ∃ E, E = svcE ⟨nd, id, nm, p, l, m, c⟩ := ⟨_, rfl⟩
  have hE2 : E = firstE [(labelV nd).2, (labelV id).2, (labelV nm).2, if p < 1 ∨ 65535 < p then 92 else 0, (tagsV l).2] := hE
  rw [← hE] at HF
  have HE := Lib.hid hE2
  clear hE hE2
  obtain ⟨A, cap, rfl⟩ := hform
  go_enter Tryz.func59, Tryz.ntmps59
  go_wp2_with (go_at_call 61; refine (label_calls nd h1 _).mono ?_)
  rintro e w1 ⟨rfl, hb1⟩
  have p1 := blk_keep hb1 (blk_old (blk_new w _))
  have q1 := blk_keep hb1 (blk_new _ _)
  have B1 : Below w.heap.size w w1 := (((Below.refl _ w).alloc (Nat.le_refl _) _).alloc (by simp) _).trans (hb1.mono (by simp; omega))
  have s1 : w.heap.size + 1 < w1.heap.size := by have := hb1.size; simp at this; omega
  have HB := Lib.hid B1
  clear hb1 B1
  rw [show (w.alloc (.cells #[.string nd, .string id, .string nm, .int .i64 p, .slice A l.length cap, .int .u64 m, .int .u64 c] 47)).heap.size = w.heap.size + 1 by simp] at q1
  have c1 := Blk.cell p1 1
  simp only [List.getElem?_toArray, List.getElem?_cons_zero, List.getElem?_cons_succ] at c1
  go_wp2_with (go_at_call 61; refine (label_calls id h2 _).mono ?_)
  rintro e w2 ⟨rfl, hb2⟩
  have p2 := blk_keep hb2 p1
  have q2 := blk_keep hb2 q1
  have s2 : w.heap.size + 1 < w2.heap.size := by have := hb2.size; omega
  have HB := Lib.hid (HB.out.trans (hb2.mono (by omega)))
  clear hb2 p1 q1 c1 s1
  have c1 := Blk.cell p2 2
  simp only [List.getElem?_toArray, List.getElem?_cons_zero, List.getElem?_cons_succ] at c1
  go_wp2_with (go_at_call 61; refine (label_calls nm h3 _).mono ?_)
  rintro e w3 ⟨rfl, hb3⟩
  have p3 := blk_keep hb3 p2
  have q3 := blk_keep hb3 q2
  have s3 : w.heap.size + 1 < w3.heap.size := by have := hb3.size; omega
  have HB := Lib.hid (HB.out.trans (hb3.mono (by omega)))
  clear hb3 p2 q2 c1 s2
  have c1 := Blk.cell p3 4
  simp only [List.getElem?_toArray, List.getElem?_cons_zero, List.getElem?_cons_succ] at c1
  have ht3 := HT.out.below HB.out
  go_wp2_with (go_at_call 71; refine (fixTags_calls _ l HS.out _ ht3).mono ?_)
  rintro e w4 ⟨vt, rfl, ho, hb4⟩
  have hvt : ∃ A2 cap2, vt = .slice A2 (tagsV l).1.length cap2 := own_slice ho
  have ho1 := own_raise ho (Nat.le_of_lt (Nat.lt_of_succ_lt s3))
  have p4 := blk_keep hb4 p3
  have q4 := blk_keep hb4 q3
  have s4 : w.heap.size + 1 < w4.heap.size := by have := hb4.size; omega
  have s5 : w.heap.size < w4.heap.size := by omega
  have HB := Lib.hid (HB.out.trans (hb4.mono (by omega)))
  have HO := Lib.hid ho1
  have HN := Lib.hid (fun k (hk : vt.ownBlock = some k) => (show k ≠ w.heap.size + 1 by have := (ho.lt k hk).1; omega))
  have HQ := Lib.hid q4
  clear hb4 p3 q3 c1 s3 ht3 ho ho1 HT HS
  have c1 := Blk.cell p4 3
  have d0 := Blk.cell q4 0
  have d1 := Blk.cell q4 1
  have d2 := Blk.cell q4 2
  have d3 := Blk.cell q4 3
  have d4 := Blk.cell q4 4
  have d5 := Blk.cell q4 5
  have d6 := Blk.cell q4 6
  simp only [List.getElem?_toArray, List.getElem?_cons_zero, List.getElem?_cons_succ] at c1 d0 d1 d2 d3 d4 d5 d6
  have f0 := Blk.free q4 0
  have f1 := Blk.free q4 1
  have f2 := Blk.free q4 2
  have f3 := Blk.free q4 3
  have f4 := Blk.free q4 4
  have f5 := Blk.free q4 5
  have f6 := Blk.free q4 6
  obtain ⟨A2, cap2, rfl⟩ := hvt
  generalize htv : tagsV l = tv at HE HF HO HN
  obtain ⟨L, x4⟩ := tv
  simp only at HE HF HO HN
  generalize hl1 : labelV nd = lv1 at HE HF
  generalize hl2 : labelV id = lv2 at HE HF
  generalize hl3 : labelV nm = lv3 at HE HF
  obtain ⟨r1, x1⟩ := lv1
  obtain ⟨r2, x2⟩ := lv2
  obtain ⟨r3, x3⟩ := lv3
  simp only at HE HF
  clear p4 q4 hl1 hl2 hl3 htv
  have key : ∀ (x : Int) (pv : Bool) (_ : decide (p < 1) = pv) (_ : pv = false → decide (65535 < p) = (decide (x ≠ 0))) (_ : pv = true → x = 92) (_ : pv = false → x = 92 ∨ x = 0), Hid (E = firstE [x1, x2, x3, x, x4]) → True := fun _ _ _ _ _ _ _ => trivial
  have go : (p < 1) ∨ (1 ≤ p ∧ p ≤ 65535) ∨ (65535 < p) := by omega
  clear key
  rcases go with hp | hp | hp
  · have t1 : decide (p < 1) = true := decide_eq_true hp
    have HE2 : Hid (E = firstE [x1, x2, x3, 92, x4]) := Lib.hid (by rw [HE.out, if_pos (.inl hp)])
    clear hp
    go_wp2_with (first | (go_at_call 72; refine (when_calls true 92 _).mono ?_; rintro e w5 ⟨rfl, rfl⟩) | (go_at_call 62; refine (first_calls [x1, x2, x3, 92, x4] (by simp) _ _ 0 5 ?hc (by simp)).mono ?_))
    case hc =>
      intro j hj
      match j, hj with
      | 0, _ => simp
      | 1, _ => simp
      | 2, _ => simp
      | 3, _ => simp
      | 4, _ => simp
    rintro e w6 ⟨rfl, rfl⟩
    rw [← HE2.out]
    by_cases hz : E = 0
    · have hr := HF.out.1 hz
      clear HF HE HE2
      subst hz
      go_wp2
      refine bodyPost_at (fun W2 => W2.heap[w.heap.size + 1]? = some (.cells #[.string r1, .string r2, .string r3, .int .i64 p, .slice A2 L.length cap2, .int .u64 0, .int .u64 0] 47 (0, 0)) ∧ W2.ownsRow w.heap.size 9 1 (.slice A2 L.length cap2) L.length (tx L) ∧ Below w.heap.size w W2) ⟨blk_old (set7 HQ.out _ _ _ _ _ _ _), (own_sets7 HO.out HN.out _ _ _ _ _ _ _).alloc _, (below_sets7 HB.out (by omega) _ _ _ _ _ _ _).alloc (by rw [sets7_size]; omega) _⟩ ?_
      rintro W2 ⟨hq, ho, hb⟩
      have e0 := Blk.cell hq 0
      have e1 := Blk.cell hq 1
      have e2 := Blk.cell hq 2
      have e3 := Blk.cell hq 3
      have e4 := Blk.cell hq 4
      have e5 := Blk.cell hq 5
      have e6 := Blk.cell hq 6
      simp only [List.getElem?_toArray, List.getElem?_cons_zero, List.getElem?_cons_succ] at e0 e1 e2 e3 e4 e5 e6
      refine bodyPost_ret (v := .tuple #[.agg #[.string r1, .string r2, .string r3, .int .i64 p, .slice A2 L.length cap2, .int .u64 0, .int .u64 0], .int .i64 0]) (by simp [results, Tryz.results59, go_sem, e0, e1, e2, e3, e4, e5, e6]) rfl ?_
      exact ⟨_, _, _, hr, rfl, ho, hb⟩
    · have hr := HF.out.2 hz
      clear HF HE HE2
      have t9 : (E != 0) = true := bne_iff_ne.2 hz
      go_wp2
      refine bodyPost_at (fun W2 => W2.heap[w.heap.size + 1]? = some (.cells #[.string E0, .string E0, .string E0, .int .i64 0, .slice none 0 0, .int .u64 0, .int .u64 0] 47 (0, 0)) ∧ Below w.heap.size w W2) ⟨blk_old (set7 HQ.out _ _ _ _ _ _ _), (below_sets7 HB.out (by omega) _ _ _ _ _ _ _).alloc (by rw [sets7_size]; omega) _⟩ ?_
      rintro W2 ⟨hq, hb⟩
      have e0 := Blk.cell hq 0
      have e1 := Blk.cell hq 1
      have e2 := Blk.cell hq 2
      have e3 := Blk.cell hq 3
      have e4 := Blk.cell hq 4
      have e5 := Blk.cell hq 5
      have e6 := Blk.cell hq 6
      simp only [List.getElem?_toArray, List.getElem?_cons_zero, List.getElem?_cons_succ] at e0 e1 e2 e3 e4 e5 e6
      refine bodyPost_ret (v := .tuple #[.agg #[.string E0, .string E0, .string E0, .int .i64 0, .slice none 0 0, .int .u64 0, .int .u64 0], .int .i64 E]) (by simp [results, Tryz.results59, go_sem, e0, e1, e2, e3, e4, e5, e6]) rfl ?_
      exact ⟨_, _, _, hr, rfl, World.ownsRow_nil _ _ _ _, hb⟩
  · have t1 : decide (p < 1) = false := decide_eq_false (by omega)
    have t2 : decide (65535 < p) = false := decide_eq_false (by omega)
    have HE2 : Hid (E = firstE [x1, x2, x3, 0, x4]) := Lib.hid (by rw [HE.out, if_neg (by omega)])
    clear hp
    go_wp2_with (first | (go_at_call 72; refine (when_calls false 92 _).mono ?_; rintro e w5 ⟨rfl, rfl⟩) | (go_at_call 62; refine (first_calls [x1, x2, x3, 0, x4] (by simp) _ _ 0 5 ?hc (by simp)).mono ?_))
    case hc =>
      intro j hj
      match j, hj with
      | 0, _ => simp
      | 1, _ => simp
      | 2, _ => simp
      | 3, _ => simp
      | 4, _ => simp
    rintro e w6 ⟨rfl, rfl⟩
    rw [← HE2.out]
    by_cases hz : E = 0
    · have hr := HF.out.1 hz
      clear HF HE HE2
      subst hz
      go_wp2
      refine bodyPost_at (fun W2 => W2.heap[w.heap.size + 1]? = some (.cells #[.string r1, .string r2, .string r3, .int .i64 p, .slice A2 L.length cap2, .int .u64 0, .int .u64 0] 47 (0, 0)) ∧ W2.ownsRow w.heap.size 9 1 (.slice A2 L.length cap2) L.length (tx L) ∧ Below w.heap.size w W2) ⟨blk_old (set7 HQ.out _ _ _ _ _ _ _), (own_sets7 HO.out HN.out _ _ _ _ _ _ _).alloc _, (below_sets7 HB.out (by omega) _ _ _ _ _ _ _).alloc (by rw [sets7_size]; omega) _⟩ ?_
      rintro W2 ⟨hq, ho, hb⟩
      have e0 := Blk.cell hq 0
      have e1 := Blk.cell hq 1
      have e2 := Blk.cell hq 2
      have e3 := Blk.cell hq 3
      have e4 := Blk.cell hq 4
      have e5 := Blk.cell hq 5
      have e6 := Blk.cell hq 6
      simp only [List.getElem?_toArray, List.getElem?_cons_zero, List.getElem?_cons_succ] at e0 e1 e2 e3 e4 e5 e6
      refine bodyPost_ret (v := .tuple #[.agg #[.string r1, .string r2, .string r3, .int .i64 p, .slice A2 L.length cap2, .int .u64 0, .int .u64 0], .int .i64 0]) (by simp [results, Tryz.results59, go_sem, e0, e1, e2, e3, e4, e5, e6]) rfl ?_
      exact ⟨_, _, _, hr, rfl, ho, hb⟩
    · have hr := HF.out.2 hz
      clear HF HE HE2
      have t9 : (E != 0) = true := bne_iff_ne.2 hz
      go_wp2
      refine bodyPost_at (fun W2 => W2.heap[w.heap.size + 1]? = some (.cells #[.string E0, .string E0, .string E0, .int .i64 0, .slice none 0 0, .int .u64 0, .int .u64 0] 47 (0, 0)) ∧ Below w.heap.size w W2) ⟨blk_old (set7 HQ.out _ _ _ _ _ _ _), (below_sets7 HB.out (by omega) _ _ _ _ _ _ _).alloc (by rw [sets7_size]; omega) _⟩ ?_
      rintro W2 ⟨hq, hb⟩
      have e0 := Blk.cell hq 0
      have e1 := Blk.cell hq 1
      have e2 := Blk.cell hq 2
      have e3 := Blk.cell hq 3
      have e4 := Blk.cell hq 4
      have e5 := Blk.cell hq 5
      have e6 := Blk.cell hq 6
      simp only [List.getElem?_toArray, List.getElem?_cons_zero, List.getElem?_cons_succ] at e0 e1 e2 e3 e4 e5 e6
      refine bodyPost_ret (v := .tuple #[.agg #[.string E0, .string E0, .string E0, .int .i64 0, .slice none 0 0, .int .u64 0, .int .u64 0], .int .i64 E]) (by simp [results, Tryz.results59, go_sem, e0, e1, e2, e3, e4, e5, e6]) rfl ?_
      exact ⟨_, _, _, hr, rfl, World.ownsRow_nil _ _ _ _, hb⟩
  · have t1 : decide (p < 1) = false := decide_eq_false (by omega)
    have t2 : decide (65535 < p) = true := decide_eq_true (by omega)
    have HE2 : Hid (E = firstE [x1, x2, x3, 92, x4]) := Lib.hid (by rw [HE.out, if_pos (.inr hp)])
    clear hp
    go_wp2_with (first | (go_at_call 72; refine (when_calls true 92 _).mono ?_; rintro e w5 ⟨rfl, rfl⟩) | (go_at_call 62; refine (first_calls [x1, x2, x3, 92, x4] (by simp) _ _ 0 5 ?hc (by simp)).mono ?_))
    case hc =>
      intro j hj
      match j, hj with
      | 0, _ => simp
      | 1, _ => simp
      | 2, _ => simp
      | 3, _ => simp
      | 4, _ => simp
    rintro e w6 ⟨rfl, rfl⟩
    rw [← HE2.out]
    by_cases hz : E = 0
    · have hr := HF.out.1 hz
      clear HF HE HE2
      subst hz
      go_wp2
      refine bodyPost_at (fun W2 => W2.heap[w.heap.size + 1]? = some (.cells #[.string r1, .string r2, .string r3, .int .i64 p, .slice A2 L.length cap2, .int .u64 0, .int .u64 0] 47 (0, 0)) ∧ W2.ownsRow w.heap.size 9 1 (.slice A2 L.length cap2) L.length (tx L) ∧ Below w.heap.size w W2) ⟨blk_old (set7 HQ.out _ _ _ _ _ _ _), (own_sets7 HO.out HN.out _ _ _ _ _ _ _).alloc _, (below_sets7 HB.out (by omega) _ _ _ _ _ _ _).alloc (by rw [sets7_size]; omega) _⟩ ?_
      rintro W2 ⟨hq, ho, hb⟩
      have e0 := Blk.cell hq 0
      have e1 := Blk.cell hq 1
      have e2 := Blk.cell hq 2
      have e3 := Blk.cell hq 3
      have e4 := Blk.cell hq 4
      have e5 := Blk.cell hq 5
      have e6 := Blk.cell hq 6
      simp only [List.getElem?_toArray, List.getElem?_cons_zero, List.getElem?_cons_succ] at e0 e1 e2 e3 e4 e5 e6
      refine bodyPost_ret (v := .tuple #[.agg #[.string r1, .string r2, .string r3, .int .i64 p, .slice A2 L.length cap2, .int .u64 0, .int .u64 0], .int .i64 0]) (by simp [results, Tryz.results59, go_sem, e0, e1, e2, e3, e4, e5, e6]) rfl ?_
      exact ⟨_, _, _, hr, rfl, ho, hb⟩
    · have hr := HF.out.2 hz
      clear HF HE HE2
      have t9 : (E != 0) = true := bne_iff_ne.2 hz
      go_wp2
      refine bodyPost_at (fun W2 => W2.heap[w.heap.size + 1]? = some (.cells #[.string E0, .string E0, .string E0, .int .i64 0, .slice none 0 0, .int .u64 0, .int .u64 0] 47 (0, 0)) ∧ Below w.heap.size w W2) ⟨blk_old (set7 HQ.out _ _ _ _ _ _ _), (below_sets7 HB.out (by omega) _ _ _ _ _ _ _).alloc (by rw [sets7_size]; omega) _⟩ ?_
      rintro W2 ⟨hq, hb⟩
      have e0 := Blk.cell hq 0
      have e1 := Blk.cell hq 1
      have e2 := Blk.cell hq 2
      have e3 := Blk.cell hq 3
      have e4 := Blk.cell hq 4
      have e5 := Blk.cell hq 5
      have e6 := Blk.cell hq 6
      simp only [List.getElem?_toArray, List.getElem?_cons_zero, List.getElem?_cons_succ] at e0 e1 e2 e3 e4 e5 e6
      refine bodyPost_ret (v := .tuple #[.agg #[.string E0, .string E0, .string E0, .int .i64 0, .slice none 0 0, .int .u64 0, .int .u64 0], .int .i64 E]) (by simp [results, Tryz.results59, go_sem, e0, e1, e2, e3, e4, e5, e6]) rfl ?_
      exact ⟨_, _, _, hr, rfl, World.ownsRow_nil _ _ _ _, hb⟩
end Go.Proofs.YtkhgfdlinobabaaGreatDoor.G
