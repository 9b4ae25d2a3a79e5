/- slices.Equal of texts. -/
import Derived.Test.YtkhgfdlinobabaaGreatDoorJFix
import Derived.Deep.QuietTactic
import Derived.BigQuiet
namespace Go.Proofs.YtkhgfdlinobabaaGreatDoor.G
open Go.RowKit
set_option linter.unusedVariables false
set_option linter.unusedSimpArgs false
theorem below_drewN (w : World) (n : Nat) : Below w.heap.size w (w.drewN n) := ⟨rfl, rfl, rfl, Nat.le_refl _, fun _ _ => rfl⟩
set_option maxHeartbeats 2000000 in
set_option maxRecDepth 100000 in
theorem equal_calls (v1 v2 : Value) (l1 l2 : List ByteArray) (w : World) (h1 : TextsAt w v1 l1) (h2 : TextsAt w v2 l2) (s1 : l1.length ≤ 1048576) :
    Calls Tryz.prog 63 #[v1, v2] w fun e w' => e = .returned (.bool (decide (l1 = l2))) ∧ ∃ n, w' = w.drewN n := by
  obtain ⟨A1, cap1, rfl, hc1, hh1⟩ := h1
  obtain ⟨A2, cap2, rfl, hc2, hh2⟩ := h2
  have H1 := Lib.hid hh1
  have H2 := Lib.hid hh2
  clear hh1 hh2
  by_cases hlen : l1.length = l2.length
  · have t1 : ((l1.length : Int) != (l2.length : Int)) = false := by simp [hlen]
    have HL := Lib.hid hlen
    have hlen2 : l2.length = l1.length := hlen.symm
    clear hlen
    generalize hn : l2.length = n2 at hlen2 t1 hc2
    subst hlen2
    have Hn := Lib.hid hn
    clear hn
    go_enter Tryz.func63, Tryz.ntmps63
    go_wp2
    go_loopw [13] (fun i wr => ∃ k : Nat, k ≤ l1.length ∧ i = .int .i64 k ∧ (∃ q, wr = w.drewN q) ∧ Hid (∀ j, j < k → l1.getD j ByteArray.empty = l2.getD j ByteArray.empty)) (fun i _ => l1.length - (intOf i).toNat)
    case atStart => exact ⟨0, Nat.zero_le _, rfl, ⟨0, rfl⟩, Lib.hid (fun j hj => absurd hj (Nat.not_lt_zero _))⟩
    case round =>
      obtain ⟨k, hk, rfl, ⟨q, rfl⟩, hG⟩ := hrel
      by_cases hlt : k < l1.length
      · obtain ⟨b1, o1, rfl, c1⟩ := H1.out (by intro e; subst e; simp at hlt)
        obtain ⟨b2, o2, rfl, c2⟩ := H2.out (by intro e; subst e; have := Hn.out; simp at this; omega)
        have d1 := c1 k hlt
        have d2 := c2 k (by rw [Hn.out]; exact hlt)
        have hg2 : ∀ (_ : l1.getD k ByteArray.empty = l2.getD k ByteArray.empty), Hid (∀ j, j < k + 1 → l1.getD j ByteArray.empty = l2.getD j ByteArray.empty) := fun e => Lib.hid (fun j hj => by
          by_cases e2 : j = k
          · subst e2; exact e
          · exact hG.out j (by omega))
        have hbad : ∀ (_ : l1.getD k ByteArray.empty ≠ l2.getD k ByteArray.empty), Hid (decide (l1 = l2) = false) := fun e => Lib.hid (decide_eq_false (fun e2 => e (by rw [e2])))
        clear c1 c2
        generalize l1.getD k ByteArray.empty = x1 at d1 hg2 hbad
        generalize l2.getD k ByteArray.empty = x2 at d2 hg2 hbad
        have i0 : (0 : Int) ≤ (k : Int) := by omega
        have i1 : (k : Int) < (l1.length : Int) := by omega
        by_cases hx : x1 = x2
        · subst hx
          have hg3 := hg2 rfl
          go_upto_region 6 with fail
          go_quiet (fail)
          go_wp2
          go_roundw
          case rel => exact ⟨k + 1, by omega, by go_num, ⟨_, rfl⟩, hg3⟩
          case measure => simp [intOf]; omega
        · have hr := hbad hx
          go_upto_region 6 with fail
          go_quiet (fail)
          have hx2 : x1.toList ≠ x2.toList := by
            rw [ByteArray.toList_eq, ByteArray.toList_eq]
            refine fun e => hx ?_
            obtain ⟨⟨a⟩⟩ := x1
            obtain ⟨⟨b⟩⟩ := x2
            rw [show a = b from e]
          go_wp2
          · go_ret
            exact ⟨by rw [hr.out]; rfl, _, World.drewN_drewN _ _ _⟩
          · exact absurd (by simpa using ‹(!x1.toList == x2.toList) = false›) hx2
      · obtain rfl : k = l1.length := by omega
        have hr : decide (l1 = l2) = true := decide_eq_true (by
          apply List.ext_getElem?
          intro i
          by_cases hi : i < l1.length
          · have := hG.out i hi
            have hi2 : i < l2.length := by rw [Hn.out]; exact hi
            rw [List.getElem?_eq_getElem hi, List.getElem?_eq_getElem hi2]
            simpa [List.getD, hi, hi2] using this
          · rw [List.getElem?_eq_none (by omega), List.getElem?_eq_none (by rw [Hn.out]; omega)])
        have HR := Lib.hid hr
        clear hr
        go_wp2
        go_ret
        exact ⟨by rw [HR.out]; rfl, _, rfl⟩
  · have t1 : ((l1.length : Int) != (l2.length : Int)) = true := by simp; omega
    have hr : decide (l1 = l2) = false := decide_eq_false (fun e => hlen (by rw [e]))
    rw [hr]
    go_enter Tryz.func63, Tryz.ntmps63
    go_wp2
    go_ret
    exact ⟨rfl, 0, rfl⟩
theorem toList_ne {a b : ByteArray} (h : a ≠ b) : (a.toList == b.toList) = false := by
  rw [ByteArray.toList_eq, ByteArray.toList_eq]
  refine beq_eq_false_iff_ne.2 (fun e => h ?_)
  obtain ⟨⟨a⟩⟩ := a
  obtain ⟨⟨b⟩⟩ := b
  rw [show a = b from e]
theorem then_ret {P : Program} {K : Act → World → Prop} {Q Q' : Exit → Act → World → Prop} {a : Act} {w : World} (hk : ∀ a w, Code.wp P Code.ret Q a w → K a w) (h : Q .ret a w) : Exit.then K Q' .normal a w := hk _ _ (Go.wp_ret h)
theorem results_one {P : Program} {fn : Func} {p : Tmp} (h : fn.results = #[.tmp p]) (tmps : Array Value) (w : World) (v : Value) (hv : tmps.getD p undef = v) : (results fn tmps).run P w = .ok v w := by
  have hv' : tmps[p]?.getD undef = v := by simpa using hv
  simp [results, h, hv']
theorem size_alloc1 (w : World) (a : Obj) : (w.alloc a).heap.size = w.heap.size + 1 := by simp
theorem equal_b (v1 v2 : Value) (l1 l2 : List ByteArray) (w : World) (h1 : TextsAt w v1 l1) (h2 : TextsAt w v2 l2) (s1 : l1.length ≤ 1048576) :
    Calls Tryz.prog 63 #[v1, v2] w fun e w' => e = .returned (.bool (decide (l1 = l2))) ∧ Below w.heap.size w w' :=
  (equal_calls v1 v2 l1 l2 w h1 h2 s1).mono fun e w' ⟨h, n, hw⟩ => ⟨h, by rw [hw]; exact below_drewN w n⟩
theorem alloc2b (w : World) (a b : Obj) : ((w.alloc a).alloc b).heap[w.heap.size + 1]? = some b := by
  have h := blk_new (w.alloc a) b
  rw [size_alloc1] at h
  exact h
theorem below2 (w : World) (a b : Obj) : Below w.heap.size w ((w.alloc a).alloc b) := ((Below.refl _ w).alloc (Nat.le_refl _) _).alloc (by simp) _
end Go.Proofs.YtkhgfdlinobabaaGreatDoor.G
