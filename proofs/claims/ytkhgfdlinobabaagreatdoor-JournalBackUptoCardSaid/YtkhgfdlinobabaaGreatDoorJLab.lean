/- records.Label, when, first: what they answer, and that they touch nothing. -/
import Derived.Test.YtkhgfdlinobabaaGreatDoorGLow
import Derived.WalkKit
import Derived.Lib.Hide
import Derived.Deep.LoopGhost
import Derived.Laws.Rows
import Derived.KernelRfl
namespace Go.Proofs.YtkhgfdlinobabaaGreatDoor.G
open Go.RowKit
set_option linter.unusedVariables false
set_option linter.unusedSimpArgs false

/-- A byte that may stand in a label. -/
def okc (c : Int) : Prop := c = 45 ∨ 97 ≤ c ∧ c ≤ 122 ∨ 48 ≤ c ∧ c ≤ 57
/-- A label's sound form. -/
def LabelOk (s : ByteArray) : Prop := 1 ≤ s.size ∧ s.size ≤ 63 ∧ byI s 0 ≠ 45 ∧ byI s (s.size - 1) ≠ 45 ∧ ∀ j, j < s.size → okc (byI (lowS s) j)
open Classical in
/-- What records.Label answers. -/
noncomputable def labelV (s : ByteArray) : ByteArray × Int := if LabelOk s then (lowS s, 0) else (⟨#[]⟩, 90)
theorem labelV_ok {s : ByteArray} (h : LabelOk s) : labelV s = (lowS s, 0) := if_pos h
theorem labelV_bad {s : ByteArray} (h : ¬ LabelOk s) : labelV s = (⟨#[]⟩, 90) := if_neg h
theorem lowS_size (s : ByteArray) : (lowS s).size = s.size := by
  unfold lowS Go.strOfNums
  show (List.toArray _).size = s.size
  rw [List.size_toArray, List.length_map, List.length_map, List.length_range]
theorem byI_get (s : ByteArray) (j : Nat) (h : j < s.size) : ((s[j].toNat : Nat) : Int) = byI s j := by
  unfold byI
  have h2 : j < s.data.toList.length := by simpa using h
  rw [List.getD_eq_getElem?_getD, List.getElem?_eq_getElem h2]
  simp
  rfl
set_option maxHeartbeats 2000000 in
set_option maxRecDepth 100000 in
theorem label_calls (s : ByteArray) (hs : s.size ≤ 140737488355328) (w : World) :
    Calls Tryz.prog 61 #[.string s] w fun e w' => e = .returned (.tuple #[.string (labelV s).1, .int .i64 (labelV s).2]) ∧ Below w.heap.size w w' := by
  by_cases h1 : 1 ≤ s.size
  · by_cases h2 : s.size ≤ 63
    · have e0 := byI_get s 0 (by omega)
      have e1 := byI_get s (s.size - 1) (by omega)
      by_cases h3 : byI s 0 = 45
      · rw [labelV_bad (fun h => h.2.2.1 h3)]
        go_enter Tryz.func61, Tryz.ntmps61
        go_wp2
        go_ret2
        exact ⟨rfl, Below.refl _ _⟩
      · by_cases h4 : byI s (s.size - 1) = 45
        · rw [labelV_bad (fun h => h.2.2.2.1 h4)]
          go_enter Tryz.func61, Tryz.ntmps61
          go_wp2
          go_ret2
          exact ⟨rfl, Below.refl _ _⟩
        · have t1 : decide ((s.size : Int) < 1) = false := decide_eq_false (by omega)
          have t2 : decide (63 < (s.size : Int)) = false := decide_eq_false (by omega)
          have t3 : (byI s 0 == 45) = false := beq_eq_false_iff_ne.2 h3
          have t4 : (byI s (s.size - 1) == 45) = false := beq_eq_false_iff_ne.2 h4
          go_enter Tryz.func61, Tryz.ntmps61
          go_wp2_with (go_at_call 73; refine (low_calls s hs _).mono ?_)
          rintro e w1 ⟨rfl, hb⟩
          have HB := Lib.hid hb
          have hz := lowS_size s
          have HV : Hid (LabelOk s ↔ ∀ j, j < s.size → okc (byI (lowS s) j)) := Lib.hid ⟨fun h => h.2.2.2.2, fun h => ⟨h1, h2, h3, h4, h⟩⟩
          have HL : Hid ((LabelOk s → labelV s = (lowS s, 0)) ∧ (¬ LabelOk s → labelV s = (⟨#[]⟩, 90))) := Lib.hid ⟨labelV_ok, labelV_bad⟩
          clear hb e0 e1 h3 h4
          generalize lowS s = l at hz HV HL
          go_wp2
          go_loopw [32] (fun i wr => ∃ k : Nat, k ≤ l.size ∧ i = .int .i64 k ∧ wr = w1 ∧ Hid (∀ j, j < k → okc (byI l j))) (fun i _ => l.size - (intOf i).toNat)
          case atStart => exact ⟨0, Nat.zero_le _, rfl, rfl, Lib.hid (fun j hj => absurd hj (Nat.not_lt_zero _))⟩
          case round =>
            obtain ⟨k, hk, rfl, rfl, hR⟩ := hrel
            by_cases hlt : k < l.size
            · have e2 := byI_get l k hlt
              have good : okc (byI l k) → Hid (∀ j, j < k + 1 → okc (byI l j)) := fun h => Lib.hid (fun j hj => by
                by_cases e : j = k
                · subst e; exact h
                · exact hR.out j (by omega))
              have bad : ¬ okc (byI l k) → labelV s = (⟨#[]⟩, 90) := fun h => by
                exact HL.out.2 (fun hh => h (HV.out.1 hh k (by omega)))
              unfold okc at good bad
              generalize byI l k = c at e2 good bad
              have hcl : (c = 45) ∨ (97 ≤ c ∧ c ≤ 122) ∨ (48 ≤ c ∧ c ≤ 57) ∨ (c < 45 ∨ 45 < c ∧ c < 48) ∨ (57 < c ∧ c < 97) ∨ (122 < c) := by omega
              rcases hcl with hc | hc | hc | hc | hc | hc
              · subst hc
                go_wp2
                go_roundw
                case rel => exact ⟨k + 1, by omega, by go_num, trivial, good (.inl rfl)⟩
                case measure => simp [intOf]; omega
              · have t5 : (c != 45) = true := bne_iff_ne.2 (by omega)
                have t6 : (decide (c < 97)) = false := decide_eq_false (by omega)
                have t7 : (decide (122 < c)) = false := decide_eq_false (by omega)
                have t8 : (decide (c < 48)) = false := decide_eq_false (by omega)
                have t9 : (decide (57 < c)) = true := decide_eq_true (by omega)
                go_wp2
                go_roundw
                case rel => exact ⟨k + 1, by omega, by go_num, trivial, good (.inr (.inl hc))⟩
                case measure => simp [intOf]; omega
              · have t5 : (c != 45) = true := bne_iff_ne.2 (by omega)
                have t6 : (decide (c < 97)) = true := decide_eq_true (by omega)
                have t7 : (decide (122 < c)) = false := decide_eq_false (by omega)
                have t8 : (decide (c < 48)) = false := decide_eq_false (by omega)
                have t9 : (decide (57 < c)) = false := decide_eq_false (by omega)
                go_wp2
                go_roundw
                case rel => exact ⟨k + 1, by omega, by go_num, trivial, good (.inr (.inr hc))⟩
                case measure => simp [intOf]; omega
              · have t5 : (c != 45) = true := bne_iff_ne.2 (by omega)
                have t6 : (decide (c < 97)) = true := decide_eq_true (by omega)
                have t7 : (decide (122 < c)) = false := decide_eq_false (by omega)
                have t8 : (decide (c < 48)) = true := decide_eq_true (by omega)
                have t9 : (decide (57 < c)) = false := decide_eq_false (by omega)
                have hr := bad (by omega)
                go_wp2
                go_ret2
                exact ⟨by rw [hr]; rfl, HB.out⟩
              · have t5 : (c != 45) = true := bne_iff_ne.2 (by omega)
                have t6 : (decide (c < 97)) = true := decide_eq_true (by omega)
                have t7 : (decide (122 < c)) = false := decide_eq_false (by omega)
                have t8 : (decide (c < 48)) = false := decide_eq_false (by omega)
                have t9 : (decide (57 < c)) = true := decide_eq_true (by omega)
                have hr := bad (by omega)
                go_wp2
                go_ret2
                exact ⟨by rw [hr]; rfl, HB.out⟩
              · have t5 : (c != 45) = true := bne_iff_ne.2 (by omega)
                have t6 : (decide (c < 97)) = false := decide_eq_false (by omega)
                have t7 : (decide (122 < c)) = true := decide_eq_true (by omega)
                have t8 : (decide (c < 48)) = false := decide_eq_false (by omega)
                have t9 : (decide (57 < c)) = true := decide_eq_true (by omega)
                have hr := bad (by omega)
                go_wp2
                go_ret2
                exact ⟨by rw [hr]; rfl, HB.out⟩
            · obtain rfl : k = l.size := by omega
              have hr := HL.out.1 (HV.out.2 (fun j hj => hR.out j (by omega)))
              go_wp2
              go_ret2
              exact ⟨by rw [hr]; rfl, HB.out⟩
    · rw [labelV_bad (fun h => h2 h.2.1)]
      go_enter Tryz.func61, Tryz.ntmps61
      go_wp2
      go_ret2
      exact ⟨rfl, Below.refl _ _⟩
  · rw [labelV_bad (fun h => h1 h.1)]
    have h0 : s.size = 0 := by omega
    go_enter Tryz.func61, Tryz.ntmps61
    go_wp2
    go_ret2
    exact ⟨rfl, Below.refl _ _⟩
/-- The first error that isn't 0. -/
def firstE : List Int → Int
  | [] => 0
  | e :: r => if e = 0 then firstE r else e
theorem firstE_at {es : List Int} : ∀ (k : Nat), (∀ j, j < k → es.getD j 0 = 0) → k < es.length → es.getD k 0 ≠ 0 → firstE es = es.getD k 0 := by
  induction es with
  | nil => intro k _ h; exact absurd h (Nat.not_lt_zero _)
  | cons e r ih =>
    intro k h0 hk hne
    cases k with
    | zero => simp only [firstE]; rw [if_neg (by simpa using hne)]; rfl
    | succ k =>
      have := h0 0 (Nat.zero_lt_succ _)
      simp only [firstE]
      rw [if_pos (by simpa using this)]
      simpa using ih k (fun j hj => by simpa using h0 (j + 1) (by omega)) (by simpa using hk) (by simpa using hne)
theorem firstE_none {es : List Int} (h : ∀ j, j < es.length → es.getD j 0 = 0) : firstE es = 0 := by
  induction es with
  | nil => rfl
  | cons e r ih =>
    simp only [firstE]
    rw [if_pos (by simpa using h 0 (Nat.zero_lt_succ _))]
    exact ih (fun j hj => by simpa using h (j + 1) (by simpa using hj))
set_option maxHeartbeats 1000000 in
theorem first_calls (es : List Int) (hn : es.length ≤ 100) (w : World) (b o cap : Nat) (hc : ∀ j, j < es.length → w.cell? ⟨b, o + j, none⟩ = some (.int .i64 (es.getD j 0))) (hcap : es.length ≤ cap) :
    Calls Tryz.prog 62 #[.slice (some ⟨b, o, none⟩) es.length cap] w fun e w' => e = .returned (.int .i64 (firstE es)) ∧ w' = w := by
  have HC := Lib.hid hc
  clear hc
  go_enter Tryz.func62, Tryz.ntmps62
  go_wp2
  go_loopw [7] (fun i wr => ∃ k : Nat, k ≤ es.length ∧ i = .int .i64 k ∧ wr = w ∧ Hid (∀ j, j < k → es.getD j 0 = 0)) (fun i _ => es.length - (intOf i).toNat)
  case atStart => exact ⟨0, Nat.zero_le _, rfl, rfl, Lib.hid (fun j hj => absurd hj (Nat.not_lt_zero _))⟩
  case round =>
    obtain ⟨k, hk, rfl, rfl, hR⟩ := hrel
    by_cases hlt : k < es.length
    · have hck := HC.out k hlt
      by_cases hz : es.getD k 0 = 0
      · have hR2 : Hid (∀ j, j < k + 1 → es.getD j 0 = 0) := Lib.hid (fun j hj => by
          by_cases e : j = k
          · subst e; exact hz
          · exact hR.out j (by omega))
        rw [hz] at hck
        clear hz
        go_wp2
        go_roundw
        case rel => exact ⟨k + 1, by omega, by go_num, trivial, hR2⟩
        case measure => simp [intOf]; omega
      · have hv := firstE_at k hR.out hlt hz
        have HV := Lib.hid hv
        clear hv
        generalize hx : es.getD k 0 = x at hck hz
        have Hx := Lib.hid hx
        clear hx
        go_wp2
        go_ret
        exact ⟨by rw [HV.out, Hx.out]; rfl, rfl⟩
    · obtain rfl : k = es.length := by omega
      have HV := Lib.hid (firstE_none hR.out)
      go_wp2
      go_ret
      exact ⟨by rw [HV.out]; rfl, rfl⟩
set_option maxHeartbeats 1000000 in
theorem when_calls (c : Bool) (n : Int) (w : World) : Calls Tryz.prog 72 #[.bool c, .int .i64 n] w fun e w' => e = .returned (.int .i64 (if c then n else 0)) ∧ w' = w := by
  cases c
  · go_enter Tryz.func72, Tryz.ntmps72
    go_wp2
    go_ret
    exact ⟨rfl, rfl⟩
  · go_enter Tryz.func72, Tryz.ntmps72
    go_wp2
    go_ret
    exact ⟨rfl, rfl⟩
end Go.Proofs.YtkhgfdlinobabaaGreatDoor.G
