/- rows.Low returns the text with A to Z as a to z, for every text. -/
import Derived.Test.YtkhgfdlinobabaaGreatDoorProg
import Derived.WalkKit
import Derived.Below
import Derived.OwnWalk
import Derived.KernelRfl
import Derived.RowKit3
import Derived.Deep.LoopGhost
import Derived.Lib.ConvBytes
import Derived.Lib.Hide
import Derived.Laws.BytesArg
import Derived.Laws.Rows
namespace Go.Proofs.YtkhgfdlinobabaaGreatDoor.G
open Go.RowKit
set_option linter.unusedVariables false
set_option linter.unusedSimpArgs false

/-- A to Z as a to z. -/
def lowI (n : Int) : Int := if 65 ≤ n ∧ n ≤ 90 then n + 32 else n
def byI (s : ByteArray) (j : Nat) : Int := ((s.data.toList.getD j 0).toNat : Int)
def lowAt (s : ByteArray) (k j : Nat) : Int := if j < k then lowI (byI s j) else byI s j
/-- What rows.Low makes of a text. -/
def lowS (s : ByteArray) : ByteArray := Go.strOfNums ((List.range s.size).map fun j => lowI (byI s j))

theorem byI_range (s : ByteArray) (j : Nat) : 0 ≤ byI s j ∧ byI s j ≤ 255 := by
  unfold byI
  have := (s.data.toList.getD j 0).toNat_lt
  omega

/-- Block b holds the bytes of s, the first k of them made small, and anything behind. -/
def LowRow (s : ByteArray) (b k : Nat) (w : World) : Prop :=
  ∃ cs : Array Value, w.heap[b]? = some (.cells cs 5 (cs.size, cs.size + 1)) ∧ s.size ≤ cs.size ∧ ∀ j, j < s.size → cs[j]? = some (.int .u8 (lowAt s k j))

theorem LowRow.start (s : ByteArray) (w : World) : LowRow s w.heap.size 0 (Lib.bytesWorld w 5 s) := by
  have hz : (Lib.bytesCells w 5 s).size = s.data.size + (grownCap w s.size 0 5 - s.size) := by simp only [Lib.bytesCells, Array.size_append, Array.size_map, Array.size_replicate]
  refine ⟨_, Lib.bytesWorld_at_new w 5 s, by rw [hz]; exact Nat.le_add_right _ _, fun j hj => ?_⟩
  have hj' : j < s.data.size := hj
  simp [Lib.bytesCells, lowAt, byI, Array.getElem?_append, hj', hj, List.getD]
theorem LowRow.cell {s : ByteArray} {b k : Nat} {w : World} (h : LowRow s b k w) (j : Nat) (hj : j < s.size) : w.cell? ⟨b, j, none⟩ = some (.int .u8 (lowAt s k j)) := by
  obtain ⟨cs, h1, h2, h3⟩ := h
  simp [World.cell?, h1, h3 j hj]
theorem LowRow.free {s : ByteArray} {b k : Nat} {w : World} (h : LowRow s b k w) (j : Nat) (hj : j < s.size) : w.frozen? ⟨b, j, none⟩ = false := by
  obtain ⟨cs, h1, h2, h3⟩ := h
  simp [World.frozen?, h1]
  omega
theorem LowRow.keep {s : ByteArray} {b k : Nat} {w : World} (h : LowRow s b k w) (e : lowI (byI s k) = byI s k) : LowRow s b (k + 1) w := by
  obtain ⟨cs, h1, h2, h3⟩ := h
  refine ⟨cs, h1, h2, fun j hj => ?_⟩
  rw [h3 j hj]
  unfold lowAt
  by_cases hjk : j = k
  · subst hjk; rw [if_neg (Nat.lt_irrefl _), if_pos (Nat.lt_succ_self _), e]
  · by_cases hlt : j < k
    · rw [if_pos hlt, if_pos (by omega)]
    · rw [if_neg hlt, if_neg (by omega)]
theorem LowRow.put {s : ByteArray} {b k : Nat} {w : World} (h : LowRow s b k w) (hk : k < s.size) : LowRow s b (k + 1) (w.setCell ⟨b, k, none⟩ (.int .u8 (lowI (byI s k)))) := by
  obtain ⟨cs, h1, h2, h3⟩ := h
  refine ⟨cs.set! k (.int .u8 (lowI (byI s k))), ?_, by simpa using h2, fun j hj => ?_⟩
  · rw [World.setCell]
    simp [Array.getElem?_modify, h1]
  · by_cases hjk : j = k
    · subst hjk
      rw [Array.set!_eq_setIfInBounds, Array.getElem?_setIfInBounds_self_of_lt (by omega)]
      simp [lowAt]
    · rw [Array.set!_eq_setIfInBounds, Array.getElem?_setIfInBounds_ne (by omega), h3 j hj]
      unfold lowAt
      by_cases hlt : j < k
      · rw [if_pos hlt, if_pos (by omega)]
      · rw [if_neg hlt, if_neg (by omega)]
theorem lowAt_end (s : ByteArray) (j : Nat) (hj : j < s.size) : lowAt s s.size j = ((List.range s.size).map fun j => lowI (byI s j)).getD j 0 := by
  simp [lowAt, hj, List.getD]
theorem below_bytes (w : World) (s : ByteArray) : Below w.heap.size w (Lib.bytesWorld w 5 s) :=
  ⟨rfl, rfl, rfl, by rw [Lib.bytesWorld_size]; omega, fun k hk => Lib.bytesWorld_at_old w 5 s k hk⟩

def rows_Low.f (a0 : ByteArray) : Option ByteArray := if a0.size ≤ 140737488355328 then some (lowS a0) else none

set_option maxHeartbeats 1000000 in
set_option maxRecDepth 100000 in
theorem low_calls (s : ByteArray) (hs : s.size ≤ 140737488355328) (w : World) :
    Calls Tryz.prog 73 #[.string s] w fun e w' => e = .returned (.string (lowS s)) ∧ Below w.heap.size w w' := by
  have hconv := Lib.run_convert_string_bytes (P := Tryz.prog) w 9 28 5 s (u := .string) Tryz.underlying9 Tryz.underlying28 Tryz.underlying5
  have hst := LowRow.start s w
  have hbl := below_bytes w s
  obtain ⟨cap, hcap⟩ : ∃ c, c = grownCap w s.size 0 5 := ⟨_, rfl⟩
  rw [← hcap] at hconv
  clear hcap
  generalize Lib.bytesWorld w 5 s = W0 at hconv hst hbl
  have HS := Lib.hid hst
  have HB := Lib.hid hbl
  clear hst hbl
  go_enter Tryz.func73, Tryz.ntmps73
  go_wp2
  go_loopw [10] (fun i wr => ∃ k : Nat, k ≤ s.size ∧ i = .int .i64 k ∧ Hid (LowRow s w.heap.size k wr) ∧ Hid (Below w.heap.size w wr)) (fun i _ => s.size - (intOf i).toNat)
  case atStart => exact ⟨0, Nat.zero_le _, rfl, HS, HB⟩
  case round =>
    obtain ⟨k, hk, rfl, hR, hB⟩ := hrel
    by_cases hlt : k < s.size
    · have hc := hR.out.cell k hlt
      have hf := hR.out.free k hlt
      have e0 : lowAt s k k = byI s k := by unfold lowAt; rw [if_neg (Nat.lt_irrefl _)]
      rw [e0] at hc
      clear e0
      have hr := byI_range s k
      generalize hb : byI s k = b at hc hr
      have Hb := Lib.hid hb
      clear hb
      by_cases h1 : 65 ≤ b
      · by_cases h2 : b ≤ 90
        · go_wp2
          go_roundw
          case rel => exact ⟨k + 1, by omega, by go_num, Lib.hid (by
            have e : b + 97 - 65 = lowI (byI s k) := by rw [Hb.out]; unfold lowI; rw [if_pos ⟨h1, h2⟩]; omega
            rw [e]; exact hR.out.put hlt), Lib.hid (hB.out.setCell (p := ⟨w.heap.size, k, none⟩) (Nat.le_refl _) _)⟩
          case measure => simp [intOf]; omega
        · go_wp2
          go_roundw
          case rel => exact ⟨k + 1, by omega, by go_num, Lib.hid (hR.out.keep (by rw [Hb.out]; unfold lowI; rw [if_neg (by omega)])), hB⟩
          case measure => simp [intOf]; omega
      · go_wp2
        go_roundw
        case rel => exact ⟨k + 1, by omega, by go_num, Lib.hid (hR.out.keep (by rw [Hb.out]; unfold lowI; rw [if_neg (by omega)])), hB⟩
        case measure => simp [intOf]; omega
    · obtain rfl : k = s.size := by omega
      have hback := run_convert_bytes_arg (P := Tryz.prog) wr 28 5 Tryz.underlying28 Tryz.underlying5 w.heap.size 0 s.size cap ((List.range s.size).map fun j => lowI (byI s j)) (by simp) (fun j hj => by
        rw [Nat.zero_add, hR.out.cell j hj, lowAt_end s j hj]) 9 Tryz.underlying9
      have hl : Go.strOfNums ((List.range s.size).map fun j => lowI (byI s j)) = lowS s := rfl
      rw [hl] at hback
      clear hl
      go_wp2
      go_ret
      exact ⟨rfl, hB.out⟩
theorem rows_Low.calls (a0 r : ByteArray) (w : World) (h : rows_Low.f a0 = some r) :
    Calls Tryz.prog 73 #[.string a0] w fun e w' => e = .returned (.string r) ∧ Below w.heap.size w w' := by
  unfold rows_Low.f at h
  split at h
  · rename_i hs
    obtain rfl := Option.some.inj h
    exact low_calls a0 hs w
  · cases h
end Go.Proofs.YtkhgfdlinobabaaGreatDoor.G
