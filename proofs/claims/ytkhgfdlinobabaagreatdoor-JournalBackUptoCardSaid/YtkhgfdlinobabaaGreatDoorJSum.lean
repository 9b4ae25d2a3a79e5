/- journal.Sum: what it answers. -/
import Derived.Test.YtkhgfdlinobabaaGreatDoorJSumL
import Derived.Test.YtkhgfdlinobabaaGreatDoorJBytes
namespace Go.Proofs.YtkhgfdlinobabaaGreatDoor.G
open Go.RowKit
set_option linter.unusedVariables false
set_option linter.unusedSimpArgs false
/-- A list of bytes, as it is read. -/
def BytesAt (w : World) (v : Value) (l : List UInt8) : Prop :=
  ∃ A cap, v = .slice A l.length cap ∧ l.length ≤ cap ∧ (l ≠ [] → ∃ b o, A = some ⟨b, o, none⟩ ∧ ∀ j, j < l.length → w.cell? ⟨b, o + j, none⟩ = some (.int .u8 ((l.getD j 0).toNat : Int)))
/-- The numbers of the bytes. -/
abbrev nums (l : List UInt8) : List Nat := l.map UInt8.toNat
/-- The sum of bytes. -/
def sumB (l : List UInt8) : Nat := sumS (nums l)
theorem nums_lt (l : List UInt8) : ∀ c ∈ nums l, c < 256 := fun c hc => by
  obtain ⟨x, _, rfl⟩ := List.mem_map.1 hc
  exact x.toNat_lt
theorem fold_snoc : ∀ (l : List Nat) (s c : Nat), fold s (l ++ [c]) = byteS (fold s l) c
  | [], _, _ => rfl
  | _ :: l, _, c => fold_snoc l _ c
theorem st_succ : ∀ (n u : Nat), st (n + 1) u = st1 (st n u)
  | 0, _ => rfl
  | n + 1, u => st_succ n (st1 u)
set_option maxHeartbeats 2000000 in
set_option maxRecDepth 100000 in
theorem sum_calls (v : Value) (l : List UInt8) (hl : l.length ≤ 140737488355328) (w : World) (h : BytesAt w v l) :
    Calls Tryz.prog 20 #[v] w fun e w' => e = .returned (.int .u32 (sumB l : Int)) ∧ w' = w := by
  obtain ⟨A, cap, rfl, hcap, hx⟩ := h
  have HC := Lib.hid hx
  clear hx
  go_enter Tryz.func20, Tryz.ntmps20
  go_wp2
  go_loopw [3, 8] (fun s i wr => ∃ (k u : Nat), k ≤ l.length ∧ i = .int .i64 k ∧ s = .int .u32 (u : Int) ∧ u < 4294967296 ∧ wr = w ∧ Hid (u = fold 4294967295 (nums (l.take k)))) (fun _ i _ => l.length - (intOf i).toNat)
  case atStart => exact ⟨0, 4294967295, Nat.zero_le _, rfl, rfl, by decide, rfl, Lib.hid rfl⟩
  case round =>
    obtain ⟨k, u, hk, rfl, rfl, hu, rfl, hU⟩ := hrel
    by_cases hlt : k < l.length
    · obtain ⟨b, o, rfl, hc⟩ := HC.out (by intro e; subst e; simp at hlt)
      have c0 := hc k hlt
      have hb := (l.getD k 0).toNat_lt
      have HN := Lib.hid (show nums (l.take (k + 1)) = nums (l.take k) ++ [(l.getD k 0).toNat] from by
        rw [List.take_add_one, List.getElem?_eq_getElem hlt]; unfold nums; rw [List.map_append]; congr 1; simp [List.getD, hlt])
      generalize (l.getD k 0).toNat = c at c0 hb HN
      clear hc
      have hx0 : bits .xor .u32 (u : Int) (c : Int) = ((u ^^^ c : Nat) : Int) := xor32 u c hu (by omega)
      have hx1 : u ^^^ c < 4294967296 := Nat.xor_lt_two_pow (n := 32) hu (by omega)
      have HX := Lib.hid (show u ^^^ c = st 0 (u ^^^ c) from rfl)
      go_wp2
      go_loopw [3, 16] (fun s j wq => ∃ (m x : Nat), m ≤ 8 ∧ j = .int .i64 m ∧ s = .int .u32 (x : Int) ∧ x < 4294967296 ∧ wq = wr ∧ Hid (x = st m (u ^^^ c))) (fun _ j _ => 8 - (intOf j).toNat)
      case atStart => exact ⟨0, u ^^^ c, by decide, rfl, by first | rfl | rw [hx0], hx1, rfl, Lib.hid rfl⟩
      case round =>
        obtain ⟨m, x, hm, rfl, rfl, hxl, rfl, hX⟩ := hrel
        by_cases hm8 : m < 8
        · have hstep := sum_step x hxl
          have hlt2 := st1_lt hxl
          have HX2 := Lib.hid (show st1 x = st (m + 1) (u ^^^ c) from by rw [st_succ, ← hX.out])
          generalize st1 x = y at hstep hlt2 HX2
          have HS := Lib.hid hstep
          clear hstep
          go_wp2
          go_roundw
          case rel => exact ⟨m + 1, y, by omega, by go_num, by rw [HS.out], hlt2, trivial, HX2⟩
          case measure => simp [intOf]; omega
        · obtain rfl : m = 8 := by omega
          have HF := Lib.hid (show x = fold 4294967295 (nums (l.take (k + 1))) from by rw [HN.out, fold_snoc, ← hU.out, hX.out]; rfl)
          go_wp2
          go_roundw
          case rel => exact ⟨k + 1, x, by omega, by go_num, rfl, hxl, trivial, HF⟩
          case measure => simp [intOf]; omega
    · obtain rfl : k = l.length := by omega
      have HF := Lib.hid (show sumB l = 4294967295 ^^^ u from by rw [hU.out, List.take_length]; rfl)
      have HX := Lib.hid (show bits .xor .u32 IntKind.u32.max (u : Int) = ((4294967295 ^^^ u : Nat) : Int) from xor32 4294967295 u (by decide) hu)
      go_wp2
      go_ret
      exact ⟨by rw [HF.out, ← HX.out]; rfl, rfl⟩
end Go.Proofs.YtkhgfdlinobabaaGreatDoor.G
