/- journal.reader: take and num, where enough is there. -/
import Derived.Test.YtkhgfdlinobabaaGreatDoorJCopy2
namespace Go.Proofs.YtkhgfdlinobabaaGreatDoor.G
open Go.RowKit
set_option linter.unusedVariables false
set_option linter.unusedSimpArgs false
theorem BytesAt.setCell {w : World} {v : Value} {l : List UInt8} (h : BytesAt w v l) {g : Nat} {A : Option Addr} {m c : Nat} {t : TypeId} (hg : w.heap[g]? = some (.cells #[.slice A m c] t (0, 0))) (u : Value) : BytesAt (w.setCell ⟨g, 0, none⟩ u) v l := by
  obtain ⟨A, cap, hv, hc, hx⟩ := h
  refine ⟨A, cap, hv, hc, fun hn => ?_⟩
  obtain ⟨b, o, hA, hcell⟩ := hx hn
  refine ⟨b, o, hA, fun j hj => ?_⟩
  have h1 := hcell j hj
  by_cases e : b = g
  · subst e
    have := Blk.cell hg (o + j)
    rw [this] at h1
    rcases Nat.eq_zero_or_pos (o + j) with e0 | e0
    · rw [e0] at h1; simp at h1
    · rw [List.getElem?_toArray, List.getElem?_eq_none (by simp; omega)] at h1; simp at h1
  · have h2 : (w.setCell ⟨g, 0, none⟩ u).heap[b]? = w.heap[b]? := set_far u e rfl
    unfold World.cell? at h1 ⊢
    simp only at h1 ⊢
    rw [h2]; exact h1
theorem BytesAt.take {w : World} {A : Option Addr} {c : Nat} {l : List UInt8} (h : BytesAt w (.slice A l.length c) l) (n : Nat) (hn : n ≤ l.length) : BytesAt w (.slice A n c) (l.take n) := by
  obtain ⟨A', c', hv, hc, hx⟩ := h
  injection hv with h1 h2 h3
  subst h1 h3
  have hlen : (l.take n).length = n := by rw [List.length_take]; omega
  refine ⟨A, c, by rw [hlen], by rw [hlen]; omega, fun hne => ?_⟩
  obtain ⟨b, o, hA, hcell⟩ := hx (by rintro rfl; simp at hne)
  refine ⟨b, o, hA, fun j hj => ?_⟩
  rw [hlen] at hj
  rw [hcell j (by omega)]
  simp [List.getD, List.getElem?_take, hj]
theorem BytesAt.drop {w : World} {A : Option Addr} {c : Nat} {l : List UInt8} (h : BytesAt w (.slice A l.length c) l) (n : Nat) (hn : n ≤ l.length) : BytesAt w (.slice (A.map (·.add n)) (l.length - n) (c - n)) (l.drop n) := by
  obtain ⟨A', c', hv, hc, hx⟩ := h
  injection hv with h1 h2 h3
  subst h1 h3
  refine ⟨_, _, by rw [List.length_drop], by rw [List.length_drop]; omega, fun hne => ?_⟩
  obtain ⟨b, o, hA, hcell⟩ := hx (by rintro rfl; simp at hne)
  subst hA
  refine ⟨b, o + n, by simp [Addr.add], fun j hj => ?_⟩
  rw [List.length_drop] at hj
  have := hcell (n + j) (by omega)
  rw [show o + n + j = o + (n + j) from by omega, this]
  simp [List.getD]
theorem BytesAt.none_ (w : World) (A : Option Addr) (c : Nat) : BytesAt w (.slice A 0 c) [] := ⟨A, c, rfl, Nat.zero_le _, fun h => absurd rfl h⟩
set_option maxHeartbeats 4000000 in
set_option maxRecDepth 100000 in
theorem take_calls (g : Nat) (v : Value) (l : List UInt8) (n : Nat) (hn : n ≤ l.length) (hl : l.length ≤ 140737488355328) (w : World) (hg : w.heap[g]? = some (.cells #[v] 83 (0, 0))) (hb : BytesAt w v l) :
    Calls Tryz.prog 38 #[.pointer (some ⟨g, 0, none⟩), .int .i64 n] w fun e w' => ∃ v1 v2, e = .returned v1 ∧ w' = w.setCell ⟨g, 0, none⟩ v2 ∧ BytesAt w v1 (l.take n) ∧ BytesAt w v2 (l.drop n) := by
  have HB := Lib.hid hb
  obtain ⟨A, cap, rfl, hcap, hx⟩ := hb
  have HX := Lib.hid hx
  have c0 := Blk.cell hg 0
  have f0 := Blk.free hg 0
  simp only [List.getElem?_toArray, List.getElem?_cons_zero, List.getElem?_cons_succ] at c0
  have HG := Lib.hid hg
  have t1 : decide ((l.length : Int) < n) = false := decide_eq_false (by omega)
  have t2 : l.length ≤ 9223372036854775807 := by omega
  clear hx hg
  go_enter Tryz.func38, Tryz.ntmps38
  go_wp2
  · have e : l.length - n = 0 := by omega
    have e2 : l.drop n = [] := List.drop_eq_nil_of_le (by omega)
    obtain rfl : cap = n := by assumption
    go_ret
    refine ⟨_, rfl, _, rfl, HB.out.take _ hn, ?_⟩
    rw [e, e2]
    exact BytesAt.none_ _ _ _
  · go_ret
    exact ⟨_, rfl, _, rfl, HB.out.take _ hn, HB.out.drop _ hn⟩
/-- The number that bytes write, the highest first. -/
def numB (l : List UInt8) : Nat := l.foldl (fun n c => n * 256 + c.toNat) 0
theorem numB_snoc (l : List UInt8) (c : UInt8) : numB (l ++ [c]) = numB l * 256 + c.toNat := by simp [numB]
theorem numB_fold : ∀ (l : List UInt8) (a : Nat), l.foldl (fun n c => n * 256 + c.toNat) a < (a + 1) * 256 ^ l.length
  | [], a => by simp
  | c :: l, a => by
    have h1 := numB_fold l (a * 256 + c.toNat)
    have h2 := c.toNat_lt
    rw [List.foldl_cons, List.length_cons, Nat.pow_succ, Nat.mul_comm (256 ^ l.length), ← Nat.mul_assoc]
    exact Nat.lt_of_lt_of_le h1 (Nat.mul_le_mul_right _ (by omega))
theorem numB_lt (l : List UInt8) : numB l < 256 ^ l.length := by
  have := numB_fold l 0
  simpa [numB] using this
theorem wrap64_ (n : Int) : IntKind.u64.wrap n = n % 18446744073709551616 := by simp [IntKind.wrap, IntKind.bits, IntKind.signed]
theorem wrap64N (n : Nat) (h : n < 18446744073709551616) : IntKind.u64.wrap (n : Int) = (n : Int) := by rw [wrap64_]; omega
theorem or64 (a b : Nat) (ha : a < 18446744073709551616) (hb : b < 18446744073709551616) : bits .or .u64 (a : Int) (b : Int) = ((a ||| b : Nat) : Int) := by
  have hx : a ||| b < 2 ^ 64 := Nat.or_lt_two_pow (by omega) (by omega)
  have h1 : (BitVec.ofInt 64 (a : Int)).toNat = a := by
    rw [BitVec.ofInt_natCast, BitVec.toNat_ofNat]; exact Nat.mod_eq_of_lt (by omega)
  have h2 : (BitVec.ofInt 64 (b : Int)).toNat = b := by
    rw [BitVec.ofInt_natCast, BitVec.toNat_ofNat]; exact Nat.mod_eq_of_lt (by omega)
  show IntKind.u64.wrap ((BitVec.ofInt 64 (a : Int) ||| BitVec.ofInt 64 (b : Int)).toNat : Int) = _
  rw [BitVec.toNat_or, h1, h2]
  exact wrap64N _ (by omega)
theorem next64 (N x : Nat) (hN : N < 72057594037927936) (hx : x < 256) : bits .or .u64 ((N : Int) * 256) (x : Int) = ((N * 256 + x : Nat) : Int) := by
  have e : ((N : Int) * 256) = ((N * 256 : Nat) : Int) := by omega
  rw [e, or64 _ _ (by omega) (by omega)]
  have := Nat.two_pow_add_eq_or_of_lt (i := 8) (b := x) (by omega) N
  rw [show N * 256 = 2 ^ 8 * N from by omega, this]
set_option maxHeartbeats 4000000 in
set_option maxRecDepth 100000 in
theorem num_calls (g : Nat) (v : Value) (l : List UInt8) (n : Nat) (hn : n ≤ l.length) (hn8 : n ≤ 8) (hl : l.length ≤ 140737488355328) (w : World) (hg : w.heap[g]? = some (.cells #[v] 83 (0, 0))) (hb : BytesAt w v l) :
    Calls Tryz.prog 37 #[.pointer (some ⟨g, 0, none⟩), .int .i64 n] w fun e w' => ∃ v2, e = .returned (.int .u64 (numB (l.take n) : Nat)) ∧ w' = w.setCell ⟨g, 0, none⟩ v2 ∧ BytesAt w v2 (l.drop n) := by
  have hform : ∃ A c, v = .slice A l.length c := by obtain ⟨A, c, hv, _⟩ := hb; exact ⟨A, c, hv⟩
  go_enter Tryz.func37, Tryz.ntmps37
  go_wp2_with (go_at_call 38; refine (calls_hid (take_calls g v l n hn hl _ hg hb)).mono ?_)
  rintro e w1 hh
  obtain ⟨v1, v2, rfl, rfl, h1, h2⟩ := hh.out
  clear hh
  obtain ⟨A, c, rfl⟩ := hform
  have HK := Lib.hid (h1.setCell hg v2)
  have H2 := Lib.hid h2
  have hlen : (l.take n).length = n := by rw [List.length_take]; omega
  obtain ⟨L, hL⟩ : ∃ L, L = l.take n := ⟨_, rfl⟩
  rw [← hL] at hlen HK
  have HL := Lib.hid hL
  subst hlen
  clear h1 h2 hL
  obtain ⟨A1, c1, rfl, hc1, hx⟩ := HK.out
  have HX := Lib.hid hx
  obtain ⟨W, hW⟩ : ∃ W, W = w.setCell ⟨g, 0, none⟩ v2 := ⟨_, rfl⟩
  rw [← hW] at HK HX
  have HW := Lib.hid hW
  rw [← hW]
  clear hx hW
  clear HK hb hg
  go_wp2
  go_loopw [5, 12] (fun u i wr => ∃ k : Nat, k ≤ L.length ∧ i = .int .i64 k ∧ u = .int .u64 (numB (L.take k) : Nat) ∧ wr = W) (fun _ i _ => L.length - (intOf i).toNat)
  case atStart => exact ⟨0, Nat.zero_le _, rfl, rfl, rfl⟩
  case round =>
    obtain ⟨k, hk, rfl, rfl, rfl⟩ := hrel
    by_cases hlt : k < L.length
    · obtain ⟨b, o, rfl, hc⟩ := HX.out (by intro e; subst e; simp at hlt)
      have c0 := hc k hlt
      have HNX := Lib.hid (show numB (L.take (k + 1)) = numB (L.take k) * 256 + (L.getD k 0).toNat from by
        rw [← numB_snoc]; congr 1; rw [List.take_add_one, List.getElem?_eq_getElem hlt]; simp [List.getD, hlt])
      have hb := numB_lt (L.take k)
      have hlk : (L.take k).length = k := by rw [List.length_take]; omega
      rw [hlk] at hb
      have hu := (L.getD k 0).toNat_lt
      generalize (L.getD k 0).toNat = x at c0 HNX hu
      generalize numB (L.take k) = N at HNX hb ⊢
      clear hc
      have hN : N < 72057594037927936 := by
        have h7 : (256 : Nat) ^ k ≤ 256 ^ 7 := Nat.pow_le_pow_right (by decide) (by omega)
        omega
      have HE := Lib.hid (next64 N x hN hu)
      go_wp2
      refine ⟨⟨k + 1, by omega, by go_num, ?_, trivial⟩, by simp [intOf]; omega⟩
      rw [HE.out, HNX.out]
    · obtain rfl : k = L.length := by omega
      rw [List.take_length]
      go_wp2
      go_ret
      refine ⟨v2, ?_, HW.out, H2.out⟩
      rw [← HL.out]
      rfl
end Go.Proofs.YtkhgfdlinobabaaGreatDoor.G
