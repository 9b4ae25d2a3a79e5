/- records.Addr tells the four numbers of a text, or that there are none, for every text below 4294967281 bytes. -/
import Derived.Test.YtkhgfdlinobabaaGreatDoorShelf
import Derived.Test.YtkhgfdlinobabaaGreatDoorGVars
import Derived.OwnWalk
import Derived.RowKit3
import Derived.Deep.LoopGhost
import Derived.Lib.Hide
import Derived.Laws.Rows
import Derived.Lib.SplitLaws
import Derived.Lib.AppendIntMem
import Derived.WideLaws
import Derived.Outline
namespace Go.Proofs.YtkhgfdlinobabaaGreatDoor.G
open Go.RowKit
set_option linter.unusedVariables false
set_option linter.unusedSimpArgs false

def dot : ByteArray := ⟨#[46]⟩
/-- A number from 0 to 255, written as it is written. -/
def decB (t : ByteArray) : Option Int :=
  match Lib.atoiAll t.data.toList with
  | .ok v => if 0 ≤ v then if v ≤ 255 then if Lib.itoa v = t.data.toList then some v else none else none else none
  | _ => none
def four (p : List ByteArray) : Option (Int × Int × Int × Int) :=
  match p with
  | [a, b, c, d] => (decB a).bind fun x => (decB b).bind fun y => (decB c).bind fun z => (decB d).bind fun u => some (x, y, z, u)
  | _ => none
def parts (s : ByteArray) : List ByteArray := Lib.splitB dot 0 (Lib.countB s dot) s
def addrS (s : ByteArray) : Int × Int × Int × Int × Int := match four (parts s) with
  | some (x, y, z, u) => (x, y, z, u, 0)
  | none => (0, 0, 0, 0, 91)
def records_Addr.f (a0 : ByteArray) : Option (Int × Int × Int × Int × Int) := if a0.size < 4294967281 then some (addrS a0) else none

def AddrEnd (r : Int × Int × Int × Int × Int) (w : World) (e : Ending) (w' : World) : Prop :=
  e = .returned (.tuple #[.agg #[.int .u8 r.1, .int .u8 r.2.1, .int .u8 r.2.2.1, .int .u8 r.2.2.2.1], .int .i64 r.2.2.2.2]) ∧ Below w.heap.size w w'

theorem parts_len (s : ByteArray) : (parts s).length = Lib.countB s dot + 1 := Lib.splitB_all dot (by decide) 0 _ s rfl

set_option maxHeartbeats 1000000 in
set_option maxRecDepth 100000 in
/-- Another number of parts than four. -/
theorem addr_not4 (s : ByteArray) (hs : s.size < 4294967281) (hn : (parts s).length ≠ 4) (w : World) (hv : VarsOk w) :
    Calls Tryz.prog 70 #[.string s] w (AddrEnd (0, 0, 0, 0, 91) w) := by
  have hl := parts_len s
  obtain ⟨m, hm⟩ := hv.maxLen
  have hc : (((Lib.countB s dot + 1 : Nat) : Int) != 4) = true := by rw [bne_iff_ne]; omega
  have hcell : ∀ o o', ((w.alloc o).alloc o').cell? ⟨2, 0, none⟩ = some (.int .i64 m) := fun o o' => by
    have hb : Below w.heap.size w ((w.alloc o).alloc o') := ((Below.refl _ _).alloc (Nat.le_refl _) _).alloc (by simp) _
    exact cell_keep hb hm
  have Hl := Lib.hid hl
  have Hc := Lib.hid hcell
  clear hl hn hv hm hcell
  go_enter Tryz.func70, Tryz.ntmps70
  go_wp2_with (go_at_call 77; refine (Tryz.strings_Split s dot m _ hs (Hc.out _ _) (by decide)).mono ?_; rintro e w' ⟨rfl, rfl⟩)
  refine bodyPost_ret (v := .tuple #[.agg #[.int .u8 0, .int .u8 0, .int .u8 0, .int .u8 0], .int .i64 91]) (by simp [results, Tryz.results70, go_sem]) rfl ⟨rfl, ?_⟩
  exact ((((Below.refl _ _).alloc (Nat.le_refl _) _).alloc (by simp) _).alloc (by simp; omega) _)

def valAt (ss : List ByteArray) (k j : Nat) : Int := if j < k then (decB (ss.getD j ByteArray.empty)).getD 0 else 0
/-- The world at the head of round k: the result's block, the numbers' block, the parts' block. -/
theorem Blk.cell {w : World} {b : Nat} {cs : Array Value} {t : TypeId} (h : w.heap[b]? = some (.cells cs t (0, 0))) (j : Nat) : w.cell? ⟨b, j, none⟩ = cs[j]? := by simp [World.cell?, h]
theorem Blk.free {w : World} {b : Nat} {cs : Array Value} {t : TypeId} (h : w.heap[b]? = some (.cells cs t (0, 0))) (j : Nat) : w.frozen? ⟨b, j, none⟩ = false := by simp [World.frozen?, h]
structure AddrRow (w : World) (ss : List ByteArray) (k : Nat) (wr : World) : Prop where
  out : wr.heap[w.heap.size]? = some (.cells #[.int .u8 0, .int .u8 0, .int .u8 0, .int .u8 0] 120 (0, 0))
  nums : wr.heap[w.heap.size + 1]? = some (.cells #[.int .u8 (valAt ss k 0), .int .u8 (valAt ss k 1), .int .u8 (valAt ss k 2), .int .u8 (valAt ss k 3)] 120 (0, 0))
  strs : wr.heap[w.heap.size + 1 + 1]? = some (.cells (ss.map Value.string).toArray 9 (0, 0))
  bel : Below w.heap.size w wr
  good : ∀ j, j < k → (decB (ss.getD j ByteArray.empty)).isSome = true
theorem AddrRow.start (w : World) (ss : List ByteArray) :
    AddrRow w ss 0 (((w.alloc (.cells #[.int .u8 0, .int .u8 0, .int .u8 0, .int .u8 0] 120)).alloc (.cells #[.int .u8 0, .int .u8 0, .int .u8 0, .int .u8 0] 120)).alloc (.cells (ss.map Value.string).toArray 9)) := by
  refine ⟨?_, ?_, ?_, ((((Below.refl _ _).alloc (Nat.le_refl _) _).alloc (by simp) _).alloc (by simp; omega) _), fun j hj => absurd hj (Nat.not_lt_zero _)⟩
  · simp only [World.alloc, Array.getElem?_push, Array.size_push]
    rw [if_neg (by omega), if_neg (by omega), if_pos trivial]
  · simp only [World.alloc, Array.getElem?_push, Array.size_push, valAt]
    rw [if_neg (by omega), if_pos trivial]
    rfl
  · simp only [World.alloc, Array.getElem?_push, Array.size_push]
    rw [if_pos trivial]
theorem AddrRow.later {w : World} {ss : List ByteArray} {k : Nat} {wr w2 : World} (h : AddrRow w ss k wr) (hb : Below wr.heap.size wr w2) : AddrRow w ss k w2 := by
  have lt : ∀ i o, wr.heap[i]? = some o → i < wr.heap.size := fun i o ho => (Array.getElem?_eq_some_iff.1 ho).1
  exact ⟨(hb.block _ (lt _ _ h.out)).trans h.out, (hb.block _ (lt _ _ h.nums)).trans h.nums, (hb.block _ (lt _ _ h.strs)).trans h.strs, h.bel.trans ⟨hb.os, hb.tape, hb.output, hb.size, fun i hi => hb.block i (Nat.lt_of_lt_of_le hi h.bel.size)⟩, h.good⟩

theorem AddrRow.zero {w : World} {ss : List ByteArray} {k : Nat} {wr : World} (h : AddrRow w ss k wr) :
    (wr.frozen? ⟨w.heap.size, 0, none⟩ = false ∧ wr.frozen? ⟨w.heap.size, 1, none⟩ = false ∧ wr.frozen? ⟨w.heap.size, 2, none⟩ = false ∧ wr.frozen? ⟨w.heap.size, 3, none⟩ = false) ∧
    wr.cell? ⟨w.heap.size, 0, none⟩ = some (.int .u8 0) ∧ wr.cell? ⟨w.heap.size, 1, none⟩ = some (.int .u8 0) ∧ wr.cell? ⟨w.heap.size, 2, none⟩ = some (.int .u8 0) ∧ wr.cell? ⟨w.heap.size, 3, none⟩ = some (.int .u8 0) :=
  ⟨⟨Blk.free h.out 0, Blk.free h.out 1, Blk.free h.out 2, Blk.free h.out 3⟩, by rw [Blk.cell h.out]; rfl, by rw [Blk.cell h.out]; rfl, by rw [Blk.cell h.out]; rfl, by rw [Blk.cell h.out]; rfl⟩

theorem addrS_bad {s : ByteArray} (hn : (parts s).length = 4) {k : Nat} (hk : k < 4) (h : decB ((parts s).getD k ByteArray.empty) = none) : addrS s = (0, 0, 0, 0, 91) := by
  unfold addrS
  match hp : parts s, hn with
  | [a, b, c, d], _ =>
    rw [hp] at h
    have : four [a, b, c, d] = none := by
      unfold four
      match k, hk with
      | 0, _ => simp at h; simp [h]
      | 1, _ => simp at h; simp [h]
      | 2, _ => simp at h; simp [h]
      | 3, _ => simp at h; simp [h]
    rw [this]
theorem addrS_good {s : ByteArray} (hn : (parts s).length = 4) (h : ∀ j, j < 4 → (decB ((parts s).getD j ByteArray.empty)).isSome = true) :
    addrS s = (valAt (parts s) 4 0, valAt (parts s) 4 1, valAt (parts s) 4 2, valAt (parts s) 4 3, 0) := by
  unfold addrS
  match hp : parts s, hn with
  | [a, b, c, d], _ =>
    rw [hp] at h
    obtain ⟨x, hx⟩ := Option.isSome_iff_exists.1 (h 0 (by decide))
    obtain ⟨y, hy⟩ := Option.isSome_iff_exists.1 (h 1 (by decide))
    obtain ⟨z, hz⟩ := Option.isSome_iff_exists.1 (h 2 (by decide))
    obtain ⟨u, hu⟩ := Option.isSome_iff_exists.1 (h 3 (by decide))
    simp at hx hy hz hu
    simp [four, valAt, hx, hy, hz, hu]
theorem below_sets {w w2 : World} (h : Below w.heap.size w w2) (a b c d : Value) :
    Below w.heap.size w ((((w2.setCell ⟨w.heap.size, 0, none⟩ a).setCell ⟨w.heap.size, 1, none⟩ b).setCell ⟨w.heap.size, 2, none⟩ c).setCell ⟨w.heap.size, 3, none⟩ d) :=
  (((h.setCell (p := ⟨w.heap.size, 0, none⟩) (Nat.le_refl _) _).setCell (p := ⟨w.heap.size, 1, none⟩) (Nat.le_refl _) _).setCell (p := ⟨w.heap.size, 2, none⟩) (Nat.le_refl _) _).setCell (p := ⟨w.heap.size, 3, none⟩) (Nat.le_refl _) _

theorem splitB_size (sep : ByteArray) : ∀ (k : Nat) (s t : ByteArray), t ∈ Lib.splitB sep 0 k s → t.size ≤ s.size
  | 0, s, t, h => by simp [Lib.splitB] at h; subst h; exact Nat.le_refl _
  | k + 1, s, t, h => by
    unfold Lib.splitB at h
    split at h
    · simp at h; subst h; exact Nat.le_refl _
    · rcases List.mem_cons.1 h with rfl | h
      · rw [ByteArray.size_extract]; omega
      · have := splitB_size sep k _ t h
        rw [ByteArray.size_extract] at this
        omega
theorem AddrRow.numcell {w : World} {ss : List ByteArray} {k : Nat} {wr : World} (h : AddrRow w ss k wr) (hk : k < 4) : ∃ x, wr.cell? ⟨w.heap.size + 1, k, none⟩ = some (.int .u8 x) := by
  rw [Blk.cell h.nums]
  match k, hk with
  | 0, _ => exact ⟨_, rfl⟩
  | 1, _ => exact ⟨_, rfl⟩
  | 2, _ => exact ⟨_, rfl⟩
  | 3, _ => exact ⟨_, rfl⟩
theorem AddrRow.put {w : World} {ss : List ByteArray} {k : Nat} {wr : World} (h : AddrRow w ss k wr) (hk : k < 4) {v : Int} (hv : decB (ss.getD k ByteArray.empty) = some v) :
    AddrRow w ss (k + 1) (wr.setCell ⟨w.heap.size + 1, k, none⟩ (.int .u8 v)) := by
  have far : ∀ i, i ≠ w.heap.size + 1 → (wr.setCell ⟨w.heap.size + 1, k, none⟩ (.int .u8 v)).heap[i]? = wr.heap[i]? := fun i hi => Below.heap_setCell _ _ _ _ hi
  refine ⟨(far _ (by omega)).trans h.out, ?_, (far _ (by omega)).trans h.strs, h.bel.setCell (p := ⟨w.heap.size + 1, k, none⟩) (Nat.le_succ _) _, fun j hj => ?_⟩
  · rw [World.setCell]
    simp only [Array.getElem?_modify, h.nums, if_true, Option.map_some]
    have e : ∀ j, valAt ss (k + 1) j = if j = k then v else valAt ss k j := fun j => by
      unfold valAt
      by_cases hjk : j = k
      · subst hjk; rw [if_pos (Nat.lt_succ_self _), if_pos rfl, hv]; rfl
      · rw [if_neg hjk]
        by_cases hlt : j < k
        · rw [if_pos hlt, if_pos (by omega)]
        · rw [if_neg hlt, if_neg (by omega)]
    match k, hk with
    | 0, _ => simp [e]
    | 1, _ => simp [e]
    | 2, _ => simp [e]
    | 3, _ => simp [e]
  · by_cases hjk : j = k
    · subst hjk; rw [hv]; rfl
    · exact h.good j (by omega)
theorem atoi_bad (s : ByteArray) (hlim : s.size ≤ 281474976710656) (h1 : ∀ v, Lib.atoiAll s.data.toList ≠ .ok v) (h2 : Lib.atoiAll s.data.toList ≠ .range) (ev : Value) (w : World) (hv : w.cell? ⟨0, 0, none⟩ = some ev) (hev : ev = .nilIface ∨ ∃ te pe, ev = .iface te pe) :
    Calls Tryz.prog 78 #[.string s] w fun e w' => ∃ N, e = .returned (.tuple #[.int .i64 0, .iface 156 (.pointer (some ⟨N, 0, none⟩))]) ∧ Below w.heap.size w w' := by
  cases hq : Lib.atoiAll s.data.toList with
  | ok v => exact absurd hq (h1 v)
  | range => exact absurd hq h2
  | _ => exact (Any.strconv_Atoi_syntax Tryz.laysC172 s hlim hq ev w hv hev).mono fun e w' ⟨N, he, _, _, hb⟩ => ⟨N, he, hb⟩
theorem bel_bytes (w : World) (s : ByteArray) : Below w.heap.size w (Lib.bytesWorld w 5 s) :=
  ⟨rfl, rfl, rfl, by rw [Lib.bytesWorld_size]; omega, fun k hk => Lib.bytesWorld_at_old w 5 s k hk⟩
theorem atoi_ok (s : ByteArray) (hmax : s.size ≤ 9223372036854775806) (v : Int) (h : Lib.atoiAll s.data.toList = .ok v) (w : World) :
    Calls Tryz.prog 78 #[.string s] w fun e w' => e = .returned (.tuple #[.int .i64 v, .nilIface]) ∧ Below w.heap.size w w' :=
  (Tryz.strconv_Atoi_ok s hmax v h w).mono fun e w' ⟨he, hw⟩ => ⟨he, by
    rcases hw with rfl | ⟨t, rfl⟩
    · exact Below.refl _ _
    · exact bel_bytes w t⟩
theorem itoa_any (n : Int) (h0 : 0 ≤ n) (h1 : n ≤ 255) (w : World) (hv : VarsOk w) :
    Calls Tryz.prog 79 #[.int .i64 n] w fun e w' => e = .returned (.string ⟨(Lib.itoa n).toArray⟩) ∧ Below w.heap.size w w' :=
  (Tryz.strconv_Itoa n (by omega) (by omega) w hv.tab).mono fun e w' ⟨he, k, os, hw⟩ => ⟨he, hw ▸ Lib.below_grow _ w (Nat.le_refl _) k os⟩

set_option maxHeartbeats 1000000 in
set_option maxRecDepth 100000 in
theorem addr_4 (s : ByteArray) (hs : s.size < 4294967281) (hn : (parts s).length = 4) (w : World) (hv : VarsOk w) :
    Calls Tryz.prog 70 #[.string s] w (AddrEnd (addrS s) w) := by
  have hl := parts_len s
  have hst := AddrRow.start w (parts s)
  obtain ⟨m, hm⟩ := hv.maxLen
  have hc : (((Lib.countB s dot + 1 : Nat) : Int) != 4) = false := by rw [bne_eq_false_iff_eq]; omega
  have hcell : ∀ o o', ((w.alloc o).alloc o').cell? ⟨2, 0, none⟩ = some (.int .i64 m) := fun o o' => by
    have hb : Below w.heap.size w ((w.alloc o).alloc o') := ((Below.refl _ _).alloc (Nat.le_refl _) _).alloc (by simp) _
    exact cell_keep hb hm
  have Hn := Lib.hid hn
  have Hl := Lib.hid hl
  have Hc := Lib.hid hcell
  have HS := Lib.hid hst
  have HV := Lib.hid hv
  clear hl hn hv hm hcell hst
  have he : Lib.countB s dot + 1 = 4 := by rw [← Hl.out]; exact Hn.out
  go_enter Tryz.func70, Tryz.ntmps70
  go_wp2_with (go_at_call 77; refine (Tryz.strings_Split s dot m _ hs (Hc.out _ _) (by decide)).mono ?_; rw [he]; rintro e w' ⟨rfl, rfl⟩)
  clear hc
  go_loopw [18] (fun i wr => ∃ k : Nat, k ≤ 4 ∧ i = .int .i64 k ∧ Hid (AddrRow w (parts s) k wr)) (fun i _ => 4 - (intOf i).toNat)
  case atStart => exact ⟨0, Nat.zero_le _, rfl, HS⟩
  case round =>
    obtain ⟨k, hk, rfl, hR⟩ := hrel
    by_cases hlt : k < 4
    · have hsc : wr.cell? ⟨w.heap.size + 1 + 1, k, none⟩ = some (.string ((parts s).getD k ByteArray.empty)) := by
        rw [Blk.cell hR.out.strs]
        have : k < (parts s).length := by rw [Hn.out]; exact hlt
        simp [List.getD, this]
      generalize ht : (parts s).getD k ByteArray.empty = t at hsc
      have Ht := Lib.hid ht
      clear ht
      have htl : t.size ≤ 281474976710656 := by
        have hmem : t ∈ parts s := by
          rw [← Ht.out]
          have hkl : k < (parts s).length := by rw [Hn.out]; exact hlt
          rw [List.getD_eq_getElem?_getD, List.getElem?_eq_getElem hkl]
          exact List.getElem_mem hkl
        have := splitB_size dot _ _ t hmem
        omega
      have hV := HV.out.below hR.out.bel
      cases ha : Lib.atoiAll t.data.toList with
      | range =>
        obtain ⟨te, pe, hrng⟩ := hV.rng
        have Ha := Lib.hid ha
        clear ha
        clear hV
        go_wp2_with (go_at_call 78; refine (Tryz.strconv_Atoi_range t htl Ha.out _ _ hrng (.inr ⟨te, pe, rfl⟩)).mono ?_; rintro e w2 ⟨NN, rfl, hNN, hNc, hb⟩; clear hNN hNc hrng; have q := hR.out.later hb; obtain ⟨⟨q0, q1, q2, q3⟩, r0, r1, r2, r3⟩ := q.zero; have Q := Lib.hid q; clear q hb hsc)
        rw [addrS_bad Hn.out hlt (by rw [Ht.out]; unfold decB; rw [Ha.out])]
        refine bodyPost_ret (v := .tuple #[.agg #[.int .u8 0, .int .u8 0, .int .u8 0, .int .u8 0], .int .i64 91]) (by simp [results, Tryz.results70, go_sem, r0, r1, r2, r3]) rfl ⟨rfl, below_sets Q.out.bel _ _ _ _⟩
      | ok v =>
        have Ha := Lib.hid ha
        clear ha
        have HV1 := Lib.hid hV
        clear hV
        by_cases h0 : v < 0
        · have Hd : Hid (decB t = none) := Lib.hid (by unfold decB; rw [Ha.out]; simp only; rw [if_neg (by omega)])
          go_wp2_with (go_at_call 78; refine (atoi_ok t (by omega) v Ha.out _).mono ?_; rintro e w2 ⟨rfl, hb⟩; have q := hR.out.later hb; obtain ⟨⟨q0, q1, q2, q3⟩, r0, r1, r2, r3⟩ := q.zero; have Q := Lib.hid q; clear q hb hsc)
          rw [addrS_bad Hn.out hlt (by rw [Ht.out]; exact Hd.out)]
          refine bodyPost_ret (v := .tuple #[.agg #[.int .u8 0, .int .u8 0, .int .u8 0, .int .u8 0], .int .i64 91]) (by simp [results, Tryz.results70, go_sem, r0, r1, r2, r3]) rfl ⟨rfl, below_sets Q.out.bel _ _ _ _⟩
        · by_cases h1 : v ≤ 255
          · have hI := fun (w2 : World) (hb : Below wr.heap.size wr w2) => itoa_any v (by omega) h1 w2 (HV1.out.below hb)
            have HI := Lib.hid hI
            clear hI
            by_cases h2 : Lib.itoa v = t.data.toList
            · have Hd : Hid (decB t = some v) := Lib.hid (by unfold decB; rw [Ha.out]; simp only; rw [if_pos (by omega), if_pos h1, if_pos h2])
              have hb2 : (Lib.itoa v == t.toList) = true := by rw [beq_iff_eq, ByteArray.toList_eq]; exact h2
              clear h2
              go_wp2_with (first | (go_at_call 78; refine (atoi_ok t (by omega) v Ha.out _).mono ?_; rintro e w2 ⟨rfl, hb⟩; have HB2 := Lib.hid hb; clear hb hsc) | (go_at_call 79; refine (HI.out _ HB2.out).mono ?_; rintro e w3 ⟨rfl, hb3⟩; have q := (hR.out.later HB2.out).later hb3; have fz := Blk.free q.nums k; obtain ⟨x0, hx0⟩ := q.numcell hlt; have Q := Lib.hid q; clear q hb3 HB2))
              go_roundw
              case rel => exact ⟨k + 1, by omega, by go_num, Lib.hid (Q.out.put hlt (by rw [Ht.out]; exact Hd.out))⟩
              case measure => simp [intOf]; omega
            · have Hd : Hid (decB t = none) := Lib.hid (by unfold decB; rw [Ha.out]; simp only; rw [if_pos (by omega), if_pos h1, if_neg h2])
              have hb2 : (Lib.itoa v == t.toList) = false := by rw [beq_eq_false_iff_ne, ByteArray.toList_eq]; exact h2
              clear h2
              go_wp2_with (first | (go_at_call 78; refine (atoi_ok t (by omega) v Ha.out _).mono ?_; rintro e w2 ⟨rfl, hb⟩; have HB2 := Lib.hid hb; clear hb hsc) | (go_at_call 79; refine (HI.out _ HB2.out).mono ?_; rintro e w3 ⟨rfl, hb3⟩; have q := (hR.out.later HB2.out).later hb3; obtain ⟨⟨q0, q1, q2, q3⟩, r0, r1, r2, r3⟩ := q.zero; have Q := Lib.hid q; clear q hb3 HB2))
              rw [addrS_bad Hn.out hlt (by rw [Ht.out]; exact Hd.out)]
              refine bodyPost_ret (v := .tuple #[.agg #[.int .u8 0, .int .u8 0, .int .u8 0, .int .u8 0], .int .i64 91]) (by simp [results, Tryz.results70, go_sem, r0, r1, r2, r3]) rfl ⟨rfl, below_sets Q.out.bel _ _ _ _⟩
          · have Hd : Hid (decB t = none) := Lib.hid (by unfold decB; rw [Ha.out]; simp only; rw [if_pos (by omega), if_neg h1])
            go_wp2_with (go_at_call 78; refine (atoi_ok t (by omega) v Ha.out _).mono ?_; rintro e w2 ⟨rfl, hb⟩; have q := hR.out.later hb; obtain ⟨⟨q0, q1, q2, q3⟩, r0, r1, r2, r3⟩ := q.zero; have Q := Lib.hid q; clear q hb hsc)
            rw [addrS_bad Hn.out hlt (by rw [Ht.out]; exact Hd.out)]
            refine bodyPost_ret (v := .tuple #[.agg #[.int .u8 0, .int .u8 0, .int .u8 0, .int .u8 0], .int .i64 91]) (by simp [results, Tryz.results70, go_sem, r0, r1, r2, r3]) rfl ⟨rfl, below_sets Q.out.bel _ _ _ _⟩
      | _ =>
        obtain ⟨te, pe, hsyn⟩ := hV.syn
        have Ha1 := Lib.hid (show ∀ v, Lib.atoiAll t.data.toList ≠ .ok v from fun v e => by rw [ha] at e; cases e)
        have Ha2 := Lib.hid (show Lib.atoiAll t.data.toList ≠ .range from fun e => by rw [ha] at e; cases e)
        have Hd : Hid (decB t = none) := Lib.hid (by unfold decB; rw [ha])
        clear ha
        clear hV
        go_wp2_with (go_at_call 78; refine (atoi_bad t htl Ha1.out Ha2.out _ _ hsyn (.inr ⟨te, pe, rfl⟩)).mono ?_; rintro e w2 ⟨NN, rfl, hb⟩; clear hsyn; have q := hR.out.later hb; obtain ⟨⟨q0, q1, q2, q3⟩, r0, r1, r2, r3⟩ := q.zero; have Q := Lib.hid q; clear q hb hsc)
        rw [addrS_bad Hn.out hlt (by rw [Ht.out]; exact Hd.out)]
        refine bodyPost_ret (v := .tuple #[.agg #[.int .u8 0, .int .u8 0, .int .u8 0, .int .u8 0], .int .i64 91]) (by simp [results, Tryz.results70, go_sem, r0, r1, r2, r3]) rfl ⟨rfl, below_sets Q.out.bel _ _ _ _⟩
    · obtain rfl : k = 4 := by omega
      obtain ⟨⟨q0, q1, q2, q3⟩, r0, r1, r2, r3⟩ := hR.out.zero
      have s0 : wr.cell? ⟨w.heap.size + 1, 0, none⟩ = some (.int .u8 (valAt (parts s) 4 0)) := by rw [Blk.cell hR.out.nums]; rfl
      have s1 : wr.cell? ⟨w.heap.size + 1, 1, none⟩ = some (.int .u8 (valAt (parts s) 4 1)) := by rw [Blk.cell hR.out.nums]; rfl
      have s2 : wr.cell? ⟨w.heap.size + 1, 2, none⟩ = some (.int .u8 (valAt (parts s) 4 2)) := by rw [Blk.cell hR.out.nums]; rfl
      have s3 : wr.cell? ⟨w.heap.size + 1, 3, none⟩ = some (.int .u8 (valAt (parts s) 4 3)) := by rw [Blk.cell hR.out.nums]; rfl
      have Hg := Lib.hid (addrS_good Hn.out hR.out.good)
      generalize valAt (parts s) 4 0 = x0 at *
      generalize valAt (parts s) 4 1 = x1 at *
      generalize valAt (parts s) 4 2 = x2 at *
      generalize valAt (parts s) 4 3 = x3 at *
      go_wp2
      rw [Hg.out]
      refine bodyPost_ret (v := .tuple #[.agg #[.int .u8 x0, .int .u8 x1, .int .u8 x2, .int .u8 x3], .int .i64 0]) (by simp [results, Tryz.results70, go_sem, r0, r1, r2, r3]) rfl ⟨rfl, below_sets hR.out.bel _ _ _ _⟩
theorem records_Addr.calls (a0 : ByteArray) (r1 r2 r3 r4 r5 : Int) (w : World) (hv : VarsOk w) (h : records_Addr.f a0 = some (r1, r2, r3, r4, r5)) :
    Calls Tryz.prog 70 #[.string a0] w fun e w' => e = .returned (.tuple #[.agg #[.int .u8 r1, .int .u8 r2, .int .u8 r3, .int .u8 r4], .int .i64 r5]) ∧ Below w.heap.size w w' := by
  unfold records_Addr.f at h
  split at h
  · rename_i hs
    have h := Option.some.inj h
    by_cases hn : (parts a0).length = 4
    · have := addr_4 a0 hs hn w hv
      rw [h] at this
      exact this
    · have h2 : addrS a0 = (0, 0, 0, 0, 91) := by
        unfold addrS
        have : four (parts a0) = none := by
          unfold four
          split
          · rename_i hp; rw [hp] at hn; simp at hn
          · rfl
        rw [this]
      have := addr_not4 a0 hs hn w hv
      rw [← h2, h] at this
      exact this
  · cases h
end Go.Proofs.YtkhgfdlinobabaaGreatDoor.G
