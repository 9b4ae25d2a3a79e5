/- keys.Encode of one part. -/
import Derived.Test.YtejnegabdjpipaaGreatDoorGBuild
import Derived.Test.YtejnegabdjpipaaGreatDoorShelf
import Derived.Test.YtejnegabdjpipaaGreatDoorAmTop
import Derived.Test.YtejnegabdjpipaaGreatDoorChecked
import Derived.WalkKit
import Derived.Lib.Hide
import Derived.LoopTactic
import Derived.Deep.LoopGhost
import Derived.Laws.Rows
import Derived.Shelf.Strings.BuilderK
import Derived.KernelRfl
set_option linter.unusedVariables false
namespace Go.Proofs
open Go.Shelf Go.RowKit Go.Proofs.YtejnegabdjpipaaGreatDoor
set_option maxHeartbeats 1000000 in
theorem Tryz.valid_text (w : World) (s : ByteArray) : Calls Tryz.prog 168 #[.agg #[.int .i64 1, .string s, .int .u64 0]] w fun e w' => e = .returned (.bool true) ∧ Below w.heap.size w w' := by
  go_enter Tryz.func168, Tryz.ntmps168
  go_wp2
  go_ret
  exact ⟨rfl, (Below.refl _ w).alloc (Nat.le_refl _) _⟩
set_option maxHeartbeats 1000000 in
theorem Tryz.valid_num (w : World) (n : Int) : Calls Tryz.prog 168 #[.agg #[.int .i64 2, .string ⟨#[]⟩, .int .u64 n]] w fun e w' => e = .returned (.bool true) ∧ Below w.heap.size w w' := by
  go_enter Tryz.func168, Tryz.ntmps168
  go_wp2
  go_ret
  exact ⟨rfl, (Below.refl _ w).alloc (Nat.le_refl _) _⟩
/-- What a round of the writing keeps. -/
structure Tryz.PutRow (w : World) (B b pb : Nat) (pc : Array Value) (l : List UInt8) (W : World) : Prop where
  bld : Lib.BuilderAtF 267 5 B b (.pointer (some ⟨b, 0, none⟩)) (Lib.byteCells l) W
  below : Below B w W
  part : W.heap[pb]? = some (.cells pc 48 (0, 0))
namespace Tryz.PutRow
variable {w W : World} {B b pb : Nat} {pc : Array Value} {l : List UInt8}
theorem cell (h : Tryz.PutRow w B b pb pc l W) (j : Nat) : W.cell? ⟨pb, j, none⟩ = pc[j]? := Lib.cell_of_heap h.part j
theorem byte (h : Tryz.PutRow w B b pb pc l W) (x : UInt8) {W' : World} (h1 : Lib.BuilderAtF 267 5 B b (.pointer (some ⟨b, 0, none⟩)) (Lib.byteCells l ++ [.int .u8 x.toNat]) W') (h2 : Below B W W') (h3 : Lib.OthersKept 5 (some b) W W') (hne : pb ≠ b) : Tryz.PutRow w B b pb pc (l ++ [x]) W' where
  bld := by simpa [Lib.byteCells] using h1
  below := h.below.trans h2
  part := h3 pb _ h.part (fun e => hne (Option.some.inj e)) (fun c fz e => by cases e)
theorem num (h : Tryz.PutRow w B b pb pc l W) (x : UInt8) {c : Int} {W' : World} (h1 : Lib.BuilderAtF 267 5 B b (.pointer (some ⟨b, 0, none⟩)) (Lib.byteCells l ++ [.int .u8 c]) W') (h2 : Below B W W') (h3 : Lib.OthersKept 5 (some b) W W') (hne : pb ≠ b) (hc : c = (x.toNat : Int)) : Tryz.PutRow w B b pb pc (l ++ [x]) W' := by
  subst hc; exact h.byte x h1 h2 h3 hne
end Tryz.PutRow
/-- One byte of a number. -/
def Tryz.numByte (n d : Int) : UInt8 := UInt8.ofNat ((n / d) % 256).toNat
theorem Tryz.numByte_val (n d : Int) : ((Tryz.numByte n d).toNat : Int) = n / d % 256 := by
  simp only [Tryz.numByte, UInt8.toNat_ofNat']
  omega
theorem Tryz.esc_len (l : List UInt8) : (AM.escText l).length ≤ 2 * l.length := by
  induction l with
  | nil => exact Nat.le_refl _
  | cons a l ih => simp only [AM.escText, List.length_cons]; split <;> simp only [List.length_cons] <;> omega
theorem Tryz.esc_snoc (l : List UInt8) (x : UInt8) : AM.escText (l ++ [x]) = AM.escText l ++ (if x = 0 then [0, 255] else [x]) := by
  induction l with
  | nil => simp only [List.nil_append, AM.escText]
  | cons a l ih => simp only [List.cons_append, AM.escText, ih]; split <;> rfl
theorem Tryz.take_snoc (s : ByteArray) (k : Nat) (h : k < s.size) : s.data.toList.take (k + 1) = s.data.toList.take k ++ [s[k]] := by
  rw [List.take_add_one]
  have h2 : k < s.data.toList.length := by simpa using h
  rw [List.getElem?_eq_getElem h2]
  simp
  rfl
set_option maxHeartbeats 2000000 in
set_option maxRecDepth 100000 in
theorem Tryz.write_text (w : World) (B b : Nat) (s : ByteArray) (hs : s.size ≤ 1048576) (h : Lib.IsBuilderF 267 5 B b [] w) (hB : B ≤ w.heap.size) :
    Calls Tryz.prog 169 #[.pointer (some ⟨b, 0, none⟩), .agg #[.int .i64 1, .string s, .int .u64 0], .bool false] w fun e w' => e = .returned (.tuple #[]) ∧ Lib.IsBuilderF 267 5 B b (Lib.byteCells (1 :: AM.tailText s.data.toList)) w' ∧ Below B w w' := by
  go_enter Tryz.func169, Tryz.ntmps169
  go_wp2_with (go_at_call 199; refine (Tryz.b_writeByte B b [] 1 _ (h.alloc _) (by simp) (by simp; omega)).mono ?_)
  rintro e w1 ⟨rfl, h1, hb1, hk1⟩
  have hlt : b < w.heap.size := h.elim (fun h => h.lt) (fun h => h.lt)
  have R0 : Tryz.PutRow w B b w.heap.size #[.int .i64 1, .string s, .int .u64 0] [1] w1 := ⟨h1, ((Below.refl B w).alloc hB _).trans hb1, hk1 _ _ (heap_alloc_new w _) (fun e => by have := Option.some.inj e; omega) (fun c fz e => by cases e)⟩
  have c0 := R0.cell 0
  have c1 := R0.cell 1
  simp only [List.getElem?_toArray, List.getElem?_cons_zero, List.getElem?_cons_succ] at c0 c1
  have HR := Lib.hid R0
  clear R0 h1 hb1 hk1
  go_wp2
  go_loopw [20] (fun i wr => ∃ k : Nat, k ≤ s.size ∧ i = .int .i64 k ∧ Hid (Tryz.PutRow w B b w.heap.size #[.int .i64 1, .string s, .int .u64 0] (1 :: AM.escText (s.data.toList.take k)) wr)) (fun i _ => s.size - (intOf i).toNat)
  case atStart => exact ⟨0, Nat.zero_le _, rfl, HR⟩
  case round =>
    obtain ⟨k, hk, rfl, hR⟩ := hrel
    have c1 := hR.out.cell 1
    simp only [List.getElem?_toArray, List.getElem?_cons_zero, List.getElem?_cons_succ] at c1
    have hlen : (Lib.byteCells (1 :: AM.escText (s.data.toList.take k))).length ≤ 2 * k + 1 := by
      have h1 := (Tryz.esc_len (s.data.toList.take k))
      have h2 : (s.data.toList.take k).length ≤ k := by simp; omega
      rw [Lib.byteCells_length, List.length_cons]; omega
    have hBr : B ≤ wr.heap.size := Nat.le_trans hB hR.out.below.size
    by_cases hlt2 : k < s.size
    · have hnx : AM.escText (s.data.toList.take (k + 1)) = AM.escText (s.data.toList.take k) ++ (if s[k] = 0 then [0, 255] else [s[k]]) := by
        rw [← Tryz.esc_snoc, ← Tryz.take_snoc s k hlt2]
      have Hn := Lib.hid hnx
      clear hnx
      go_wp2_with (go_at_call 199; refine (Tryz.b_writeByte B b _ _ wr (.inr hR.out.bld) (by omega) hBr).mono ?_)
      rintro e w2 ⟨rfl, h1, hb1, hk1⟩
      have R1 := hR.out.byte s[k] h1 hb1 hk1 (by omega)
      have c1 := R1.cell 1
      simp only [List.getElem?_toArray, List.getElem?_cons_zero, List.getElem?_cons_succ] at c1
      have HR1 := Lib.hid R1
      have hlen1 : (Lib.byteCells (1 :: AM.escText (s.data.toList.take k) ++ [s[k]])).length ≤ 2 * k + 2 := by
        rw [Lib.byteCells_length] at hlen ⊢; simp only [List.length_append, List.length_cons, List.length_nil] at hlen ⊢; omega
      have hBr1 : B ≤ w2.heap.size := Nat.le_trans hB R1.below.size
      clear R1 h1 hb1 hk1
      by_cases hz : s[k] = 0
      · have hz2 : ((s[k].toNat : Nat) : Int) = 0 := by rw [hz]; rfl
        have Hz := Lib.hid hz
        clear hz
        go_wp2_with (go_at_call 199; refine (Tryz.b_writeByte B b _ _ w2 (.inr HR1.out.bld) (by omega) hBr1).mono ?_)
        rintro e w3 ⟨rfl, h1, hb1, hk1⟩
        have HR2 := Lib.hid (HR1.out.byte 255 h1 hb1 hk1 (by omega))
        clear h1 hb1 hk1
        go_wp2
        go_roundw
        case rel => exact ⟨k + 1, by omega, by go_num, Lib.hid (by
          have := HR2.out
          rw [Hn.out, if_pos Hz.out]
          rw [Hz.out] at this
          simpa using this)⟩
        case measure => simp [intOf]; omega
      · have hz2 : ((s[k].toNat : Nat) : Int) ≠ 0 := fun e => hz (UInt8.toNat_inj.1 (by simpa using e))
        have Hz := Lib.hid hz
        clear hz
        go_wp2
        go_roundw
        case rel => exact ⟨k + 1, by omega, by go_num, Lib.hid (by
          have := HR1.out
          rw [Hn.out, if_neg Hz.out]
          simpa using this)⟩
        case measure => simp [intOf]; omega
    · obtain rfl : k = s.size := by omega
      have hall : s.data.toList.take s.size = s.data.toList := List.take_of_length_le (by show s.data.toList.length ≤ s.data.size; simp)
      rw [hall] at hR hlen
      go_wp2_with (go_at_call 200; refine (Tryz.b_writeString B b _ ⟨#[0, 1]⟩ wr (.inr hR.out.bld) (by show _ + 2 ≤ _; omega) hBr).mono ?_)
      rintro e w2 ⟨rfl, h1, hb1, hk1⟩
      go_wp2
      go_end0
      exact ⟨rfl, .inr (by simpa [Lib.byteCells, AM.tailText, Lib.strCells] using h1), hR.out.below.trans hb1⟩
set_option maxHeartbeats 2000000 in
set_option maxRecDepth 100000 in
theorem Tryz.write_num (w : World) (B b : Nat) (n : Int) (h0 : 0 ≤ n) (hn : n < 18446744073709551616) (h : Lib.IsBuilderF 267 5 B b [] w) (hB : B ≤ w.heap.size) :
    Calls Tryz.prog 169 #[.pointer (some ⟨b, 0, none⟩), .agg #[.int .i64 2, .string ⟨#[]⟩, .int .u64 n], .bool false] w fun e w' => e = .returned (.tuple #[]) ∧ Lib.IsBuilderF 267 5 B b (Lib.byteCells (2 :: AM.tailNum n)) w' ∧ Below B w w' := by
  go_enter Tryz.func169, Tryz.ntmps169
  go_wp2_with (go_at_call 199; refine (Tryz.b_writeByte B b [] 2 _ (h.alloc _) (by simp) (by simp; omega)).mono ?_)
  rintro e w1 ⟨rfl, h1, hb1, hk1⟩
  have hlt : b < w.heap.size := h.elim (fun h => h.lt) (fun h => h.lt)
  have R0 : Tryz.PutRow w B b w.heap.size #[.int .i64 2, .string ⟨#[]⟩, .int .u64 n] [2] w1 := ⟨h1, ((Below.refl B w).alloc hB _).trans hb1, hk1 _ _ (heap_alloc_new w _) (fun e => by have := Option.some.inj e; omega) (fun c fz e => by cases e)⟩
  have c0 := R0.cell 0
  have c1 := R0.cell 2
  simp only [List.getElem?_toArray, List.getElem?_cons_zero, List.getElem?_cons_succ] at c0 c1
  have HR0 := Lib.hid R0
  clear R0 h1 hb1 hk1
  go_wp2
  clear c0
  refine wp_loop_rounds 9 ?_
  rw [rounds_succ]
  go_wp2_with (go_at_call 199; refine (Tryz.b_writeByte B b _ _ _ (.inr HR0.out.bld) (by simp [Lib.byteCells]) (Nat.le_trans hB HR0.out.below.size)).mono ?_)
  rintro e w2 ⟨rfl, hw, hb1, hk1⟩
  have HR1 := Lib.hid (HR0.out.num (Tryz.numByte n 72057594037927936) hw hb1 hk1 (by omega) (by first | exact (Tryz.numByte_val _ _).symm | (rw [Tryz.numByte_val]; omega)))
  clear c1 hw hb1 hk1
  have c1 := HR1.out.cell 2
  simp only [List.getElem?_toArray, List.getElem?_cons_zero, List.getElem?_cons_succ] at c1
  go_wp2
  rw [rounds_succ]
  go_wp2_with (go_at_call 199; refine (Tryz.b_writeByte B b _ _ _ (.inr HR1.out.bld) (by simp [Lib.byteCells]) (Nat.le_trans hB HR1.out.below.size)).mono ?_)
  rintro e w3 ⟨rfl, hw, hb1, hk1⟩
  have HR2 := Lib.hid (HR1.out.num (Tryz.numByte n 281474976710656) hw hb1 hk1 (by omega) (by first | exact (Tryz.numByte_val _ _).symm | (rw [Tryz.numByte_val]; omega)))
  clear c1 hw hb1 hk1
  have c1 := HR2.out.cell 2
  simp only [List.getElem?_toArray, List.getElem?_cons_zero, List.getElem?_cons_succ] at c1
  go_wp2
  rw [rounds_succ]
  go_wp2_with (go_at_call 199; refine (Tryz.b_writeByte B b _ _ _ (.inr HR2.out.bld) (by simp [Lib.byteCells]) (Nat.le_trans hB HR2.out.below.size)).mono ?_)
  rintro e w4 ⟨rfl, hw, hb1, hk1⟩
  have HR3 := Lib.hid (HR2.out.num (Tryz.numByte n 1099511627776) hw hb1 hk1 (by omega) (by first | exact (Tryz.numByte_val _ _).symm | (rw [Tryz.numByte_val]; omega)))
  clear c1 hw hb1 hk1
  have c1 := HR3.out.cell 2
  simp only [List.getElem?_toArray, List.getElem?_cons_zero, List.getElem?_cons_succ] at c1
  go_wp2
  rw [rounds_succ]
  go_wp2_with (go_at_call 199; refine (Tryz.b_writeByte B b _ _ _ (.inr HR3.out.bld) (by simp [Lib.byteCells]) (Nat.le_trans hB HR3.out.below.size)).mono ?_)
  rintro e w5 ⟨rfl, hw, hb1, hk1⟩
  have HR4 := Lib.hid (HR3.out.num (Tryz.numByte n 4294967296) hw hb1 hk1 (by omega) (by first | exact (Tryz.numByte_val _ _).symm | (rw [Tryz.numByte_val]; omega)))
  clear c1 hw hb1 hk1
  have c1 := HR4.out.cell 2
  simp only [List.getElem?_toArray, List.getElem?_cons_zero, List.getElem?_cons_succ] at c1
  go_wp2
  rw [rounds_succ]
  go_wp2_with (go_at_call 199; refine (Tryz.b_writeByte B b _ _ _ (.inr HR4.out.bld) (by simp [Lib.byteCells]) (Nat.le_trans hB HR4.out.below.size)).mono ?_)
  rintro e w6 ⟨rfl, hw, hb1, hk1⟩
  have HR5 := Lib.hid (HR4.out.num (Tryz.numByte n 16777216) hw hb1 hk1 (by omega) (by first | exact (Tryz.numByte_val _ _).symm | (rw [Tryz.numByte_val]; omega)))
  clear c1 hw hb1 hk1
  have c1 := HR5.out.cell 2
  simp only [List.getElem?_toArray, List.getElem?_cons_zero, List.getElem?_cons_succ] at c1
  go_wp2
  rw [rounds_succ]
  go_wp2_with (go_at_call 199; refine (Tryz.b_writeByte B b _ _ _ (.inr HR5.out.bld) (by simp [Lib.byteCells]) (Nat.le_trans hB HR5.out.below.size)).mono ?_)
  rintro e w7 ⟨rfl, hw, hb1, hk1⟩
  have HR6 := Lib.hid (HR5.out.num (Tryz.numByte n 65536) hw hb1 hk1 (by omega) (by first | exact (Tryz.numByte_val _ _).symm | (rw [Tryz.numByte_val]; omega)))
  clear c1 hw hb1 hk1
  have c1 := HR6.out.cell 2
  simp only [List.getElem?_toArray, List.getElem?_cons_zero, List.getElem?_cons_succ] at c1
  go_wp2
  rw [rounds_succ]
  go_wp2_with (go_at_call 199; refine (Tryz.b_writeByte B b _ _ _ (.inr HR6.out.bld) (by simp [Lib.byteCells]) (Nat.le_trans hB HR6.out.below.size)).mono ?_)
  rintro e w8 ⟨rfl, hw, hb1, hk1⟩
  have HR7 := Lib.hid (HR6.out.num (Tryz.numByte n 256) hw hb1 hk1 (by omega) (by first | exact (Tryz.numByte_val _ _).symm | (rw [Tryz.numByte_val]; omega)))
  clear c1 hw hb1 hk1
  have c1 := HR7.out.cell 2
  simp only [List.getElem?_toArray, List.getElem?_cons_zero, List.getElem?_cons_succ] at c1
  go_wp2
  rw [rounds_succ]
  go_wp2_with (go_at_call 199; refine (Tryz.b_writeByte B b _ _ _ (.inr HR7.out.bld) (by simp [Lib.byteCells]) (Nat.le_trans hB HR7.out.below.size)).mono ?_)
  rintro e w9 ⟨rfl, hw, hb1, hk1⟩
  have HR8 := Lib.hid (HR7.out.num (Tryz.numByte n 1) hw hb1 hk1 (by omega) (by first | exact (Tryz.numByte_val _ _).symm | (rw [Tryz.numByte_val]; omega)))
  clear c1 hw hb1 hk1
  have c1 := HR8.out.cell 2
  simp only [List.getElem?_toArray, List.getElem?_cons_zero, List.getElem?_cons_succ] at c1
  go_wp2
  rw [rounds_succ]
  go_wp2
  go_end0
  exact ⟨rfl, .inr (by simpa [AM.tailNum, Tryz.numByte] using HR8.out.bld), HR8.out.below⟩
set_option maxHeartbeats 2000000 in
set_option maxRecDepth 100000 in
theorem Tryz.whole_one (w : World) (b o cap : Nat) (kd : Int) (s : ByteArray) (n : Int) (l : List UInt8) (hl : l ≠ []) (hl2 : l.length ≤ 1024) (h0 : w.cell? ⟨b, o, none⟩ = some (.int .i64 kd)) (h1 : w.cell? ⟨b, o + 1, none⟩ = some (.string s)) (h2 : w.cell? ⟨b, o + 2, none⟩ = some (.int .u64 n)) (hc : 1 ≤ cap)
    (hv : ∀ w, Calls Tryz.prog 168 #[.agg #[.int .i64 kd, .string s, .int .u64 n]] w fun e w' => e = .returned (.bool true) ∧ Below w.heap.size w w')
    (hw : ∀ (w : World) (B bb : Nat), Lib.IsBuilderF 267 5 B bb [] w → B ≤ w.heap.size → Calls Tryz.prog 169 #[.pointer (some ⟨bb, 0, none⟩), .agg #[.int .i64 kd, .string s, .int .u64 n], .bool false] w fun e w' => e = .returned (.tuple #[]) ∧ Lib.IsBuilderF 267 5 B bb (Lib.byteCells l) w' ∧ Below B w w') :
    Calls Tryz.prog 142 #[.slice (some ⟨b, o, none⟩) 1 cap, .bool false] w fun e w' => e = .returned (.tuple #[.string ⟨l.toArray⟩, .int .i64 0]) ∧ Below w.heap.size w w' := by
  go_enter Tryz.func142, Tryz.ntmps142
  go_wp2
  refine wp_loop_rounds 2 ?_
  rw [rounds_succ]
  go_wp2_with (go_at_call 168; refine (hv _).mono ?_)
  rintro e w1 ⟨rfl, hb1⟩
  have hlt : b < w.heap.size := by
    rcases Nat.lt_or_ge b w.heap.size with h' | h'
    · exact h'
    · simp [World.cell?, Array.getElem?_eq_none h'] at h0
  have B1 : Below w.heap.size w w1 := ((Below.refl _ w).alloc (Nat.le_refl _) _).trans (hb1.mono (by simp))
  have h0 := (B1.cell (p := ⟨b, o, none⟩) hlt).trans h0
  have h1 := (B1.cell (p := ⟨b, o + 1, none⟩) hlt).trans h1
  have h2 := (B1.cell (p := ⟨b, o + 2, none⟩) hlt).trans h2
  have hs1 : w.heap.size < w1.heap.size := by have := hb1.size; simp at this; omega
  go_wp2
  rw [rounds_succ]
  go_wp2
  have h3 : b < w1.heap.size := by omega
  refine wp_loop_rounds 2 ?_
  rw [rounds_succ]
  go_wp2_with (go_at_call 169; refine (hw _ w1.heap.size w1.heap.size ((Lib.IsBuilderF.of (Lib.fresh_isBuilder 267 5 w1)).alloc _) (by simp; omega)).mono ?_)
  rintro e w2 ⟨rfl, hbl, hb2⟩
  go_wp2
  rw [rounds_succ]
  go_wp2_with (go_at_call 170; refine (Tryz.Builder_Len_f w1.heap.size w1.heap.size _ _ hbl).mono ?_)
  rintro e w3 ⟨rfl, rfl⟩
  rw [Lib.byteCells_length]
  go_wp2_with (go_at_call 171; refine (Tryz.Builder_String_any_f w1.heap.size w1.heap.size l _ hbl (by have := hb2.size; simp at this; omega)).mono ?_)
  rintro e w4 ⟨rfl, _, hb4⟩
  go_wp2
  go_ret2
  exact ⟨rfl, B1.trans ((((Below.refl _ w1).alloc (Nat.le_refl _) _).alloc (by simp) _).trans hb2 |>.trans hb4 |>.mono (by omega))⟩
set_option maxHeartbeats 1000000 in
theorem Tryz.enc_one (w : World) (v : Value) (l : List UInt8) (h : Calls Tryz.prog 142 #[v, .bool false] w fun e w' => e = .returned (.tuple #[.string ⟨l.toArray⟩, .int .i64 0]) ∧ Below w.heap.size w w') :
    Calls Tryz.prog 98 #[v] w fun e w' => e = .returned (.tuple #[.string ⟨l.toArray⟩, .int .i64 0]) ∧ Below w.heap.size w w' := by
  go_enter Tryz.func98, Tryz.ntmps98
  go_wp2_with (go_at_call 142; refine h.mono ?_)
  rintro e w1 ⟨rfl, hb⟩
  go_wp2
  go_ret2
  exact ⟨rfl, hb⟩
theorem Tryz.enc_text (w : World) (b o cap : Nat) (s : List UInt8) (h1 : 1 ≤ s.length) (h2 : s.length ≤ 100) (c0 : w.cell? ⟨b, o, none⟩ = some (.int .i64 1)) (c1 : w.cell? ⟨b, o + 1, none⟩ = some (.string ⟨s.toArray⟩)) (c2 : w.cell? ⟨b, o + 2, none⟩ = some (.int .u64 0)) (hc : 1 ≤ cap) :
    Calls Tryz.prog 98 #[.slice (some ⟨b, o, none⟩) 1 cap] w fun e w' => e = .returned (.tuple #[.string ⟨(1 :: AM.tailText s).toArray⟩, .int .i64 0]) ∧ Below w.heap.size w w' :=
  Tryz.enc_one w _ _ (Tryz.whole_one w b o cap 1 ⟨s.toArray⟩ 0 (1 :: AM.tailText s) (by simp) (by
    have := Tryz.esc_len s
    simp only [AM.tailText, List.length_cons, List.length_append, List.length_nil]; omega) c0 c1 c2 hc (fun w => Tryz.valid_text w _) (fun w B bb hi hB => by
    simpa using Tryz.write_text w B bb ⟨s.toArray⟩ (by show s.toArray.size ≤ _; simp; omega) hi hB))
theorem Tryz.wrap64 (n : Int) : IntKind.u64.wrap n = n % 18446744073709551616 := by
  simp [IntKind.wrap, IntKind.bits, IntKind.signed]
theorem Tryz.wrap_tail (n : Int) : AM.tailNum (IntKind.u64.wrap n) = AM.tailNum n := by
  rw [Tryz.wrap64]
  simp only [AM.tailNum, List.map_cons, List.map_nil]
  have e : ∀ d c : Int, n % 18446744073709551616 / d % 256 = c → UInt8.ofNat (n % 18446744073709551616 / d % 256).toNat = UInt8.ofNat c.toNat := fun d c h => by rw [h]
  rw [e (2 ^ 56) (n / 2 ^ 56 % 256) (by omega), e (2 ^ 48) (n / 2 ^ 48 % 256) (by omega), e (2 ^ 40) (n / 2 ^ 40 % 256) (by omega), e (2 ^ 32) (n / 2 ^ 32 % 256) (by omega), e (2 ^ 24) (n / 2 ^ 24 % 256) (by omega), e (2 ^ 16) (n / 2 ^ 16 % 256) (by omega), e (2 ^ 8) (n / 2 ^ 8 % 256) (by omega), e (2 ^ 0) (n / 2 ^ 0 % 256) (by omega)]
theorem Tryz.enc_num (w : World) (b o cap : Nat) (n : Int) (c0 : w.cell? ⟨b, o, none⟩ = some (.int .i64 2)) (c1 : w.cell? ⟨b, o + 1, none⟩ = some (.string ⟨#[]⟩)) (c2 : w.cell? ⟨b, o + 2, none⟩ = some (.int .u64 (IntKind.u64.wrap n))) (hc : 1 ≤ cap) :
    Calls Tryz.prog 98 #[.slice (some ⟨b, o, none⟩) 1 cap] w fun e w' => e = .returned (.tuple #[.string ⟨(2 :: AM.tailNum n).toArray⟩, .int .i64 0]) ∧ Below w.heap.size w w' := by
  have hw := Tryz.wrap64 n
  have := Tryz.whole_one w b o cap 2 ⟨#[]⟩ (IntKind.u64.wrap n) (2 :: AM.tailNum (IntKind.u64.wrap n)) (by simp) (by simp [AM.tailNum]) c0 c1 c2 hc (fun w => Tryz.valid_num w _) (fun w B bb hi hB => Tryz.write_num w B bb _ (by rw [hw]; omega) (by rw [hw]; omega) hi hB)
  rw [Tryz.wrap_tail] at this
  exact Tryz.enc_one w _ _ this
theorem Tryz.pfx (w : World) (s t : List UInt8) : Calls Tryz.prog 71 #[.string ⟨s.toArray⟩, .string ⟨t.toArray⟩] w fun e w' => e = .returned (.bool (decide (t <+: s))) ∧ Below w.heap.size w w' :=
  (Tryz.strings_HasPrefix ⟨s.toArray⟩ ⟨t.toArray⟩ w).mono fun e w' ⟨h1, h2⟩ => by
    subst h2
    refine ⟨?_, Below.refl _ _⟩
    rw [h1]
    show Ending.returned (.bool (t.isPrefixOf s)) = _
    rw [show t.isPrefixOf s = decide (t <+: s) by rw [Bool.eq_iff_iff, List.isPrefixOf_iff_prefix, decide_eq_true_iff]]
set_option maxHeartbeats 1000000 in
theorem Tryz.clone (w : World) (s : ByteArray) (hs : s.size ≤ 1048576) : Calls Tryz.prog 103 #[.string s] w fun e w' => e = .returned (.string s) ∧ Below w.heap.size w w' := by
  go_enter Tryz.func103, Tryz.ntmps103
  go_wp2_with (go_at_call 147; refine (Tryz.stringslite_Clone s _ (by omega)).mono ?_)
  rintro e w1 ⟨rfl, hb⟩
  go_wp2
  go_ret
  exact ⟨rfl, hb⟩
end Go.Proofs
