/- journal.reader in general: take, num, text answer or throw. -/
import Derived.Test.YtkhgfdlinobabaaGreatDoorJPay
import Derived.Laws.BytesArg
import Derived.WalkSmall
namespace Go.Proofs.YtkhgfdlinobabaaGreatDoor.G
open Go.RowKit
set_option linter.unusedVariables false
set_option linter.unusedSimpArgs false
/-- A list of bytes in a block below base. -/
def BytesLow (base : Nat) (w : World) (v : Value) (l : List UInt8) : Prop :=
  ∃ A cap, v = .slice A l.length cap ∧ l.length ≤ cap ∧ (l ≠ [] → ∃ b o, b < base ∧ A = some ⟨b, o, none⟩ ∧ ∀ j, j < l.length → w.cell? ⟨b, o + j, none⟩ = some (.int .u8 ((l.getD j 0).toNat : Int)))
theorem BytesLow.at_ {base : Nat} {w : World} {v : Value} {l : List UInt8} (h : BytesLow base w v l) : BytesAt w v l := by
  obtain ⟨A, cap, hv, hc, hx⟩ := h
  refine ⟨A, cap, hv, hc, fun hn => ?_⟩
  obtain ⟨b, o, _, hA, hcell⟩ := hx hn
  exact ⟨b, o, hA, hcell⟩
theorem BytesLow.of_at {w : World} {v : Value} {l : List UInt8} (h : BytesAt w v l) : BytesLow w.heap.size w v l := by
  obtain ⟨A, cap, hv, hc, hx⟩ := h
  refine ⟨A, cap, hv, hc, fun hn => ?_⟩
  obtain ⟨b, o, hA, hcell⟩ := hx hn
  exact ⟨b, o, World.block_lt_of_cell? w _ (hcell 0 (List.length_pos_iff.2 hn)), hA, hcell⟩
theorem BytesLow.keep {base : Nat} {w w' : World} {v : Value} {l : List UInt8} (h : BytesLow base w v l) (hb : ∀ k, k < base → w'.heap[k]? = w.heap[k]?) : BytesLow base w' v l := by
  obtain ⟨A, cap, hv, hc, hx⟩ := h
  refine ⟨A, cap, hv, hc, fun hn => ?_⟩
  obtain ⟨b, o, hlt, hA, hcell⟩ := hx hn
  exact ⟨b, o, hlt, hA, fun j hj => (World.cell?_of_block (hb b hlt)).trans (hcell j hj)⟩
theorem BytesLow.mono {base base' : Nat} {w : World} {v : Value} {l : List UInt8} (h : BytesLow base w v l) (hb : base ≤ base') : BytesLow base' w v l := by
  obtain ⟨A, cap, hv, hc, hx⟩ := h
  refine ⟨A, cap, hv, hc, fun hn => ?_⟩
  obtain ⟨b, o, hlt, hA, hcell⟩ := hx hn
  exact ⟨b, o, by omega, hA, hcell⟩
theorem BytesLow.take {base : Nat} {w : World} {A : Option Addr} {c : Nat} {l : List UInt8} (h : BytesLow base w (.slice A l.length c) l) (n : Nat) (hn : n ≤ l.length) : BytesLow base w (.slice A n c) (l.take n) := by
  obtain ⟨A', c', hv, hc, hx⟩ := h
  injection hv with h1 h2 h3
  subst h1 h3
  have hlen : (l.take n).length = n := by rw [List.length_take]; omega
  refine ⟨A, c, by rw [hlen], by rw [hlen]; omega, fun hne => ?_⟩
  obtain ⟨b, o, hlt, hA, hcell⟩ := hx (by rintro rfl; simp at hne)
  refine ⟨b, o, hlt, hA, fun j hj => ?_⟩
  rw [hlen] at hj
  rw [hcell j (by omega)]
  simp [List.getD, List.getElem?_take, hj]
theorem BytesLow.drop {base : Nat} {w : World} {A : Option Addr} {c : Nat} {l : List UInt8} (h : BytesLow base w (.slice A l.length c) l) (n : Nat) (hn : n ≤ l.length) : BytesLow base w (.slice (A.map (·.add n)) (l.length - n) (c - n)) (l.drop n) := by
  obtain ⟨A', c', hv, hc, hx⟩ := h
  injection hv with h1 h2 h3
  subst h1 h3
  refine ⟨_, _, by rw [List.length_drop], by rw [List.length_drop]; omega, fun hne => ?_⟩
  obtain ⟨b, o, hlt, hA, hcell⟩ := hx (by rintro rfl; simp at hne)
  subst hA
  refine ⟨b, o + n, hlt, by simp [Addr.add], fun j hj => ?_⟩
  rw [List.length_drop] at hj
  have := hcell (n + j) (by omega)
  rw [show o + n + j = o + (n + j) from by omega, this]
  simp [List.getD]
theorem BytesLow.none_ (base : Nat) (w : World) (A : Option Addr) (c : Nat) : BytesLow base w (.slice A 0 c) [] := ⟨A, c, rfl, Nat.zero_le _, fun h => absurd rfl h⟩
theorem BytesLow.form {base : Nat} {w : World} {v : Value} {l : List UInt8} (h : BytesLow base w v l) : ∃ A c, v = .slice A l.length c := by obtain ⟨A, c, hv, _⟩ := h; exact ⟨A, c, hv⟩
/-- What the reader throws. -/
abbrev torn : List PanicEntry := [{ v := .iface 106 (.agg #[]), recovered := false }]
theorem grown_set (w : World) (g : Nat) (v : Value) : w.grownBy (w.setCell ⟨g, 0, none⟩ v) (some g) :=
  ⟨rfl, rfl, rfl, by rw [size_setCell]; exact Nat.le_refl _, fun k _ hk => set_far v (fun e => hk (by rw [e])) rfl⟩
theorem grown_refl (w : World) (r : Option Nat) : w.grownBy w r := ⟨rfl, rfl, rfl, Nat.le_refl _, fun _ _ _ => rfl⟩
theorem grown_trans {w w1 w2 : World} {g : Nat} (h : w.grownBy w1 (some g)) (k : w1.grownBy w2 (some g)) : w.grownBy w2 (some g) :=
  ⟨k.os.trans h.os, k.tape.trans h.tape, k.output.trans h.output, Nat.le_trans h.size k.size, fun i hi hn => (k.block i (Nat.lt_of_lt_of_le hi h.size) hn).trans (h.block i hi hn)⟩
/-- The reader stands ahead of the bytes l. -/
structure Rd (base g : Nat) (w : World) (l : List UInt8) : Prop where
  ex : ∃ v, w.heap[g]? = some (.cells #[v] 83 (0, 0)) ∧ BytesLow base w v l
  lt : base ≤ g
def TakePost (base g : Nat) (l : List UInt8) (n : Nat) (w : World) (e : Ending) (w' : World) : Prop :=
  (l.length < n ∧ e = .panicked torn ∧ w' = w) ∨ (n ≤ l.length ∧ ∃ v1 v2, e = .returned v1 ∧ w' = w.setCell ⟨g, 0, none⟩ v2 ∧ BytesLow base w v1 (l.take n) ∧ Rd base g w' (l.drop n))
def NumPost (base g : Nat) (l : List UInt8) (n : Nat) (w : World) (e : Ending) (w' : World) : Prop :=
  (rdNum n l = none ∧ e = .panicked torn ∧ w' = w) ∨ (∃ (x : Nat) (l' : List UInt8), rdNum n l = some (x, l') ∧ x < 256 ^ n ∧ l'.length ≤ l.length ∧ e = .returned (.int .u64 (x : Int)) ∧ w.grownBy w' (some g) ∧ w'.heap.size = w.heap.size ∧ Rd base g w' l')
def TextPost (base g : Nat) (l : List UInt8) (w : World) (e : Ending) (w' : World) : Prop :=
  (rdText l = none ∧ e = .panicked torn ∧ w.grownBy w' (some g)) ∨ (∃ (s : ByteArray) (l' : List UInt8), rdText l = some (s, l') ∧ s.size ≤ 255 ∧ l'.length ≤ l.length ∧ e = .returned (.string s) ∧ w.grownBy w' (some g) ∧ w'.heap.size = w.heap.size ∧ Rd base g w' l')
set_option maxHeartbeats 4000000 in
set_option maxRecDepth 100000 in
theorem take_any (base g : Nat) (l : List UInt8) (n : Nat) (hl : l.length ≤ 140737488355328) (hn63 : n ≤ 140737488355328) (w : World) (h : Rd base g w l) :
    Calls Tryz.prog 38 #[.pointer (some ⟨g, 0, none⟩), .int .i64 n] w (TakePost base g l n w) := by
  obtain ⟨⟨v, hg, hb⟩, hlt⟩ := h
  have HB := Lib.hid hb
  obtain ⟨A, cap, rfl, hcap, hx⟩ := hb
  have HX := Lib.hid hx
  have c0 := Blk.cell hg 0
  have f0 := Blk.free hg 0
  simp only [List.getElem?_toArray, List.getElem?_cons_zero, List.getElem?_cons_succ] at c0
  have HG := Lib.hid hg
  have t2 : l.length ≤ 9223372036854775807 := by omega
  have t3 : n ≤ 9223372036854775807 := by omega
  clear hx hg
  by_cases hn : n ≤ l.length
  · have t1 : decide ((l.length : Int) < n) = false := decide_eq_false (by omega)
    have fin : ∀ v2, BytesLow base w v2 (l.drop n) → Hid (Rd base g (w.setCell ⟨g, 0, none⟩ v2) (l.drop n)) := fun v2 h2 =>
      Lib.hid ⟨⟨v2, (set_blk v2 HG.out).trans rfl, h2.keep fun k hk => set_far v2 (show k ≠ g from by omega) rfl⟩, hlt⟩
    have FIN := Lib.hid fin
    clear fin
    go_enter Tryz.func38, Tryz.ntmps38
    go_wp2
    · have e : l.length - n = 0 := by omega
      have e2 : l.drop n = [] := List.drop_eq_nil_of_le (by omega)
      obtain rfl : cap = n := by assumption
      go_ret
      apply Or.inr; refine ⟨hn, _, _, rfl, rfl, HB.out.take _ hn, (FIN.out _ ?_).out⟩
      rw [e, e2]
      exact BytesLow.none_ _ _ _ _
    · go_ret
      apply Or.inr; exact ⟨hn, _, _, rfl, rfl, HB.out.take _ hn, (FIN.out _ (HB.out.drop _ hn)).out⟩
  · have t1 : decide ((l.length : Int) < n) = true := decide_eq_true (by omega)
    go_enter Tryz.func38, Tryz.ntmps38
    go_wp2
    exact ⟨rfl, .inl ⟨by omega, rfl, rfl⟩⟩
theorem rdNum_some {n : Nat} {l : List UInt8} (h : n ≤ l.length) : rdNum n l = some (numB (l.take n), l.drop n) := if_pos h
theorem rdNum_none {n : Nat} {l : List UInt8} (h : l.length < n) : rdNum n l = none := if_neg (by omega)
set_option maxHeartbeats 4000000 in
set_option maxRecDepth 100000 in
theorem num_any (base g : Nat) (l : List UInt8) (n : Nat) (hn8 : n ≤ 8) (hl : l.length ≤ 140737488355328) (w : World) (h : Rd base g w l) :
    Calls Tryz.prog 37 #[.pointer (some ⟨g, 0, none⟩), .int .i64 n] w (NumPost base g l n w) := by
  go_enter Tryz.func37, Tryz.ntmps37
  go_wp2_with (go_at_call 38; refine (calls_hid (take_any base g l n hl (by omega) _ h)).mono ?_)
  rintro e w1 hh
  rcases hh.out with ⟨hlt, rfl, rfl⟩ | ⟨hn, v1, v2, rfl, rfl, h1, h2⟩
  · clear hh
    exact ⟨rfl, .inl ⟨rdNum_none hlt, rfl, rfl⟩⟩
  clear hh
  have hbk : ∀ k, k < base → (w.setCell ⟨g, 0, none⟩ v2).heap[k]? = w.heap[k]? := fun k hk => set_far v2 (show k ≠ g from by have := h.lt; omega) rfl
  have HK := Lib.hid ((h1.keep hbk).at_)
  have H2 := Lib.hid h2
  have HG := Lib.hid (grown_set w g v2)
  have HR := Lib.hid (rdNum_some hn)
  have hsz : (w.setCell ⟨g, 0, none⟩ v2).heap.size = w.heap.size := size_setCell _ _ _
  have hlen : (l.take n).length = n := by rw [List.length_take]; omega
  have hdl : (l.drop n).length ≤ l.length := by rw [List.length_drop]; omega
  obtain ⟨L, hL⟩ : ∃ L, L = l.take n := ⟨_, rfl⟩
  rw [← hL] at hlen HK HR
  subst hlen
  clear h1 h2 hL hbk h
  obtain ⟨A1, c1, rfl, hc1, hx⟩ := HK.out
  have HX := Lib.hid hx
  generalize w.setCell ⟨g, 0, none⟩ v2 = W at HK HX H2 HG hsz ⊢
  clear hx HK
  go_wp2
  go_loopw [5, 12] (fun u i wr => ∃ k : Nat, k ≤ L.length ∧ i = .int .i64 k ∧ u = .int .u64 (numB (L.take k) : Nat) ∧ wr = W) (fun _ i _ => L.length - (intOf i).toNat)
  case atStart => exact ⟨0, Nat.zero_le _, rfl, rfl, rfl⟩
  case round =>
    obtain ⟨k, hk, rfl, rfl, rfl⟩ := hrel
    by_cases hlt : k < L.length
    · obtain ⟨b, o, rfl, hc⟩ := HX.out (by intro e; subst e; simp at hlt)
      have c0 := hc k hlt
      have HNX := Lib.hid (show numB (L.take (k + 1)) = numB (L.take k) * 256 + (L.getD k 0).toNat from by
        rw [← numB_snoc]; congr 1; rw [List.take_add_one, List.getElem?_eq_getElem hlt]; simp [List.getD, hlt])
      have hb := numB_lt (L.take k)
      have hlk : (L.take k).length = k := by rw [List.length_take]; omega
      rw [hlk] at hb
      have hu := (L.getD k 0).toNat_lt
      generalize (L.getD k 0).toNat = x at c0 HNX hu
      generalize numB (L.take k) = N at HNX hb ⊢
      clear hc
      have hN : N < 72057594037927936 := by
        have h7 : (256 : Nat) ^ k ≤ 256 ^ 7 := Nat.pow_le_pow_right (by decide) (by omega)
        omega
      have HE := Lib.hid (next64 N x hN hu)
      go_wp2
      refine ⟨⟨k + 1, by omega, by go_num, ?_, trivial⟩, by simp [intOf]; omega⟩
      rw [HE.out, HNX.out]
    · obtain rfl : k = L.length := by omega
      rw [List.take_length]
      have hlt2 := numB_lt L
      generalize numB L = N at HR hlt2 ⊢
      go_wp2
      go_ret
      apply Or.inr; exact ⟨N, _, HR.out, hlt2, hdl, rfl, HG.out, hsz, H2.out⟩
theorem load_none {P : Program} (w : World) (a : Addr) : (loadCells a 0).run P w = .ok #[] w := by
  have := run_loadCells_list (P := P) w a [] (fun j v hj => by simp at hj)
  simpa using this
/-- 'string(b)'. -/
theorem conv_bytes {w : World} {v : Value} {l : List UInt8} (h : BytesAt w v l) : (convert 28 9 v).run Tryz.prog w = .ok (.string (toB l)) w := by
  obtain ⟨A, cap, rfl, hcap, hx⟩ := h
  by_cases hn : l = []
  · subst hn
    cases A with
    | none => exact run_convert_bytes_nil w 28 5 Tryz.underlying28 Tryz.underlying5 _ _ 9 Tryz.underlying9
    | some a =>
      rw [run_convert_bytes_string w 28 9 5 _ _ cap Tryz.underlying28 Tryz.underlying5 Tryz.underlying9]
      exact run_bytesToString w a 0 cap [] (load_none w a)
  · obtain ⟨b, o, rfl, hc⟩ := hx hn
    have := run_convert_bytes_arg (P := Tryz.prog) w 28 5 Tryz.underlying28 Tryz.underlying5 b o l.length cap (l.map fun c => (c.toNat : Int)) (by simp) (fun i hi => by
      rw [hc i hi]; simp [List.getD, hi]) 9 Tryz.underlying9
    rw [this]
    have e2 : ((l.map fun c => (c.toNat : Int)).map fun n => UInt8.ofNat n.toNat) = l := by
      rw [List.map_map]
      conv => rhs; rw [← List.map_id l]
      apply List.map_congr_left
      intro c _
      simp
    have e : (strOfNums (l.map fun c => (c.toNat : Int))) = toB l := by
      unfold strOfNums toB
      rw [e2]
    rw [e]
set_option maxHeartbeats 4000000 in
set_option maxRecDepth 100000 in
theorem text_any (base g : Nat) (l : List UInt8) (hl : l.length ≤ 140737488355328) (w : World) (h : Rd base g w l) :
    Calls Tryz.prog 69 #[.pointer (some ⟨g, 0, none⟩)] w (TextPost base g l w) := by
  go_enter Tryz.func69, Tryz.ntmps69
  go_wp2_with (go_at_call 37; refine (calls_hid (num_any base g l 1 (by decide) hl _ h)).mono ?_)
  rintro e w1 hh
  rcases hh.out with ⟨h1, rfl, rfl⟩ | ⟨x, l1, h1, hx, hl1, rfl, hg1, hz1, hr1⟩
  · clear hh
    exact ⟨rfl, .inl ⟨by unfold rdText; rw [h1]; rfl, rfl, grown_refl _ _⟩⟩
  clear hh
  have HG1 := Lib.hid hg1
  have H1 := Lib.hid h1
  have HR1 := Lib.hid hr1
  have hx' : x < 256 := by simpa using hx
  clear hg1 h1 h hr1 hx
  go_wp2_with (go_at_call 38; refine (calls_hid (take_any base g l1 x (by omega) (by omega) _ HR1.out)).mono ?_)
  rintro e w2 hh
  rcases hh.out with ⟨hlt, rfl, rfl⟩ | ⟨hn, v1, v2, rfl, rfl, h2, h3⟩
  · clear hh
    refine ⟨rfl, .inl ⟨?_, rfl, HG1.out⟩⟩
    unfold rdText rdTake
    rw [H1.out]
    simp only [Option.bind_some]
    rw [if_neg (by omega)]
    rfl
  clear hh
  have hbk : ∀ k, k < base → (w1.setCell ⟨g, 0, none⟩ v2).heap[k]? = w1.heap[k]? := fun k hk => set_far v2 (show k ≠ g from by have := HR1.out.lt; omega) rfl
  have hcv := conv_bytes ((h2.keep hbk).at_)
  have HG2 := Lib.hid (grown_trans HG1.out (grown_set w1 g v2))
  have H3 := Lib.hid h3
  have hz2 : (w1.setCell ⟨g, 0, none⟩ v2).heap.size = w.heap.size := (size_setCell _ _ _).trans hz1
  have hs : (toB (l1.take x)).size ≤ 255 := by
    show (l1.take x).toArray.size ≤ 255
    rw [List.size_toArray, List.length_take]; omega
  have hdl : (l1.drop x).length ≤ l.length := by rw [List.length_drop]; omega
  have HR := Lib.hid (show rdText l = some (toB (l1.take x), l1.drop x) from by
    unfold rdText rdTake
    rw [H1.out]
    simp only [Option.bind_some]
    rw [if_pos hn]
    rfl)
  clear h2 h3 hbk HR1 HG1 H1 hz1
  generalize w1.setCell ⟨g, 0, none⟩ v2 = W at hcv HG2 H3 hz2 ⊢
  generalize toB (l1.take x) = s at hcv HR hs ⊢
  go_wp2
  go_ret
  apply Or.inr; exact ⟨s, _, HR.out, hs, hdl, rfl, HG2.out, hz2, H3.out⟩
end Go.Proofs.YtkhgfdlinobabaaGreatDoor.G
