/- An Entry among the arguments, opened: a list of operations as it is read; its bulk. -/
import Derived.Test.YtkhgfdlinobabaaGreatDoorJTell
import Derived.Test.YtkhgfdlinobabaaGreatDoorRows
import Derived.SliceStrings
import Derived.Lib.SmallJoins
import Derived.Deep.MidRow
namespace Go.Proofs.YtkhgfdlinobabaaGreatDoor.G
open Go.RowKit Go.WideShapes Go.ChangeShapes
set_option linter.unusedVariables false
set_option linter.unusedSimpArgs false
theorem spot_none {w : World} {a : Addr} {v : Value} (h : w.cell? a = some v) : a.spot = none := by
  unfold World.cell? at h
  split at h
  · split at h
    · simp at h
    · rename_i hs; simpa using hs
  · simp at h
theorem addr_none {a : Addr} (h : a.spot = none) : a = ⟨a.block, a.off, none⟩ := by cases a; simp at h; subst h; rfl
section
variable {H : Type} {enc : TypeId × Value → H} {w : World} {base : Nat} {spare : Nat → Bool} {held : Bool}
theorem bulk_strs_ : ∀ (l : List ByteArray), l.length ≤ Rows.uptoBulkAll (strs (H := H) l) ∧ ∀ s ∈ l, s.size ≤ Rows.uptoBulkAll (strs (H := H) l)
  | [] => ⟨Nat.zero_le _, fun s hs => by simp at hs⟩
  | x :: l => by
    obtain ⟨h1, h2⟩ := bulk_strs_ l
    have e : Rows.uptoBulkAll (strs (H := H) (x :: l)) = x.data.toList.length + 1 + Rows.uptoBulkAll (strs (H := H) l) := rfl
    have ez : x.data.toList.length = x.size := by simp
    rw [e]
    refine ⟨by simp; omega, fun s hs => ?_⟩
    rcases List.mem_cons.1 hs with rfl | hs
    · omega
    · have := h2 s hs; omega
/-- A list of texts, opened: as it is read; its bulk. -/
theorem texts_of {P : Program} {t e : TypeId} {fuel : Nat} {cs : List Value} {x : DataW H × List MemPlace} (ht : P.underlying t = some (.slice e)) (he : P.underlying e = some .string) (hc : P.cellsOf e = 1)
    (h : DataW.trod enc P w base spare held fuel t cs = some x) :
    ∃ (v : Value) (l : List ByteArray), cs = [v] ∧ TextsAt w v l ∧ l.length ≤ Rows.uptoBulk x.1 ∧ ∀ s ∈ l, s.size ≤ Rows.uptoBulk x.1 := by
  rcases open_strings ht he hc h with ⟨rfl, rfl⟩ | ⟨a, len, cap, ss, rfl, hb, hl, hm, hss, rfl, hcell, hsz⟩
  · exact ⟨_, [], rfl, ⟨none, 0, rfl, Nat.le_refl _, fun hn => absurd rfl hn⟩, Nat.zero_le _, fun s hs => by simp at hs⟩
  · have hle : len ≤ ss.length := by rw [hss]; split <;> omega
    have hlen : (ss.take len).length = len := by simp; omega
    obtain ⟨b1, b2⟩ := bulk_strs_ (H := H) (ss.take len)
    have e : Rows.uptoBulk (.slice (strs (H := H) (ss.take len)) (strs (ss.drop len))) = Rows.uptoBulkAll (strs (H := H) (ss.take len)) + Rows.uptoBulkAll (strs (H := H) (ss.drop len)) + 1 := rfl
    refine ⟨_, ss.take len, rfl, ⟨some a, cap, by rw [hlen], by rw [hlen]; exact hl, fun hn => ?_⟩, by rw [e]; omega, fun s hs => by have := b2 s hs; rw [e]; omega⟩
    have hp : 0 < (ss.take len).length := List.length_pos_iff.2 hn
    have c0 := hcell 0 (by omega)
    have ea := addr_none (spot_none (show w.cell? a = some _ from c0))
    refine ⟨a.block, a.off, by rw [← ea], fun j hj => ?_⟩
    have c1 := hcell j (by omega)
    have hadd : a.add j = ⟨a.block, a.off + j, none⟩ := by rw [ea, Addr.add_mid]
    rw [hadd] at c1
    rw [c1]
    have : (ss.take len).getD j ByteArray.empty = ss.getD j ByteArray.empty := by simp only [List.getD]; rw [List.getElem?_take_of_lt (by omega)]
    rw [this]
theorem wf_u64 {n : Int} (h : (Lit.int .u64 n).wf = true) : 0 ≤ n ∧ n < 18446744073709551616 := by
  simp [Lit.wf, IntKind.min, IntKind.max, IntKind.bits, IntKind.signed] at h
  omega
theorem list21 {α : Type} : ∀ {cs : List α}, cs.length = 21 → ∃ c0 c1 c2 c3 c4 c5 c6 c7 c8 c9 c10 c11 c12 c13 c14 c15 c16 c17 c18 c19 c20, cs = [c0, c1, c2, c3, c4, c5, c6, c7, c8, c9, c10, c11, c12, c13, c14, c15, c16, c17, c18, c19, c20]
  | [c0, c1, c2, c3, c4, c5, c6, c7, c8, c9, c10, c11, c12, c13, c14, c15, c16, c17, c18, c19, c20], _ => ⟨c0, c1, c2, c3, c4, c5, c6, c7, c8, c9, c10, c11, c12, c13, c14, c15, c16, c17, c18, c19, c20, rfl⟩
theorem list6 {α : Type} : ∀ {cs : List α}, cs.length = 6 → ∃ c0 c1 c2 c3 c4 c5, cs = [c0, c1, c2, c3, c4, c5]
  | [c0, c1, c2, c3, c4, c5], _ => ⟨c0, c1, c2, c3, c4, c5, rfl⟩
theorem list4 {α : Type} : ∀ {cs : List α}, cs.length = 4 → ∃ c0 c1 c2 c3, cs = [c0, c1, c2, c3]
  | [c0, c1, c2, c3], _ => ⟨c0, c1, c2, c3, rfl⟩
theorem list7 {α : Type} : ∀ {cs : List α}, cs.length = 7 → ∃ c0 c1 c2 c3 c4 c5 c6, cs = [c0, c1, c2, c3, c4, c5, c6]
  | [c0, c1, c2, c3, c4, c5, c6], _ => ⟨c0, c1, c2, c3, c4, c5, c6, rfl⟩
theorem str_of {P : Program} {t : TypeId} {fuel : Nat} {c : Value} {x : DataW H × List MemPlace} (ht : P.underlying t = some .string) (h : DataW.trod enc P w base spare held fuel t [c] = some x) :
    ∃ s : ByteArray, c = .string s ∧ s.size + 1 ≤ Rows.uptoBulk x.1 := by
  obtain ⟨s, hs, rfl, _⟩ := DataW.trod_string ht h
  obtain rfl : c = .string s := by simpa using hs
  exact ⟨s, rfl, by simp [Rows.uptoBulk]⟩
theorem int_of {P : Program} {t : TypeId} {k : IntKind} {fuel : Nat} {c : Value} {x : DataW H × List MemPlace} (ht : P.underlying t = some (.int k)) (h : DataW.trod enc P w base spare held fuel t [c] = some x) :
    ∃ n : Int, c = .int k n ∧ (Lit.int k n).wf = true := by
  obtain ⟨n, hs, rfl, hw⟩ := DataW.trod_int ht h
  exact ⟨n, by simpa using hs, hw⟩
theorem bool_of {P : Program} {t : TypeId} {fuel : Nat} {c : Value} {x : DataW H × List MemPlace} (ht : P.underlying t = some .bool) (h : DataW.trod enc P w base spare held fuel t [c] = some x) : ∃ b : Bool, c = .bool b := by
  obtain ⟨n, hs, rfl⟩ := DataW.trod_bool ht h
  exact ⟨n, by simpa using hs⟩
theorem bulk_lits_ {k : IntKind} : ∀ (l : List Int), l.length ≤ Rows.uptoBulkAll (lits (H := H) k l)
  | [] => Nat.zero_le _
  | x :: l => by
    have e : Rows.uptoBulkAll (lits (H := H) k (x :: l)) = 1 + Rows.uptoBulkAll (lits (H := H) k l) := rfl
    have := bulk_lits_ (k := k) l
    rw [e]; simp; omega
/-- A list of bytes, opened: as it is read; its bulk. -/
theorem bytes_of {P : Program} {t e : TypeId} {fuel : Nat} {cs : List Value} {x : DataW H × List MemPlace} (ht : P.underlying t = some (.slice e)) (he : P.underlying e = some (.int .u8)) (hc : P.cellsOf e = 1)
    (h : DataW.trod enc P w base spare held fuel t cs = some x) :
    ∃ (v : Value) (l : List UInt8), cs = [v] ∧ BytesAt w v l ∧ l.length ≤ Rows.uptoBulk x.1 := by
  rcases open_ints ht he hc h with ⟨rfl, rfl⟩ | ⟨a, len, cap, zs, rfl, hb, hl, hm, hss, rfl, hcell, hsz⟩
  · exact ⟨_, [], rfl, ⟨none, 0, rfl, Nat.le_refl _, fun hn => absurd rfl hn⟩, Nat.zero_le _⟩
  · have hle : len ≤ zs.length := by rw [hss]; split <;> omega
    have hlen : ((zs.take len).map fun n => UInt8.ofNat n.toNat).length = len := by simp; omega
    have e : Rows.uptoBulk (.slice (lits (H := H) .u8 (zs.take len)) (lits .u8 (zs.drop len))) = Rows.uptoBulkAll (lits (H := H) .u8 (zs.take len)) + Rows.uptoBulkAll (lits (H := H) .u8 (zs.drop len)) + 1 := rfl
    have b1 := bulk_lits_ (H := H) (k := .u8) (zs.take len)
    have hl2 : (zs.take len).length = len := by simp; omega
    refine ⟨_, (zs.take len).map fun n => UInt8.ofNat n.toNat, rfl, ⟨some a, cap, by rw [hlen], by rw [hlen]; exact hl, fun hn => ?_⟩, by rw [e, hlen]; omega⟩
    have hp : 0 < len := by
      rcases Nat.eq_zero_or_pos len with h0 | h0
      · subst h0; simp at hn
      · exact h0
    have c0 := hcell 0 (by omega)
    have ea := addr_none (spot_none (show w.cell? a = some _ from c0))
    refine ⟨a.block, a.off, by rw [← ea], fun j hj => ?_⟩
    rw [hlen] at hj
    have c1 := hcell j (by omega)
    have hadd : a.add j = ⟨a.block, a.off + j, none⟩ := by rw [ea, Addr.add_mid]
    rw [hadd] at c1
    rw [c1]
    have hj2 : j < zs.length := by omega
    have hr := hsz (zs[j]) (List.getElem_mem _)
    simp [Lit.wf, IntKind.min, IntKind.max, IntKind.bits, IntKind.signed] at hr
    have e1 : zs.getD j 0 = zs[j] := by simp [List.getD, hj2]
    have e2 : ((zs.take len).map fun n => UInt8.ofNat n.toNat).getD j 0 = UInt8.ofNat (zs[j]).toNat := by
      simp [List.getD, List.getElem?_take_of_lt hj, hj2]
    rw [e1, e2, UInt8.toNat_ofNat']
    congr 2
    omega
theorem kstr : Tryz.prog.cellsOf 9 = 1 := by kernel_rfl
theorem kint : Tryz.prog.cellsOf 3 = 1 := by kernel_rfl
theorem ku64 : Tryz.prog.cellsOf 22 = 1 := by kernel_rfl
theorem kbool : Tryz.prog.cellsOf 4 = 1 := by kernel_rfl
theorem ktxs : Tryz.prog.cellsOf 45 = 1 := by kernel_rfl
theorem knode : Tryz.prog.cellsOf 49 = 4 := by kernel_rfl
theorem ksvc : Tryz.prog.cellsOf 47 = 7 := by kernel_rfl
theorem kchk : Tryz.prog.cellsOf 51 = 7 := by kernel_rfl
theorem kop : Tryz.prog.cellsOf 53 = 21 := by kernel_rfl
theorem node_of {fuel : Nat} {c0 c1 c2 c3 : Value} {x : DataW H × List MemPlace} (h : DataW.trod enc Tryz.prog w base spare held fuel 49 [c0, c1, c2, c3] = some x) :
    ∃ n : Nod, c0 = .string n.name ∧ c1 = .string n.addr ∧ c2 = .int .u64 n.made ∧ c3 = .int .u64 n.changed ∧ n.name.size + n.addr.size ≤ Rows.uptoBulk x.1 := by
  obtain ⟨xs, n, _, rfl, hl, hlen, hf⟩ := DataW.trod_struct Tryz.underlying49 h
  obtain ⟨y0, y1, y2, y3, rfl⟩ := list4 hlen
  have h0 : DataW.trod enc Tryz.prog w base spare held n 9 (([c0, c1, c2, c3].drop 0).take (Tryz.prog.cellsOf 9)) = some y0 := hf 0 _ rfl
  rw [kstr] at h0
  have h1 : DataW.trod enc Tryz.prog w base spare held n 9 (([c0, c1, c2, c3].drop 1).take (Tryz.prog.cellsOf 9)) = some y1 := hf 1 _ rfl
  rw [kstr] at h1
  have h2 : DataW.trod enc Tryz.prog w base spare held n 22 (([c0, c1, c2, c3].drop 2).take (Tryz.prog.cellsOf 22)) = some y2 := hf 2 _ rfl
  rw [ku64] at h2
  have h3 : DataW.trod enc Tryz.prog w base spare held n 22 (([c0, c1, c2, c3].drop 3).take (Tryz.prog.cellsOf 22)) = some y3 := hf 3 _ rfl
  rw [ku64] at h3
  obtain ⟨s0, rfl, b0⟩ := str_of Tryz.underlying9 (show DataW.trod enc Tryz.prog w base spare held n 9 [c0] = some y0 from h0)
  obtain ⟨s1, rfl, b1⟩ := str_of Tryz.underlying9 (show DataW.trod enc Tryz.prog w base spare held n 9 [c1] = some y1 from h1)
  obtain ⟨n2, rfl, _⟩ := int_of Tryz.underlying22 (show DataW.trod enc Tryz.prog w base spare held n 22 [c2] = some y2 from h2)
  obtain ⟨n3, rfl, _⟩ := int_of Tryz.underlying22 (show DataW.trod enc Tryz.prog w base spare held n 22 [c3] = some y3 from h3)
  refine ⟨⟨s0, s1, n2, n3⟩, rfl, rfl, rfl, rfl, ?_⟩
  simp only [List.map_cons, List.map_nil, Rows.uptoBulk, Rows.uptoBulkAll]
  omega
theorem svc_of {fuel : Nat} {c0 c1 c2 c3 c4 c5 c6 : Value} {x : DataW H × List MemPlace} (h : DataW.trod enc Tryz.prog w base spare held fuel 47 [c0, c1, c2, c3, c4, c5, c6] = some x) :
    ∃ n : Svc, c0 = .string n.node ∧ c1 = .string n.id ∧ c2 = .string n.name ∧ c3 = .int .i64 n.port ∧ TextsAt w c4 n.tags ∧ c5 = .int .u64 n.made ∧ c6 = .int .u64 n.changed ∧
      n.node.size + n.id.size + n.name.size + n.tags.length ≤ Rows.uptoBulk x.1 ∧ ∀ t ∈ n.tags, t.size ≤ Rows.uptoBulk x.1 := by
  obtain ⟨xs, n, _, rfl, hl, hlen, hf⟩ := DataW.trod_struct Tryz.underlying47 h
  obtain ⟨y0, y1, y2, y3, y4, y5, y6, rfl⟩ := list7 hlen
  have h0 : DataW.trod enc Tryz.prog w base spare held n 9 (([c0, c1, c2, c3, c4, c5, c6].drop 0).take (Tryz.prog.cellsOf 9)) = some y0 := hf 0 _ rfl
  rw [kstr] at h0
  have h1 : DataW.trod enc Tryz.prog w base spare held n 9 (([c0, c1, c2, c3, c4, c5, c6].drop 1).take (Tryz.prog.cellsOf 9)) = some y1 := hf 1 _ rfl
  rw [kstr] at h1
  have h2 : DataW.trod enc Tryz.prog w base spare held n 9 (([c0, c1, c2, c3, c4, c5, c6].drop 2).take (Tryz.prog.cellsOf 9)) = some y2 := hf 2 _ rfl
  rw [kstr] at h2
  have h3 : DataW.trod enc Tryz.prog w base spare held n 3 (([c0, c1, c2, c3, c4, c5, c6].drop 3).take (Tryz.prog.cellsOf 3)) = some y3 := hf 3 _ rfl
  rw [kint] at h3
  have h4 : DataW.trod enc Tryz.prog w base spare held n 45 (([c0, c1, c2, c3, c4, c5, c6].drop 4).take (Tryz.prog.cellsOf 45)) = some y4 := hf 4 _ rfl
  rw [ktxs] at h4
  have h5 : DataW.trod enc Tryz.prog w base spare held n 22 (([c0, c1, c2, c3, c4, c5, c6].drop 5).take (Tryz.prog.cellsOf 22)) = some y5 := hf 5 _ rfl
  rw [ku64] at h5
  have h6 : DataW.trod enc Tryz.prog w base spare held n 22 (([c0, c1, c2, c3, c4, c5, c6].drop 6).take (Tryz.prog.cellsOf 22)) = some y6 := hf 6 _ rfl
  rw [ku64] at h6
  obtain ⟨s0, rfl, b0⟩ := str_of Tryz.underlying9 (show DataW.trod enc Tryz.prog w base spare held n 9 [c0] = some y0 from h0)
  obtain ⟨s1, rfl, b1⟩ := str_of Tryz.underlying9 (show DataW.trod enc Tryz.prog w base spare held n 9 [c1] = some y1 from h1)
  obtain ⟨s2, rfl, b2⟩ := str_of Tryz.underlying9 (show DataW.trod enc Tryz.prog w base spare held n 9 [c2] = some y2 from h2)
  obtain ⟨n3, rfl, _⟩ := int_of Tryz.underlying3 (show DataW.trod enc Tryz.prog w base spare held n 3 [c3] = some y3 from h3)
  obtain ⟨vt, l, hv, ht, bl, bs⟩ := texts_of Tryz.underlying45 Tryz.underlying9 kstr (show DataW.trod enc Tryz.prog w base spare held n 45 [c4] = some y4 from h4)
  obtain rfl : c4 = vt := by simpa using hv
  obtain ⟨n5, rfl, _⟩ := int_of Tryz.underlying22 (show DataW.trod enc Tryz.prog w base spare held n 22 [c5] = some y5 from h5)
  obtain ⟨n6, rfl, _⟩ := int_of Tryz.underlying22 (show DataW.trod enc Tryz.prog w base spare held n 22 [c6] = some y6 from h6)
  have e : Rows.uptoBulk (.agg ([y0, y1, y2, y3, y4, y5, y6].map (·.1)) : DataW H) = Rows.uptoBulk y0.1 + (Rows.uptoBulk y1.1 + (Rows.uptoBulk y2.1 + (Rows.uptoBulk y3.1 + (Rows.uptoBulk y4.1 + (Rows.uptoBulk y5.1 + (Rows.uptoBulk y6.1 + 0)))))) + 1 := by simp only [List.map_cons, List.map_nil, Rows.uptoBulk, Rows.uptoBulkAll]
  refine ⟨⟨s0, s1, s2, n3, l, n5, n6⟩, rfl, rfl, rfl, rfl, ht, rfl, rfl, ?_, fun t hm => ?_⟩
  · rw [e]; show s0.size + s1.size + s2.size + l.length ≤ _; omega
  · rw [e]; have := bs t hm; omega
theorem chk_of {fuel : Nat} {c0 c1 c2 c3 c4 c5 c6 : Value} {x : DataW H × List MemPlace} (h : DataW.trod enc Tryz.prog w base spare held fuel 51 [c0, c1, c2, c3, c4, c5, c6] = some x) :
    ∃ n : Chk, c0 = .string n.node ∧ c1 = .string n.id ∧ c2 = .string n.service ∧ c3 = .int .i64 n.status ∧ c4 = .string n.note ∧ c5 = .int .u64 n.made ∧ c6 = .int .u64 n.changed ∧
      n.node.size + n.id.size + n.service.size + n.note.size ≤ Rows.uptoBulk x.1 := by
  obtain ⟨xs, n, _, rfl, hl, hlen, hf⟩ := DataW.trod_struct Tryz.underlying51 h
  obtain ⟨y0, y1, y2, y3, y4, y5, y6, rfl⟩ := list7 hlen
  have h0 : DataW.trod enc Tryz.prog w base spare held n 9 (([c0, c1, c2, c3, c4, c5, c6].drop 0).take (Tryz.prog.cellsOf 9)) = some y0 := hf 0 _ rfl
  rw [kstr] at h0
  have h1 : DataW.trod enc Tryz.prog w base spare held n 9 (([c0, c1, c2, c3, c4, c5, c6].drop 1).take (Tryz.prog.cellsOf 9)) = some y1 := hf 1 _ rfl
  rw [kstr] at h1
  have h2 : DataW.trod enc Tryz.prog w base spare held n 9 (([c0, c1, c2, c3, c4, c5, c6].drop 2).take (Tryz.prog.cellsOf 9)) = some y2 := hf 2 _ rfl
  rw [kstr] at h2
  have h3 : DataW.trod enc Tryz.prog w base spare held n 3 (([c0, c1, c2, c3, c4, c5, c6].drop 3).take (Tryz.prog.cellsOf 3)) = some y3 := hf 3 _ rfl
  rw [kint] at h3
  have h4 : DataW.trod enc Tryz.prog w base spare held n 9 (([c0, c1, c2, c3, c4, c5, c6].drop 4).take (Tryz.prog.cellsOf 9)) = some y4 := hf 4 _ rfl
  rw [kstr] at h4
  have h5 : DataW.trod enc Tryz.prog w base spare held n 22 (([c0, c1, c2, c3, c4, c5, c6].drop 5).take (Tryz.prog.cellsOf 22)) = some y5 := hf 5 _ rfl
  rw [ku64] at h5
  have h6 : DataW.trod enc Tryz.prog w base spare held n 22 (([c0, c1, c2, c3, c4, c5, c6].drop 6).take (Tryz.prog.cellsOf 22)) = some y6 := hf 6 _ rfl
  rw [ku64] at h6
  obtain ⟨s0, rfl, b0⟩ := str_of Tryz.underlying9 (show DataW.trod enc Tryz.prog w base spare held n 9 [c0] = some y0 from h0)
  obtain ⟨s1, rfl, b1⟩ := str_of Tryz.underlying9 (show DataW.trod enc Tryz.prog w base spare held n 9 [c1] = some y1 from h1)
  obtain ⟨s2, rfl, b2⟩ := str_of Tryz.underlying9 (show DataW.trod enc Tryz.prog w base spare held n 9 [c2] = some y2 from h2)
  obtain ⟨n3, rfl, _⟩ := int_of Tryz.underlying3 (show DataW.trod enc Tryz.prog w base spare held n 3 [c3] = some y3 from h3)
  obtain ⟨s4, rfl, b4⟩ := str_of Tryz.underlying9 (show DataW.trod enc Tryz.prog w base spare held n 9 [c4] = some y4 from h4)
  obtain ⟨n5, rfl, _⟩ := int_of Tryz.underlying22 (show DataW.trod enc Tryz.prog w base spare held n 22 [c5] = some y5 from h5)
  obtain ⟨n6, rfl, _⟩ := int_of Tryz.underlying22 (show DataW.trod enc Tryz.prog w base spare held n 22 [c6] = some y6 from h6)
  refine ⟨⟨s0, s1, s2, n3, s4, n5, n6⟩, rfl, rfl, rfl, rfl, rfl, rfl, rfl, ?_⟩
  simp only [List.map_cons, List.map_nil, Rows.uptoBulk, Rows.uptoBulkAll]
  omega
/-- An operation among what is read, opened. -/
theorem op_of {fuel : Nat} {cs : List Value} {x : DataW H × List MemPlace} (h : DataW.trod enc Tryz.prog w base spare held fuel 53 cs = some x) :
    ∃ (o : OpV) (vt : Value), cs = (opc o vt).toList ∧ TextsAt w vt o.svc.tags ∧ (Rows.uptoBulk x.1 ≤ 1048576 → OpSmall o) ∧ 0 ≤ o.want ∧ o.want < 18446744073709551616 := by
  obtain ⟨xs, n, _, rfl, hl, hlen, hf⟩ := DataW.trod_struct Tryz.underlying53 h
  obtain ⟨c0, c1, c2, c3, c4, c5, c6, c7, c8, c9, c10, c11, c12, c13, c14, c15, c16, c17, c18, c19, c20, rfl⟩ := list21 (hl.trans kop)
  obtain ⟨y0, y1, y2, y3, y4, y5, rfl⟩ := list6 hlen
  have h0 : DataW.trod enc Tryz.prog w base spare held n 3 (([c0, c1, c2, c3, c4, c5, c6, c7, c8, c9, c10, c11, c12, c13, c14, c15, c16, c17, c18, c19, c20].drop 0).take (Tryz.prog.cellsOf 3)) = some y0 := hf 0 _ rfl
  rw [kint] at h0
  have h1 : DataW.trod enc Tryz.prog w base spare held n 49 (([c0, c1, c2, c3, c4, c5, c6, c7, c8, c9, c10, c11, c12, c13, c14, c15, c16, c17, c18, c19, c20].drop 1).take (Tryz.prog.cellsOf 49)) = some y1 := hf 1 _ rfl
  rw [knode] at h1
  have h2 : DataW.trod enc Tryz.prog w base spare held n 47 (([c0, c1, c2, c3, c4, c5, c6, c7, c8, c9, c10, c11, c12, c13, c14, c15, c16, c17, c18, c19, c20].drop 5).take (Tryz.prog.cellsOf 47)) = some y2 := hf 2 _ rfl
  rw [ksvc] at h2
  have h3 : DataW.trod enc Tryz.prog w base spare held n 51 (([c0, c1, c2, c3, c4, c5, c6, c7, c8, c9, c10, c11, c12, c13, c14, c15, c16, c17, c18, c19, c20].drop 12).take (Tryz.prog.cellsOf 51)) = some y3 := hf 3 _ rfl
  rw [kchk] at h3
  have h4 : DataW.trod enc Tryz.prog w base spare held n 4 (([c0, c1, c2, c3, c4, c5, c6, c7, c8, c9, c10, c11, c12, c13, c14, c15, c16, c17, c18, c19, c20].drop 19).take (Tryz.prog.cellsOf 4)) = some y4 := hf 4 _ rfl
  rw [kbool] at h4
  have h5 : DataW.trod enc Tryz.prog w base spare held n 22 (([c0, c1, c2, c3, c4, c5, c6, c7, c8, c9, c10, c11, c12, c13, c14, c15, c16, c17, c18, c19, c20].drop 20).take (Tryz.prog.cellsOf 22)) = some y5 := hf 5 _ rfl
  rw [ku64] at h5
  obtain ⟨kd, rfl, _⟩ := int_of Tryz.underlying3 (show DataW.trod enc Tryz.prog w base spare held n 3 [c0] = some y0 from h0)
  obtain ⟨nd, rfl, rfl, rfl, rfl, bn⟩ := node_of (show DataW.trod enc Tryz.prog w base spare held n 49 [c1, c2, c3, c4] = some y1 from h1)
  obtain ⟨sv, rfl, rfl, rfl, rfl, ht, rfl, rfl, bv, bt⟩ := svc_of (show DataW.trod enc Tryz.prog w base spare held n 47 [c5, c6, c7, c8, c9, c10, c11] = some y2 from h2)
  obtain ⟨ck, rfl, rfl, rfl, rfl, rfl, rfl, rfl, bc⟩ := chk_of (show DataW.trod enc Tryz.prog w base spare held n 51 [c12, c13, c14, c15, c16, c17, c18] = some y3 from h3)
  obtain ⟨cas, rfl⟩ := bool_of Tryz.underlying4 (show DataW.trod enc Tryz.prog w base spare held n 4 [c19] = some y4 from h4)
  obtain ⟨wn, rfl, ww⟩ := int_of Tryz.underlying22 (show DataW.trod enc Tryz.prog w base spare held n 22 [c20] = some y5 from h5)
  have e : Rows.uptoBulk (.agg ([y0, y1, y2, y3, y4, y5].map (·.1)) : DataW H) = Rows.uptoBulk y0.1 + (Rows.uptoBulk y1.1 + (Rows.uptoBulk y2.1 + (Rows.uptoBulk y3.1 + (Rows.uptoBulk y4.1 + (Rows.uptoBulk y5.1 + 0))))) + 1 := by simp only [List.map_cons, List.map_nil, Rows.uptoBulk, Rows.uptoBulkAll]
  refine ⟨⟨kd, nd, sv, ck, cas, wn⟩, c9, rfl, ht, fun hb => ?_, wf_u64 ww⟩
  rw [e] at hb
  exact ⟨by show nd.name.size ≤ _; omega, by show nd.addr.size ≤ _; omega, by show sv.node.size ≤ _; omega, by show sv.id.size ≤ _; omega, by show sv.name.size ≤ _; omega, fun t hm => by have := bt t hm; omega, by show sv.tags.length ≤ _; omega, by show ck.node.size ≤ _; omega, by show ck.id.size ≤ _; omega, by show ck.service.size ≤ _; omega, by show ck.note.size ≤ _; omega⟩
theorem bulkAll_mem {d : DataW H} : ∀ {l : List (DataW H)}, d ∈ l → Rows.uptoBulk d ≤ Rows.uptoBulkAll l
  | [], h => by simp at h
  | a :: r, h => by
    rcases List.mem_cons.1 h with rfl | h
    · simp only [Rows.uptoBulkAll]; omega
    · have := bulkAll_mem h; simp only [Rows.uptoBulkAll]; omega
theorem bulkAll_len : ∀ l : List (DataW H), l.length ≤ Rows.uptoBulkAll l
  | [] => Nat.zero_le _
  | a :: r => by
    have := bulkAll_len r
    have h1 : 1 ≤ Rows.uptoBulk a := by
      unfold Rows.uptoBulk
      split <;> omega
    simp only [Rows.uptoBulkAll, List.length_cons]; omega
/-- A list of operations, opened. -/
theorem ops_of {fuel : Nat} {cs : List Value} {x : DataW H × List MemPlace} (h : DataW.trod enc Tryz.prog w base spare held fuel 23 cs = some x) :
    ∃ (v : Value) (os : List OpV), cs = [v] ∧ OpsAt w v os ∧ (Rows.uptoBulk x.1 ≤ 1048576 → os.length ≤ 1048576 ∧ ∀ j, j < os.length → OpSmall (os.getD j OpV.zero)) ∧ ∀ j, j < os.length → 0 ≤ (os.getD j OpV.zero).want ∧ (os.getD j OpV.zero).want < 18446744073709551616 := by
  rcases DataW.trod_slice Tryz.underlying23 h with ⟨rfl, rfl⟩ | ⟨a, len, cap, elems, rest, n, _, rfl, rfl, hb, hl, hm, hlen, hel, hsp, hns⟩
  · exact ⟨_, [], rfl, ⟨none, 0, rfl, Nat.le_refl _, fun hn => absurd rfl hn⟩, fun _ => ⟨Nat.zero_le _, fun j hj => by simp at hj⟩, fun j hj => by simp at hj⟩
  rw [kop] at hel
  have each : ∀ i, ∃ o : OpV, i < len → (∃ vt, TextsAt w vt o.svc.tags ∧ ∀ j v, (opc o vt).toList[j]? = some v → w.cell? ((a.add (i * 21)).add j) = some v) ∧ (Rows.uptoBulkAll (elems.map (·.1)) ≤ 1048576 → OpSmall o) ∧ 0 ≤ o.want ∧ o.want < 18446744073709551616 := by
    intro i
    by_cases hi : i < len
    · have hy : elems[i]? = some (elems[i]'(by omega)) := List.getElem?_eq_getElem (by omega)
      have h1 := (hel i hi).trans hy
      rw [Option.bind_eq_some_iff] at h1
      obtain ⟨cs', hcs, hy'⟩ := h1
      obtain ⟨o, vt, rfl, ht, hs, hw⟩ := op_of hy'
      obtain ⟨_, _, hc⟩ := World.cells?_some hcs
      refine ⟨o, fun _ => ⟨⟨vt, ht, fun j v hj => ?_⟩, fun hbk => hs (Nat.le_trans (bulkAll_mem (List.mem_map.2 ⟨_, List.getElem_mem _, rfl⟩)) hbk), hw⟩⟩
      have hj21 : j < 21 := (List.getElem?_eq_some_iff.1 hj).1
      rw [hc j hj21, hj]
    · exact ⟨OpV.zero, fun h => absurd h hi⟩
  obtain ⟨f, hf⟩ := Classical.skolem.1 each
  have hlen2 : ((List.range len).map f).length = len := by simp
  have hget : ∀ j, j < len → ((List.range len).map f).getD j OpV.zero = f j := fun j hj => by simp [List.getD, hj]
  refine ⟨_, (List.range len).map f, rfl, ⟨some a, cap, by rw [hlen2], by rw [hlen2]; exact hl, fun hn => ?_⟩, fun hbk => ?_, fun j hj => ?_⟩
  · have hp : 0 < len := by
      rcases Nat.eq_zero_or_pos len with h0 | h0
      · subst h0; simp at hn
      · exact h0
    obtain ⟨vt, _, hc⟩ := (hf 0 hp).1
    have c0 := hc 0 _ rfl
    rw [Nat.zero_mul] at c0
    have ea := addr_none (spot_none (show w.cell? a = some _ from c0))
    refine ⟨a.block, a.off, by rw [← ea], fun j hj => ?_⟩
    rw [hlen2] at hj
    obtain ⟨vt, ht, hc⟩ := (hf j hj).1
    rw [hget j hj]
    refine ⟨vt, ht, fun i v hi => ?_⟩
    have := hc i v hi
    have hadd : (a.add (j * 21)).add i = ⟨a.block, a.off + j * 21 + i, none⟩ := by rw [ea, Addr.add_mid, Addr.add_mid]
    rw [hadd] at this
    exact this
  · have e : Rows.uptoBulk (.slice (elems.map (·.1)) (rest.map (·.1)) : DataW H) = Rows.uptoBulkAll (elems.map (·.1)) + Rows.uptoBulkAll (rest.map (·.1)) + 1 := by simp only [Rows.uptoBulk]
    have hbk' : Rows.uptoBulkAll (elems.map (·.1)) ≤ 1048576 := by
      have hbk2 := hbk
      rw [e] at hbk2
      omega
    have h3 := bulkAll_len (elems.map (·.1))
    rw [List.length_map] at h3
    rw [hlen2]
    refine ⟨by omega, fun j hj => ?_⟩
    rw [hget j hj]
    exact (hf j hj).2.1 hbk'
  · rw [hlen2] at hj
    rw [hget j hj]
    exact (hf j hj).2.2
end
end Go.Proofs.YtkhgfdlinobabaaGreatDoor.G
