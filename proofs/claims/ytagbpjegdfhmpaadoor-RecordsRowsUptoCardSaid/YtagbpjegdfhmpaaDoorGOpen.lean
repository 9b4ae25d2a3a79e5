/- Structs of seven fields of one cell, and lists of texts, opened as data; their bulk. -/
import Derived.Test.YtagbpjegdfhmpaaDoorRows
import Derived.Test.YtagbpjegdfhmpaaDoorWWords
import Derived.Test.YtagbpjegdfhmpaaDoorWLast
import Derived.Lib.SmallJoins
import Derived.SliceStrings
namespace Go.Proofs.YtagbpjegdfhmpaaDoor.G
open Go.RowKit Go.Proofs.YtagbpjegdfhmpaaDoorW.PrintWords Go.Proofs.YtagbpjegdfhmpaaDoorW.PrintLast Go.Joins Go.WideShapes Go.ChangeShapes Go.Deep
section
variable {H : Type} {enc : TypeId × Value → H} {P : Program} {w : World} {base : Nat} {spare : Nat → Bool} {held : Bool}
theorem array7 {α : Type} {cs : Array α} (h : cs.size = 7) : ∃ c0 c1 c2 c3 c4 c5 c6, cs = #[c0, c1, c2, c3, c4, c5, c6] := by
  obtain ⟨l⟩ := cs
  match l, h with
  | [c0, c1, c2, c3, c4, c5, c6], _ => exact ⟨c0, c1, c2, c3, c4, c5, c6, rfl⟩
theorem trod_struct7 {t : TypeId} {f0 f1 f2 f3 f4 f5 f6 : Field} {fuel : Nat} {cs : List Value} {x : DataW H × List MemPlace} (ht : P.underlying t = some (.struct #[f0, f1, f2, f3, f4, f5, f6])) (h : DataW.trod enc P w base spare held fuel t cs = some x) :
    ∃ y0 y1 y2 y3 y4 y5 y6 n, x = (.agg [y0.1, y1.1, y2.1, y3.1, y4.1, y5.1, y6.1], y0.2 ++ (y1.2 ++ (y2.2 ++ (y3.2 ++ (y4.2 ++ (y5.2 ++ y6.2)))))) ∧ cs.length = P.cellsOf t ∧
      DataW.trod enc P w base spare held n f0.type ((cs.drop f0.offset).take (P.cellsOf f0.type)) = some y0 ∧ DataW.trod enc P w base spare held n f1.type ((cs.drop f1.offset).take (P.cellsOf f1.type)) = some y1 ∧
      DataW.trod enc P w base spare held n f2.type ((cs.drop f2.offset).take (P.cellsOf f2.type)) = some y2 ∧ DataW.trod enc P w base spare held n f3.type ((cs.drop f3.offset).take (P.cellsOf f3.type)) = some y3 ∧
      DataW.trod enc P w base spare held n f4.type ((cs.drop f4.offset).take (P.cellsOf f4.type)) = some y4 ∧ DataW.trod enc P w base spare held n f5.type ((cs.drop f5.offset).take (P.cellsOf f5.type)) = some y5 ∧
      DataW.trod enc P w base spare held n f6.type ((cs.drop f6.offset).take (P.cellsOf f6.type)) = some y6 := by
  obtain ⟨xs, n, _, rfl, hl, hlen, hf⟩ := DataW.trod_struct ht h
  match xs, hlen with
  | [y0, y1, y2, y3, y4, y5, y6], _ => exact ⟨y0, y1, y2, y3, y4, y5, y6, n, by simp, hl, by simpa using hf 0 f0 rfl, by simpa using hf 1 f1 rfl, by simpa using hf 2 f2 rfl, by simpa using hf 3 f3 rfl, by simpa using hf 4 f4 rfl, by simpa using hf 5 f5 rfl, by simpa using hf 6 f6 rfl⟩
theorem open_agg7 {r : Reach} {b0 : Nat} {t : TypeId} {f0 f1 f2 f3 f4 f5 f6 : Field} {v : Value} {d : DataW H} {p : List MemPlace} (hs : P.underlying t = some (.struct #[f0, f1, f2, f3, f4, f5, f6])) (hone : oneCellFields P #[f0, f1, f2, f3, f4, f5, f6] = true) (hC : P.cellsOf t = 7)
    (hv : Value.okWide P w r b0 t v) (h : DataW.Trod enc P w base spare held t v d p) :
    ∃ (v0 v1 v2 v3 v4 v5 v6 : Value) (y0 y1 y2 y3 y4 y5 y6 : DataW H × List MemPlace) (n : Nat), v = .agg #[v0, v1, v2, v3, v4, v5, v6] ∧ d = .agg [y0.1, y1.1, y2.1, y3.1, y4.1, y5.1, y6.1] ∧ p = y0.2 ++ (y1.2 ++ (y2.2 ++ (y3.2 ++ (y4.2 ++ (y5.2 ++ y6.2))))) ∧
      DataW.trod enc P w base spare held n f0.type [v0] = some y0 ∧ DataW.trod enc P w base spare held n f1.type [v1] = some y1 ∧ DataW.trod enc P w base spare held n f2.type [v2] = some y2 ∧ DataW.trod enc P w base spare held n f3.type [v3] = some y3 ∧
      DataW.trod enc P w base spare held n f4.type [v4] = some y4 ∧ DataW.trod enc P w base spare held n f5.type [v5] = some y5 ∧ DataW.trod enc P w base spare held n f6.type [v6] = some y6 := by
  obtain ⟨cs, rfl, hsz⟩ := okWide_struct hs hv
  obtain ⟨c0, c1, c2, c3, c4, c5, c6, rfl⟩ := array7 (hsz.trans hC)
  obtain ⟨fuel, hf⟩ := h
  obtain ⟨y0, y1, y2, y3, y4, y5, y6, n, hx, _, h0, h1, h2, h3, h4, h5, h6⟩ := trod_struct7 hs hf
  obtain ⟨o0, k0⟩ := hone_of hone 0 f0 rfl
  obtain ⟨o1, k1⟩ := hone_of hone 1 f1 rfl
  obtain ⟨o2, k2⟩ := hone_of hone 2 f2 rfl
  obtain ⟨o3, k3⟩ := hone_of hone 3 f3 rfl
  obtain ⟨o4, k4⟩ := hone_of hone 4 f4 rfl
  obtain ⟨o5, k5⟩ := hone_of hone 5 f5 rfl
  obtain ⟨o6, k6⟩ := hone_of hone 6 f6 rfl
  simp only [Prod.mk.injEq] at hx
  exact ⟨c0, c1, c2, c3, c4, c5, c6, y0, y1, y2, y3, y4, y5, y6, n, rfl, hx.1, hx.2, by simpa [Value.cells, o0, k0] using h0, by simpa [Value.cells, o1, k1] using h1, by simpa [Value.cells, o2, k2] using h2, by simpa [Value.cells, o3, k3] using h3, by simpa [Value.cells, o4, k4] using h4, by simpa [Value.cells, o5, k5] using h5, by simpa [Value.cells, o6, k6] using h6⟩
theorem bulk_strs : ∀ (l : List ByteArray), l.length ≤ Rows.uptoBulkAll (strs (H := H) l) ∧ ∀ s ∈ l, s.size ≤ Rows.uptoBulkAll (strs (H := H) l)
  | [] => ⟨Nat.zero_le _, fun s hs => by simp at hs⟩
  | x :: l => by
    obtain ⟨h1, h2⟩ := bulk_strs l
    have e : Rows.uptoBulkAll (strs (H := H) (x :: l)) = x.data.toList.length + 1 + Rows.uptoBulkAll (strs (H := H) l) := rfl
    have ez : x.data.toList.length = x.size := by simp
    rw [e]
    refine ⟨by simp; omega, fun s hs => ?_⟩
    rcases List.mem_cons.1 hs with rfl | hs
    · omega
    · have := h2 s hs; omega
/-- A list of texts, opened: as it is read; its bulk. -/
theorem open_texts {t e : TypeId} {fuel : Nat} {v : Value} {x : DataW H × List MemPlace} (ht : P.underlying t = some (.slice e)) (he : P.underlying e = some .string) (hc : P.cellsOf e = 1)
    (h : DataW.trod enc P w base spare held fuel t [v] = some x) :
    ∃ (A : Option Addr) (l : List ByteArray) (c : Nat), v = .slice A l.length c ∧ l.length ≤ c ∧ Kd.C Kd.string w A l.length l ∧ l.length ≤ Rows.uptoBulk x.1 ∧ ∀ s ∈ l, s.size ≤ Rows.uptoBulk x.1 := by
  rcases open_strings ht he hc h with ⟨hv, rfl⟩ | ⟨a, len, cap, ss, hv, hb, hl, hm, hss, rfl, hcell, hsz⟩
  · obtain rfl : v = .slice none 0 0 := by simpa using hv
    exact ⟨none, [], 0, rfl, Nat.le_refl _, ⟨rfl, by simp, fun hn => absurd hn (by simp)⟩, Nat.zero_le _, fun s hs => by simp at hs⟩
  · obtain rfl : v = .slice (some a) len cap := by simpa using hv
    have hle : len ≤ ss.length := by rw [hss]; split <;> omega
    have hlen : (ss.take len).length = len := by simp; omega
    obtain ⟨b1, b2⟩ := bulk_strs (H := H) (ss.take len)
    have e : Rows.uptoBulk (.slice (strs (H := H) (ss.take len)) (strs (ss.drop len))) = Rows.uptoBulkAll (strs (H := H) (ss.take len)) + Rows.uptoBulkAll (strs (H := H) (ss.drop len)) + 1 := rfl
    refine ⟨some a, ss.take len, cap, by rw [hlen], by rw [hlen]; exact hl, ⟨rfl, ?_, fun _ => ⟨a, rfl, fun j p hj => ?_⟩⟩, by rw [e]; omega, fun s hs => by have := b2 s hs; rw [e]; omega⟩
    · have : maxLen ≤ 9223372036854775807 := by decide
      rw [hlen]; omega
    · have hjl : j < (ss.take len).length := (List.getElem?_eq_some_iff.1 hj).1
      refine ⟨[.string p], rfl, rfl, fun i u hu => ?_⟩
      have hi : i = 0 := by
        rcases i with _ | i
        · rfl
        · simp at hu
      subst hi
      obtain rfl : Value.string p = u := by simpa using hu
      have := hcell j (by omega)
      have e2 : ss.getD j ByteArray.empty = p := by
        rw [List.getElem?_take_of_lt (by omega)] at hj
        simp [List.getD, hj]
      rw [e2] at this
      simpa [Kd.string, Kd.scalar] using this
end
end Go.Proofs.YtagbpjegdfhmpaaDoor.G
