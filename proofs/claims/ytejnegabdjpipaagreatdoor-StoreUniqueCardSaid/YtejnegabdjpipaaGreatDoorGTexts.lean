/- A package variable that is an array of texts, as the rows list it: its cells, and the smaller machine's table over it. -/
import Derived.Test.YtejnegabdjpipaaGreatDoorAmTop
import Derived.Lib.LaidTab
import Derived.LaidSub
set_option linter.unusedSectionVars false
namespace Go.Proofs.YtejnegabdjpipaaGreatDoor.AM
variable [Syms]
open Go.RowKit

theorem cells_of_texts {H : Type} {enc : TypeId × Value → H} {P : Program} {w : World} {base : Nat} {sp : Nat → Bool} {held : Bool} {fuel : Nat} {t e : TypeId} {n : Nat} {cs : List Value} {zs : List (List UInt8)} {p : List MemPlace}
    (ht : P.underlying t = some (.array n e)) (he : P.underlying e = some .string) (hce : P.cellsOf e = 1) (hct : P.cellsOf t = n)
    (h : DataW.trod enc P w base sp held fuel t cs = some (.agg (zs.map fun z => .lit (.string z)), p)) : cs = zs.map fun z => Value.string ⟨z.toArray⟩ := by
  cases fuel with
  | zero => simp [DataW.trod] at h
  | succ fuel =>
    simp only [DataW.trod, ht, hce, hct, Nat.mul_one] at h
    split at h
    · rename_i hl
      obtain ⟨xs, hm, hx⟩ := Option.map_eq_some_iff.1 h
      have hxs : xs.map (·.1) = zs.map fun z => (DataW.lit (.string z) : DataW H) := by
        have := congrArg Prod.fst hx
        simpa using this
      have hxl : xs.length = n := by simpa using Lib.mapM_length hm
      have hzl : zs.length = n := by
        have := congrArg List.length hxs
        simp at this
        omega
      apply List.ext_getElem?
      intro i
      by_cases hi : i < n
      · obtain ⟨b, hb, hf⟩ := Lib.mapM_at hm i i (by simp [hi])
        obtain ⟨z, hc, rfl, _⟩ := DataW.trod_string he hf
        have h1 : cs[i]? = some (.string z) := by
          have := congrArg (·[0]?) hc
          simpa [List.getElem?_take, List.getElem?_drop] using this
        have h2 : (xs.map (·.1))[i]? = some (DataW.lit (.string z.data.toList) : DataW H) := by simp [hb]
        rw [hxs] at h2
        simp only [List.getElem?_map, Option.map_eq_some_iff, DataW.lit.injEq, Lit.string.injEq] at h2
        obtain ⟨z', hz', e1⟩ := h2
        simp [h1, hz', e1]
      · rw [List.getElem?_eq_none (by omega), List.getElem?_eq_none (by simp; omega)]
    · cases h

/-- The table that holds one array of texts, and nothing else. -/
noncomputable def textsT (g t n : Nat) (zs : List (List UInt8)) : T O := T.lf.put g (some (.row ⟨zs.map V.str, t, n, 0, false, true, true⟩))
theorem texts_rel {P : Program} {W : World} {name : String} {zs : List (List UInt8)} {rest : List (String × DataW Unit)} {g t e n k : Nat} {zero : Array Value} (hk : P.globals.size ≤ k)
    (hg : P.globalNamed name = some g) (hty : (P.globals[g]?).map (·.type) = some t) (ht : P.underlying t = some (.array n e)) (he : P.underlying e = some .string) (hce : P.cellsOf e = 1) (hct : P.cellsOf t = n)
    (hlt : g < P.globals.size) (h0 : ((begin P (fun _ _ => 0) default).world.heap[g]?).bind Obj.row? = some (zero, t)) (hz : zero.size = n) (hn : zs.length = n)
    (h : laidMet P ((name, .agg (zs.map fun z => .lit (.string z))) :: rest) W) (hsh : W.ShapedOpen P) : HRel P.globals.size W.heap.size W (Mu.of P.globals.size (textsT g t n zs)) ⟨textsT g t n zs, k⟩ W := by
  obtain ⟨ps, ⟨g', t', cs, fuel, p, q, hg', ht', hvar, hd, _, _⟩, _⟩ := h
  obtain rfl := Option.some.inj (hg.symm.trans hg')
  obtain rfl := Option.some.inj (hty.symm.trans ht')
  have hcs := cells_of_texts ht he hce hct hd
  obtain ⟨cs', hh, hs, _⟩ := hsh.1 g zero t hlt h0
  have hv : cs' = cs := by
    unfold World.var? at hvar
    simpa [hg, hh] using hvar
  subst hv
  refine of_rel W hk fun i o hi => ?_
  by_cases hig : i = g
  · subst hig
    have e1 : (textsT i t n zs).get i = some (.row ⟨zs.map V.str, t, n, 0, false, true, true⟩) := T.put_get _ _ _
    rw [e1] at hi
    injection hi with hi; subst hi
    have hlen : cs'.size = n := by rw [hs, hz]
    refine ⟨_, rfl, hlt, ?_, rfl, cs', (0, 0), ?_⟩
    · rcases Nat.lt_or_ge i W.heap.size with h | h
      · exact h
      · simp [Array.getElem?_eq_none h] at hh
    · refine { at_ := hh, sz := rfl, fits := by simp, ends := by simp [hlen, hn], vals := ?_, frz := .inl ⟨rfl, .inl rfl⟩, ex := fun _ => ⟨rfl, by simp [hlen, hn]⟩ }
      simp only [List.drop_zero, List.length_map]
      rw [hcs, List.take_of_length_le (by simp)]
      exact vsRel_texts _ _
  · have e1 : (textsT g t n zs).get i = none := (T.put_get_other _ _ _ _ (fun h => hig h.symm)).trans rfl
    rw [e1] at hi; cases hi
end Go.Proofs.YtejnegabdjpipaaGreatDoor.AM
