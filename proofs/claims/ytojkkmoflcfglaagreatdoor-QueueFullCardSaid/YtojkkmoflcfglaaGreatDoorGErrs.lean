/- Variables that errors.New made, as the rows list them, and an array of texts: their cells, and the smaller machine's rows over them. -/
import Derived.Test.YtojkkmoflcfglaaGreatDoorAmTop
import Derived.Test.YtojkkmoflcfglaaGreatDoorGTexts
import Derived.Stop.LaidErr
import Derived.LaidSub
set_option linter.unusedSectionVars false
namespace Go.Proofs.YtojkkmoflcfglaaGreatDoor.AM
variable [Syms]
open Go.RowKit

/-- A value of a pointer's type is a pointer. -/
theorem ptr_of_cells {P : Program} {w : World} {u e : TypeId} {a : Value} {ad : Addr} (pu : P.underlying u = some (.pointer e)) (hok : Value.okWide P w .any 0 u a) (h : a.cells.toList = [.pointer (some ad)]) : a = .pointer (some ad) := by
  cases a
  case agg cs =>
    simp [Value.okWide, Cell.okWide, Cell.ok, pu] at hok
  all_goals (simp [Value.cells] at h; first | done | rw [h] | exact h)
/-- What the reading of a variable that errors.New made says. -/
theorem err_of_trod {H : Type} {enc : TypeId × Value → H} {P : Program} {w : World} {sp : Nat → Bool} {fuel : Nat} {t u e : TypeId} {f0 : Field} {ms : Array (String × TypeId)} {nm : String} {z : List UInt8} {cs : List Value} {p : List MemPlace}
    (ht : P.underlying t = some (.interface ms)) (hu : ∀ v : TypeId, P.typeName? 3 v = some nm → v = u) (pu : P.underlying u = some (.pointer e)) (eu : P.underlying e = some (.struct #[f0]))
    (h0 : f0.offset = 0) (hs : P.underlying f0.type = some .string) (hc : P.cellsOf e = 1) (hc0 : P.cellsOf f0.type = 1)
    (hok : ∀ u' v', cs = [.iface u' v'] → Value.okWide P w .any 0 u' v')
    (h : DataW.trod enc P w 0 sp false fuel t cs = some (.iface nm (.ptr (.agg [.lit (.string z)])), p)) :
    ∃ b o, cs = [.iface u (.pointer (some ⟨b, o, none⟩))] ∧ w.cell? ⟨b, o, none⟩ = some (.string ⟨z.toArray⟩) ∧ MemPlace.cell b o ∈ p := by
  cases fuel with
  | zero => simp [DataW.trod] at h
  | succ n =>
    unfold DataW.trod at h
    rw [ht] at h
    split at h <;> simp_all
    rename_i v a heq
    split at h
    all_goals simp_all
    obtain ⟨h, e0⟩ := h
    have hcase : v = u := hu _ (by assumption)
    subst hcase
    rcases DataW.trod_pointer pu h with ⟨_, e1⟩ | ⟨ad, cs', y, n', _, e1, e2, e3, e4⟩
    · cases e1
    · obtain ⟨e2a, e2b⟩ := Prod.mk.inj e2
      have e2a : y.1 = .agg [.lit (.string z)] := by injection e2a with e; exact e.symm
      obtain ⟨y0, n2, rfl, hl, h2⟩ := ChangeShapes.trod_struct1 eu e4
      have e2a : y0.1 = .lit (.string z) := by simpa using e2a
      obtain ⟨s, g1, rfl, _⟩ := DataW.trod_string hs h2
      have e2a : s.data.toList = z := by simpa using e2a
      rw [hc] at e3 hl
      obtain ⟨x, rfl⟩ : ∃ x, cs' = [x] := by
        match cs', hl with
        | [x], _ => exact ⟨x, rfl⟩
      have hx : w.cell? ad = some x := by
        cases hv : w.cell? ad with
        | none => simp [World.cells?, Addr.add, hv] at e3
        | some x' => simp [World.cells?, Addr.add, hv] at e3; rw [e3]
      have hsp : ad.spot = none := World.cell?_spot hx
      obtain ⟨b, o, spot⟩ := ad
      dsimp only at hsp
      subst hsp
      have g1 : x = .string s := by simpa [h0, hc0] using g1
      refine ⟨b, o, ⟨rfl, ptr_of_cells pu hok e1⟩, ?_, ?_⟩
      · rw [hx, g1]; subst e2a; simp
      · rw [e2b, hc]; simp [MemPlace.row]

/-- What such a variable, listed, gives of the world. -/
theorem err_laid {P : Program} {W : World} {name nm : String} {z : List UInt8} {rest : List (String × DataW Unit)} {g t u e : TypeId} {f0 : Field} {ms : Array (String × TypeId)} {zero : Array Value}
    (hg : P.globalNamed name = some g) (hty : (P.globals[g]?).map (·.type) = some t) (ht : P.underlying t = some (.interface ms)) (hu : ∀ v : TypeId, P.typeName? 3 v = some nm → v = u) (pu : P.underlying u = some (.pointer e)) (eu : P.underlying e = some (.struct #[f0]))
    (h0 : f0.offset = 0) (hs : P.underlying f0.type = some .string) (hc : P.cellsOf e = 1) (hc0 : P.cellsOf f0.type = 1)
    (hlt : g < P.globals.size) (hb : ((begin P (fun _ _ => 0) default).world.heap[g]?).bind Obj.row? = some (zero, t))
    (h : laidMet P ((name, .iface nm (.ptr (.agg [.lit (.string z)]))) :: rest) W) (hsh : W.ShapedOpen P) :
    ∃ b o cb tb, W.heap[g]? = some (.cells #[.iface u (.pointer (some ⟨b, o, none⟩))] t (0, 0)) ∧ W.cell? ⟨b, o, none⟩ = some (.string ⟨z.toArray⟩) ∧ W.heap[b]? = some (.cells cb tb (0, 0)) := by
  obtain ⟨ps, ⟨g', t', cs, fuel, p, q, hg', ht', hvar, hd, _, rfl⟩, _, hrows⟩ := h
  obtain rfl := Option.some.inj (hg.symm.trans hg')
  obtain rfl := Option.some.inj (hty.symm.trans ht')
  obtain ⟨l⟩ := cs
  have hok : ∀ u' v', l = [.iface u' v'] → Value.okWide P W .any 0 u' v' := fun u' v' e => by
    subst e
    exact (hrows g 0 (by simp [MemPlace.row])).2 u' v' (by simpa using World.var?_cell hg hvar 0)
  obtain ⟨b, o, rfl, h1, h2⟩ := err_of_trod ht hu pu eu h0 hs hc hc0 hok hd
  obtain ⟨⟨cb, tb, h3⟩, _⟩ := hrows b o (by simp [h2])
  obtain ⟨cs', hh, _⟩ := hsh.1 g zero t hlt hb
  have hv : cs' = #[.iface u (.pointer (some ⟨b, o, none⟩))] := by
    unfold World.var? at hvar
    simpa [hg, hh] using hvar
  subst hv
  exact ⟨b, o, cb, tb, hh, h1, h3⟩
/-- The row of such a variable. -/
theorem err_row {W : World} {m : Mu} {id g b o x y : Nat} {t u : TypeId} (hm : m id = some ⟨b, o, x, y⟩) (hh : W.heap[g]? = some (.cells #[.iface u (.pointer (some ⟨b, o, none⟩))] t (0, 0))) :
    g < W.heap.size ∧ ORel m W ⟨g, 0, 1, 1⟩ (.row ⟨[.iface u (.ptr id 0)], t, 1, 0, false, true, true⟩) := by
  refine ⟨?_, _, (0, 0), { at_ := hh, sz := rfl, fits := by simp, ends := by simp, vals := ?_, frz := .inl ⟨rfl, .inl rfl⟩, ex := fun _ => ⟨rfl, by simp⟩ }⟩
  · rcases Nat.lt_or_ge g W.heap.size with h | h
    · exact h
    · simp [Array.getElem?_eq_none h] at hh
  · simpa using VsRel.cons _ _ _ _ (VRel.iface u _ _ (VRel.ptr id 0 _ hm)) .nil
/-- The row of an array of texts. -/
theorem texts_row {P : Program} {W : World} {m : Mu} {name : String} {zs : List (List UInt8)} {rest : List (String × DataW Unit)} {g t e n : Nat} {zero : Array Value}
    (hg : P.globalNamed name = some g) (hty : (P.globals[g]?).map (·.type) = some t) (ht : P.underlying t = some (.array n e)) (he : P.underlying e = some .string) (hce : P.cellsOf e = 1) (hct : P.cellsOf t = n)
    (hlt : g < P.globals.size) (h0 : ((begin P (fun _ _ => 0) default).world.heap[g]?).bind Obj.row? = some (zero, t)) (hz : zero.size = n) (hn : zs.length = n)
    (h : laidMet P ((name, .agg (zs.map fun z => .lit (.string z))) :: rest) W) (hsh : W.ShapedOpen P) :
    g < W.heap.size ∧ ORel m W ⟨g, 0, n, n⟩ (.row ⟨zs.map V.str, t, n, 0, false, true, true⟩) := by
  obtain ⟨ps, ⟨g', t', cs, fuel, p, q, hg', ht', hvar, hd, _, _⟩, _⟩ := h
  obtain rfl := Option.some.inj (hg.symm.trans hg')
  obtain rfl := Option.some.inj (hty.symm.trans ht')
  have hcs := cells_of_texts ht he hce hct hd
  obtain ⟨cs', hh, hs, _⟩ := hsh.1 g zero t hlt h0
  have hv : cs' = cs := by
    unfold World.var? at hvar
    simpa [hg, hh] using hvar
  subst hv
  have hlen : cs'.size = n := by rw [hs, hz]
  refine ⟨?_, cs', (0, 0), { at_ := hh, sz := rfl, fits := by simp [hn], ends := by simp [hlen], vals := ?_, frz := .inl ⟨rfl, .inl rfl⟩, ex := fun _ => ⟨rfl, by simp [hlen, hn]⟩ }⟩
  · rcases Nat.lt_or_ge g W.heap.size with h | h
    · exact h
    · simp [Array.getElem?_eq_none h] at hh
  · simp only [List.drop_zero, List.length_map]
    rw [hcs, List.take_of_length_le (by simp)]
    exact vsRel_texts _ _
/-- A table of package variables that are looked at, and places besides that nobody looks at. -/
theorem of_rel' (w : World) {n k : Nat} {t : T O} {m : Mu} (hm : ∀ g, g < n → m g = Mu.of n t g) (hd : ∀ id, k ≤ id → m id = none)
    (ht : ∀ g o, t.get g = some o → ∃ r, o = .row r ∧ g < n ∧ g < w.heap.size ∧ r.ro = true ∧ ORel m w ⟨g, 0, r.cs.length, r.sz⟩ (.row r)) : HRel n w.heap.size w m ⟨t, k⟩ w where
  below := .refl _ _
  n0 := Nat.le_refl _
  dom := hd
  objs := fun id o h => by
    have h : t.get id = some o := h
    obtain ⟨r, rfl, h1, h2, h3, h4⟩ := ht id o h
    refine ⟨⟨id, 0, r.cs.length, r.sz⟩, by rw [hm id h1]; simp only [Mu.of]; rw [if_pos h1, h], h2, fun hro => ?_, h4⟩
    have hro : r.ro = false := hro
    rw [h3] at hro; cases hro
  inj := fun i j oi oj Li Lj hi hj ei ej eb => by
    have hi : t.get i = some oi := hi
    have hj : t.get j = some oj := hj
    obtain ⟨r, rfl, h1, _⟩ := ht i oi hi
    obtain ⟨r', rfl, h1', _⟩ := ht j oj hj
    rw [hm i h1] at ei
    rw [hm j h1'] at ej
    simp only [Mu.of] at ei ej
    rw [if_pos h1, hi] at ei
    rw [if_pos h1', hj] at ej
    injection ei with ei; injection ej with ej
    subst ei; subst ej
    exact eb
  glob := fun g hg => by
    rw [hm g hg]
    simp only [Mu.of]
    rw [if_pos hg]
    split
    · exact ⟨_, rfl, rfl, rfl⟩
    · exact ⟨_, rfl, rfl, rfl⟩
end Go.Proofs.YtojkkmoflcfglaaGreatDoor.AM
