/- The smaller machine's operations do what the program's do: append and copy. -/
import Derived.Test.YtagbpjegdfhmpaaAmSound3
set_option linter.unusedSimpArgs false
set_option linter.unusedVariables false
namespace Go.Proofs.Ytagbpjegdfhmpaa.AM
open Go.RowKit (Below)

section
variable {P : Program} {NG N0 : Nat} {w0 : World} {m : Mu} {h : H} {w : World} {nid : Nat}

theorem first_ok (R : HRel NG N0 w0 m h w) {k n : Nat} {x : V} {x' : Value} {cs : List V} (e : firstA k n x h = some cs) (hx : VRel m x x') :
    ∃ cs', (Builtin.firstCells k n x').run P w = .ok cs' w ∧ VsRel m cs cs'.toList := by
  unfold firstA at e
  cases x with
  | nilsl => injection e with e; subst e; cases hx; exact ⟨#[], by simp [Builtin.firstCells], by simpa using VsRel.nil⟩
  | str b =>
    injection e with e; subst e
    obtain rfl := str_inv hx
    have : ∀ l : List UInt8, VsRel m (l.map fun c => V.int .u8 (c.toNat : Int)) (l.map fun c => Value.int .u8 (c.toNat : Int)) := by
      intro l
      induction l with
      | nil => exact .nil
      | cons a l ih => exact .cons _ _ _ _ (.int _ _) ih
    have e : (Array.map (fun b : UInt8 => Value.int IntKind.u8 (b.toNat : Int)) ((⟨b.toArray⟩ : ByteArray).extract 0 n).data).toList = (b.take n).map fun c => Value.int .u8 (c.toNat : Int) := by
      rw [ByteArray.data_extract]; simp
    exact ⟨Array.map (fun b : UInt8 => Value.int IntKind.u8 (b.toNat : Int)) ((⟨b.toArray⟩ : ByteArray).extract 0 n).data, rfl, by rw [e]; exact this _⟩
  | sl id off len cap =>
    obtain ⟨L, c, hm, rfl, _⟩ := sl_inv hx
    replace e := bnd_some.1 (show (rowOf h id).bind _ = some _ from e); obtain ⟨r, hr, e⟩ := e
    replace e := grd_some.1 e; obtain ⟨hl, e⟩ := e
    injection e with e; subst e
    obtain ⟨_, _, cc, fz, RR⟩ := row_of R hr hm
    obtain ⟨vs, h1, h2⟩ := RR.loads (P := P) off (n * k) (Nat.le_of_ble_eq_true hl)
    exact ⟨vs.toArray, by simpa [Builtin.firstCells] using h1, by simpa using h2⟩
  | _ => simp at e
theorem len_ok {x : V} {x' : Value} {n : Nat} (e : lenA x = some n) (hx : VRel m x x') : (Builtin.lenOf x').run P w = .ok n w := by
  cases x <;> simp [lenA] at e
  case nilsl => subst e; cases hx; simp [Builtin.lenOf]
  case str b => subst e; obtain rfl := str_inv hx; simp [Builtin.lenOf, ByteArray.size]
  case sl id off len cap => subst e; obtain ⟨L, c, hm, rfl, _⟩ := sl_inv hx; simp [Builtin.lenOf]

theorem growBy_le (newLen : Nat) (h : 256 ≤ newLen) : ∀ r c, c ≤ 2 * newLen → Builtin.growBy newLen r c ≤ 2 * newLen
  | 0, c, hc => by simpa [Builtin.growBy] using hc
  | r + 1, c, hc => by
    rw [Builtin.growBy]
    split
    · exact hc
    · exact growBy_le newLen h r _ (by omega)
theorem nextcap_le {need old : Nat} (h : old < need) : Builtin.nextslicecap need old ≤ 2 * need := by
  unfold Builtin.nextslicecap
  split
  · omega
  · split
    · omega
    · exact growBy_le need (by omega) 4 old (by omega)

def Puts (P : Program) (base : Option Addr) (o : Nat) (vs : List Value) (w w' : World) : Prop := match base with | some a => (storeCells (a.add o) vs).run P w = .ok () w' | none => w' = w
/-- append, where the new elements fit. -/
theorem append_in {st : TypeId} {xt : Option TypeId} {el : TypeId} {k n len c : Nat} {base : Option Addr} {x' : Value} {new' : Array Value} {ats : Array TypeId} {ty : TypeId} {w' : World}
    (ha : ats[0]? = some st) (hb : ats[1]? = xt) (hz : ∀ t, xt = some t → ∃ d, P.underlying t = some d ∧ (∀ q, d ≠ .int q)) (hu : P.underlying st = some (.slice el)) (hk : szOf P el = some k)
    (hn : (Builtin.lenOf x').run P w = .ok n w) (hnew : (Builtin.firstCells k n x').run P w = .ok new' w) (hfit : len + n ≤ c)
    (hst : Puts P base (len * k) new'.toList w w') :
    (Builtin.append_ ats ty #[.slice base len c, x']).run P w = .ok (.slice base (len + n) c) w' := by
  unfold Builtin.append_
  simp only [ha, hb, List.getElem?_toArray, List.getElem?_cons_zero, List.getElem?_cons_succ]
  simp only [Sem.run_bind, run_underlying hu, Result.andThen_ok, run_sizeOf hk]
  cases xt with
  | none =>
    simp only [Result.andThen_ok, Bool.false_eq_true, if_false, hn, Bool.not_false, if_true, hfit, Sem.run_bind, hnew, Sem.run_pure]
    cases base with
    | none => simp only [Puts] at hst; subst hst; rfl
    | some a => simp only [Puts] at hst; simp only [Sem.run_bind, hst, Result.andThen_ok, Sem.run_pure]
  | some t =>
    obtain ⟨d, h1, h2⟩ := hz t rfl
    have hd : (match d with | .int _ => true | _ => false) = false := by cases d <;> first | rfl | exact absurd rfl (h2 _)
    simp only [Sem.run_bind, run_underlying h1, Result.andThen_ok, Sem.run_pure, hd]
    simp only [Result.andThen_ok, Bool.false_eq_true, if_false, hn, Bool.not_false, if_true, hfit, Sem.run_bind, hnew, Sem.run_pure]
    cases base with
    | none => simp only [Puts] at hst; subst hst; rfl
    | some a => simp only [Puts] at hst; simp only [Sem.run_bind, hst, Result.andThen_ok, Sem.run_pure]

/-- append, where a new row is made. -/
theorem append_new {st : TypeId} {xt : Option TypeId} {el : TypeId} {k n len c by_ : Nat} {base : Option Addr} {x' : Value} {new' old' : Array Value} {ats : Array TypeId} {ty : TypeId} {i : TypeInfo} {z' : Value}
    (ha : ats[0]? = some st) (hb : ats[1]? = xt) (hz : ∀ t, xt = some t → ∃ d, P.underlying t = some d ∧ (∀ q, d ≠ .int q)) (hu : P.underlying st = some (.slice el)) (hk : szOf P el = some k)
    (hn : (Builtin.lenOf x').run P w = .ok n w) (hnew : ∀ w' : World, w'.heap = w.heap → (Builtin.firstCells k n x').run P w' = .ok new' w') (hfit : ¬ (len + n ≤ c))
    (hold : ∀ w' : World, w'.heap = w.heap → (Builtin.firstCells k len (.slice base len c)).run P w' = .ok old' w')
    (hi : P.info? el = some i) (hib : i.bytes = by_) (hb0 : by_ ≠ 0) (hroom : (len + n) * by_ ≤ 1099511627776) (hzv : ∀ w', (zeroValue el).run P w' = .ok z' w') :
    ∃ newCap, len + n ≤ newCap ∧ (Builtin.append_ ats ty #[.slice base len c, x']).run P w = .ok (.slice (some ⟨w.heap.size, 0, none⟩) (len + n) newCap)
      { w with drawn := w.drawn + 1, heap := w.heap.push (.cells (old' ++ new' ++ Builtin.zeroCells z'.cells (newCap - (len + n))) el) } := by
  refine ⟨(Question.appendCap (len + n) c el).cut (w.tape w.drawn (.appendCap (len + n) c el)), Nat.le_add_right _ _, ?_⟩
  generalize hcap : (Question.appendCap (len + n) c el).cut (w.tape w.drawn (.appendCap (len + n) c el)) = newCap
  have hch : (choose (.appendCap (len + n) c el)).run P w = .ok newCap { w with drawn := w.drawn + 1 } := by
    rw [run_choose, hcap]; rfl
  have hs1 : ¬ (((len + n : Nat) : Int) > IntKind.i64.max ∧ (False ∨ i.bytes = 0)) := by rw [hib]; simp [hb0]
  have hs2 : ¬ (Builtin.nextslicecap (len + n) c * i.bytes > 2 ^ 48) := by
    rw [hib]
    have h1 : Builtin.nextslicecap (len + n) c ≤ 2 * (len + n) := nextcap_le (by omega)
    have h2 : Builtin.nextslicecap (len + n) c * by_ ≤ 2 * (len + n) * by_ := Nat.mul_le_mul_right _ h1
    rw [Nat.mul_assoc] at h2
    omega
  have hnew' := hnew { w with drawn := w.drawn + 1 } rfl
  have hold' := hold { w with drawn := w.drawn + 1 } rfl
  have hzv' := hzv { w with drawn := w.drawn + 1 }
  have hch' : ∀ f : Nat → Sem Value, (choose (.appendCap (len + n) c el) >>= f).run P w = (f newCap).run P { w with drawn := w.drawn + 1 } := fun f => by rw [Sem.run_bind, hch]; rfl
  unfold Builtin.append_
  simp only [ha, hb, List.getElem?_toArray, List.getElem?_cons_zero, List.getElem?_cons_succ]
  simp only [Sem.run_bind, run_underlying hu, Result.andThen_ok, run_sizeOf hk]
  cases xt with
  | none =>
    simp only [Result.andThen_ok, Bool.false_eq_true, if_false, hn, Bool.not_false, if_true, hfit, Sem.run_bind, run_typeInfo hi, Sem.run_pure]
    rw [if_neg hs1]
    simp only [Sem.run_bind, run_typeInfo hi, Result.andThen_ok, hs2, if_false, Sem.run_pure]
    rw [hch]
    simp only [Result.andThen_ok, run_typeInfo hi, run_askRoom, hold', hnew', hzv', newRow, Sem.run_bind, run_newObj, Sem.run_pure]
  | some t =>
    obtain ⟨d, h1, h2⟩ := hz t rfl
    have hd : (match d with | .int _ => true | _ => false) = false := by cases d <;> first | rfl | exact absurd rfl (h2 _)
    simp only [Sem.run_bind, run_underlying h1, Result.andThen_ok, Sem.run_pure, hd]
    simp only [Result.andThen_ok, Bool.false_eq_true, if_false, hn, Bool.not_false, if_true, hfit, Sem.run_bind, run_typeInfo hi, Sem.run_pure]
    rw [if_neg hs1]
    simp only [Sem.run_bind, run_typeInfo hi, Result.andThen_ok, hs2, if_false, Sem.run_pure]
    rw [hch]
    simp only [Result.andThen_ok, run_typeInfo hi, run_askRoom, hold', hnew', hzv', newRow, Sem.run_bind, run_newObj, Sem.run_pure]

/-- append of zeros ('append(s, make([]T, n)...)'), where they fit. -/
theorem append_in_z {st t1 : TypeId} {el : TypeId} {k n len c : Nat} {q q1 : IntKind} {base : Option Addr} {new' : Array Value} {ats : Array TypeId} {ty : TypeId} {w' : World} {i : TypeInfo}
    (ha : ats[0]? = some st) (hb : ats[1]? = some t1) (hz : P.underlying t1 = some (.int q1)) (hu : P.underlying st = some (.slice el)) (hk : szOf P el = some k) (hi : P.info? el = some i) (hn : n ≤ 1048576) (hn2 : n * i.bytes ≤ 1099511627776)
    (hnew : (if n * k = 0 then pure #[] else do pure (Builtin.zeroCells (← zeroValue el).cells n) : Sem (Array Value)).run P w = .ok new' w) (hfit : len + n ≤ c)
    (hst : Puts P base (len * k) new'.toList w w') :
    (Builtin.append_ ats ty #[.slice base len c, .int q (n : Int)]).run P w = .ok (.slice base (len + n) c) w' := by
  have hw := wrap_nat hn
  have h1 : ¬ ((n : Int) < 0) := by omega
  have h2 : ¬ ((n : Int) * (i.bytes : Int) > 2 ^ 48) := by
    have e : ((n : Int) * (i.bytes : Int)) = ((n * i.bytes : Nat) : Int) := by rw [Int.natCast_mul]
    rw [e]; omega
  unfold Builtin.append_
  simp only [ha, hb, List.getElem?_toArray, List.getElem?_cons_zero, List.getElem?_cons_succ]
  simp only [Sem.run_bind, run_underlying hu, Result.andThen_ok, run_sizeOf hk, run_underlying hz, Sem.run_pure]
  simp only [if_true, Sem.run_bind, asInt, asIntOf, Sem.run_pure, Result.andThen_ok, hw, h1, if_false, run_typeInfo hi, h2, Int.toNat_natCast, hfit, Bool.not_true, Bool.false_eq_true]
  by_cases h0 : n * k = 0
  · simp only [h0, if_true, Sem.run_pure, Result.ok.injEq, and_true] at hnew
    subst hnew
    simp only [h0, if_true, Sem.run_pure, Sem.run_bind, Result.andThen_ok]
    cases base with
    | none => simp only [Puts] at hst; subst hst; rfl
    | some a => simp only [Puts] at hst; simp only [Sem.run_bind, hst, Result.andThen_ok, Sem.run_pure]
  · simp only [h0, if_false, Sem.run_bind] at hnew ⊢
    cases hzv : (zeroValue el).run P w with
    | halt x y => rw [hzv] at hnew; cases hnew
    | ok z wz =>
      rw [hzv] at hnew
      simp only [Result.andThen_ok, Sem.run_pure, Result.ok.injEq] at hnew ⊢
      obtain ⟨hn', hwz⟩ := hnew
      subst hn'; subst hwz
      cases base with
      | none => simp only [Puts] at hst; subst hst; rfl
      | some a => simp only [Puts] at hst; simp only [Sem.run_bind, hst, Result.andThen_ok, Sem.run_pure]
/-- append of zeros, where a new row is made. -/
theorem append_new_z {st t1 : TypeId} {el : TypeId} {k n len c by_ : Nat} {q q1 : IntKind} {base : Option Addr} {new' old' : Array Value} {ats : Array TypeId} {ty : TypeId} {i : TypeInfo} {z' : Value}
    (ha : ats[0]? = some st) (hb : ats[1]? = some t1) (hz : P.underlying t1 = some (.int q1)) (hu : P.underlying st = some (.slice el)) (hk : szOf P el = some k) (hn : n ≤ 1048576)
    (hnew : (if n * k = 0 then #[] else Builtin.zeroCells z'.cells n) = new') (hfit : ¬ (len + n ≤ c))
    (hold : ∀ w' : World, w'.heap = w.heap → (Builtin.firstCells k len (.slice base len c)).run P w' = .ok old' w')
    (hi : P.info? el = some i) (hib : i.bytes = by_) (hb0 : by_ ≠ 0) (hroom : (len + n) * by_ ≤ 1099511627776) (hzv : ∀ w', (zeroValue el).run P w' = .ok z' w') :
    ∃ newCap, len + n ≤ newCap ∧ (Builtin.append_ ats ty #[.slice base len c, .int q (n : Int)]).run P w = .ok (.slice (some ⟨w.heap.size, 0, none⟩) (len + n) newCap)
      { w with drawn := w.drawn + 1, heap := w.heap.push (.cells (old' ++ new' ++ Builtin.zeroCells z'.cells (newCap - (len + n))) el) } := by
  refine ⟨(Question.appendCap (len + n) c el).cut (w.tape w.drawn (.appendCap (len + n) c el)), Nat.le_add_right _ _, ?_⟩
  generalize hcap : (Question.appendCap (len + n) c el).cut (w.tape w.drawn (.appendCap (len + n) c el)) = newCap
  have hch : (choose (.appendCap (len + n) c el)).run P w = .ok newCap { w with drawn := w.drawn + 1 } := by
    rw [run_choose, hcap]; rfl
  have hw := wrap_nat hn
  have h1 : ¬ ((n : Int) < 0) := by omega
  have hroom2 : n * by_ ≤ 1099511627776 := Nat.le_trans (Nat.mul_le_mul_right _ (by omega)) hroom
  have h2 : ¬ ((n : Int) * (i.bytes : Int) > 2 ^ 48) := by
    have e : ((n : Int) * (i.bytes : Int)) = ((n * i.bytes : Nat) : Int) := by rw [Int.natCast_mul]
    rw [e, hib]; omega
  have hs1 : ¬ (((len + n : Nat) : Int) > IntKind.i64.max ∧ (True ∨ i.bytes = 0)) := by
    rintro ⟨hgt, _⟩
    have h3 : len + n ≤ (len + n) * by_ := Nat.le_mul_of_pos_right _ (by omega)
    simp [IntKind.max, IntKind.bits, IntKind.signed] at hgt
    omega
  have hs2 : ¬ (Builtin.nextslicecap (len + n) c * i.bytes > 2 ^ 48) := by
    rw [hib]
    have h1 : Builtin.nextslicecap (len + n) c ≤ 2 * (len + n) := nextcap_le (by omega)
    have h2 : Builtin.nextslicecap (len + n) c * by_ ≤ 2 * (len + n) * by_ := Nat.mul_le_mul_right _ h1
    rw [Nat.mul_assoc] at h2
    omega
  have hold' := hold { w with drawn := w.drawn + 1 } rfl
  have hzv' := hzv { w with drawn := w.drawn + 1 }
  unfold Builtin.append_
  simp only [ha, hb, List.getElem?_toArray, List.getElem?_cons_zero, List.getElem?_cons_succ]
  simp only [Sem.run_bind, run_underlying hu, Result.andThen_ok, run_sizeOf hk, run_underlying hz, Sem.run_pure]
  simp only [if_true, Sem.run_bind, asInt, asIntOf, Sem.run_pure, Result.andThen_ok, hw, h1, if_false, run_typeInfo hi, h2, Int.toNat_natCast, hfit, Bool.not_true, Bool.false_eq_true]
  rw [if_neg hs1]
  simp only [Sem.run_bind, run_typeInfo hi, Result.andThen_ok, hs2, if_false, Sem.run_pure]
  rw [hch]
  simp only [Result.andThen_ok, run_typeInfo hi, run_askRoom, hold', hzv', newRow, Sem.run_bind, run_newObj, Sem.run_pure]
  by_cases h0 : n * k = 0
  · simp only [h0, if_true] at hnew ⊢
    subst hnew
    simp only [Sem.run_pure, Result.andThen_ok, Sem.run_bind, hzv', run_newObj]
  · simp only [h0, if_false] at hnew ⊢
    subst hnew
    simp only [Sem.run_pure, Result.andThen_ok, Sem.run_bind, hzv', run_newObj]

theorem zeros_spec {xt : Option TypeId} (e : zerosA P xt = some false) : ∀ t, xt = some t → ∃ d, P.underlying t = some d ∧ (∀ q, d ≠ .int q) := by
  intro t ht
  subst ht
  replace e := bnd_some.1 (show (P.underlying t).bind _ = some false from e); obtain ⟨d, h1, h2⟩ := e
  refine ⟨d, h1, fun q hq => ?_⟩
  subst hq
  cases h2
theorem zeros_true {xt : Option TypeId} (e : zerosA P xt = some true) : ∃ t q, xt = some t ∧ P.underlying t = some (.int q) := by
  cases xt with
  | none => cases e
  | some t =>
    replace e := bnd_some.1 (show (P.underlying t).bind _ = some true from e); obtain ⟨d, h1, h2⟩ := e
    cases d <;> first | exact ⟨t, _, rfl, h1⟩ | cases h2
theorem zeroCells_size (z : Array Value) (n : Nat) : (Builtin.zeroCells z n).size = n * z.size := by simp [Builtin.zeroCells]
theorem first_heap (R : HRel NG N0 w0 m h w) {k n : Nat} {x : V} {x' : Value} {cs : List V} (e : firstA k n x h = some cs) (hx : VRel m x x') :
    ∃ cs', (∀ w' : World, w'.heap = w.heap → (Builtin.firstCells k n x').run P w' = .ok cs' w') ∧ VsRel m cs cs'.toList := by
  obtain ⟨cs', h1, h2⟩ := first_ok (P := P) R e hx
  refine ⟨cs', fun w' hw => ?_, h2⟩
  -- the same cells in a world of the same memory
  unfold firstA at e
  cases x with
  | nilsl => cases hx; simp [Builtin.firstCells] at h1 ⊢; exact h1
  | str b => obtain rfl := str_inv hx; simp [Builtin.firstCells] at h1 ⊢; exact h1
  | sl id off len cap =>
    obtain ⟨L, c, hm, rfl, _⟩ := sl_inv hx
    replace e := bnd_some.1 (show (rowOf h id).bind _ = some _ from e); obtain ⟨r, hr, e⟩ := e
    replace e := grd_some.1 e; obtain ⟨hl, e⟩ := e
    obtain ⟨_, _, cc, fz, RR⟩ := row_of R hr hm
    have RR' : RowRel m w' L r cc fz := { RR with at_ := by rw [hw]; exact RR.at_ }
    have a1 := run_loadCells_list (P := P) w ⟨L.b, L.d + off, none⟩ (List.take (n * k) (List.drop (L.d + off) cc.toList)) (fun j v hj => by
      rw [addr_add, Nat.add_assoc, RR.cellAt]
      have hj' : j < n * k := by have := (List.getElem?_eq_some_iff.1 hj).1; simp at this; omega
      rw [List.getElem?_take, if_pos hj', List.getElem?_drop] at hj
      rw [List.getElem?_drop]; rw [← hj]; congr 1; omega)
    have a2 := run_loadCells_list (P := P) w' ⟨L.b, L.d + off, none⟩ (List.take (n * k) (List.drop (L.d + off) cc.toList)) (fun j v hj => by
      rw [addr_add, Nat.add_assoc, RR'.cellAt]
      have hj' : j < n * k := by have := (List.getElem?_eq_some_iff.1 hj).1; simp at this; omega
      rw [List.getElem?_take, if_pos hj', List.getElem?_drop] at hj
      rw [List.getElem?_drop]; rw [← hj]; congr 1; omega)
    have hlen : (List.take (n * k) (List.drop (L.d + off) cc.toList)).length = n * k := by
      have := RR.fits; have := RR.ends; have := Nat.le_of_ble_eq_true hl
      simp; omega
    rw [hlen] at a1 a2
    simp only [Builtin.firstCells] at h1 ⊢
    rw [a1] at h1
    injection h1 with h1
    rw [a2, h1]
  | _ => simp at e
end
end Go.Proofs.Ytagbpjegdfhmpaa.AM
