/- The smaller machine's operations do what the program's do: reading, writing, places. -/
import Derived.Test.YtagbpjegdfhmpaaAmRel
set_option linter.unusedSimpArgs false
set_option linter.unusedVariables false
namespace Go.Proofs.Ytagbpjegdfhmpaa.AM
open Go.RowKit (Below)

section
variable {P : Program} {NG N0 : Nat} {w0 : World} {m : Mu} {h : H} {w : World} {nid : Nat}

theorem run_typeInfo {t : TypeId} {i : TypeInfo} (e : P.info? t = some i) (w : World) : (typeInfo t).run P w = .ok i w := by simp [typeInfo, e]
theorem run_isAgg {t : TypeId} {b : Bool} (e : isAggB P t = some b) (w : World) : (isAgg t).run P w = .ok b w := by
  unfold isAggB at e
  obtain ⟨d, h1, h2⟩ := bnd_some.1 e
  unfold isAgg
  rw [Sem.run_bind, run_underlying h1 w]
  cases d <;> simp_all
theorem run_sizeOf {t : TypeId} {n : Nat} (e : szOf P t = some n) (w : World) : (sizeOf t).run P w = .ok n w := by
  unfold szOf at e
  obtain ⟨i, h1, h2⟩ := bnd_some.1 e
  injection h2 with h2
  simp [sizeOf, run_typeInfo h1, h2]
theorem info_of_sz {t : TypeId} {n : Nat} (e : szOf P t = some n) : ∃ i, P.info? t = some i ∧ i.size = n := by
  unfold szOf at e
  obtain ⟨i, h1, h2⟩ := bnd_some.1 e
  injection h2 with h2
  exact ⟨i, h1, h2⟩
theorem info_of_bytes {t : TypeId} {n : Nat} (e : bytesOf' P t = some n) : ∃ i, P.info? t = some i ∧ i.bytes = n := by
  unfold bytesOf' at e
  obtain ⟨i, h1, h2⟩ := bnd_some.1 e
  injection h2 with h2
  exact ⟨i, h1, h2⟩
theorem run_zeroValue {t : TypeId} {z : V} (e : zeroOf P t = some z) (w : World) : ∃ z', (zeroValue t).run P w = .ok z' w ∧ ∀ m, VRel m z z' := by
  unfold zeroOf at e
  obtain ⟨i, h1, h2⟩ := bnd_some.1 e
  obtain ⟨z', h3, h4⟩ := bnd_some.1 h2
  exact ⟨z', by simp [zeroValue, run_typeInfo h1, h3], fun m => ofPlain_rel h4⟩

/-- The operation leaves a value that stands for v in a world that stands for h. -/
def Yld (P : Program) (NG N0 : Nat) (w0 : World) (m : Mu) (h0 : H) (w : World) (nid : Nat) (s : Sem Value) (v : V) (h : H) : Prop :=
  ∃ m' w' v', Ext m m' nid ∧ Good NG N0 w0 m h0 w m' h w' ∧ VRel m' v v' ∧ s.run P w = .ok v' w'
/-- The operation leaves the world, and a value that stands for v. -/
def Gets (P : Program) (m : Mu) (w : World) (s : Sem Value) (v : V) : Prop := ∃ v', VRel m v v' ∧ s.run P w = .ok v' w
def Dos (P : Program) (NG N0 : Nat) (w0 : World) (m : Mu) (h0 : H) (w : World) (nid : Nat) (s : Sem Unit) (h : H) : Prop :=
  ∃ m' w', Ext m m' nid ∧ Good NG N0 w0 m h0 w m' h w' ∧ s.run P w = .ok () w'

theorem row_of (R : HRel NG N0 w0 m h w) {id : Nat} {r : Row} (e : rowOf h id = some r) {L : Loc} (hm : m id = some L) :
    L.b < w.heap.size ∧ (r.ro = false → N0 ≤ L.b) ∧ ∃ c fz, RowRel m w L r c fz := by
  obtain ⟨L', e1, e2, e3, e4⟩ := R.objs id _ (rowOf_some e)
  rw [hm] at e1; injection e1 with e1; subst e1
  exact ⟨e2, e3, e4⟩

theorem part_ok {fd : TypeId} {vs : List V} {vs' : List Value} {off : Nat} {v : V} (hv : VsRel m vs vs') (e : partA P fd vs off = some v) : ∃ v', (part fd vs'.toArray off).run P w = .ok v' w ∧ VRel m v v' := by
  replace e := bnd_some.1 e; obtain ⟨b, hb, e⟩ := e
  cases b with
  | false =>
    have e : lget vs off = some v := e
    rw [lget_eq] at e
    obtain ⟨v', h1, h2⟩ := hv.get e
    exact ⟨v', by simp [part, run_isAgg hb, h1], h2⟩
  | true =>
    replace e := bnd_some.1 (show (szOf P fd).bind _ = some v from e); obtain ⟨n, hn, e⟩ := e
    replace e := grd_some.1 e; obtain ⟨_, e⟩ := e
    injection e with e; subst e
    refine ⟨.agg ((vs'.drop off).take n).toArray, ?_, .agg _ _ ((hv.drop off).take n)⟩
    simp only [part, Sem.run_bind, run_isAgg hb, Result.andThen_ok, if_true, run_sizeOf hn, Sem.run_pure]
    congr 2
    simp

theorem ptr_inv {m : Mu} {id off : Nat} {x : Value} (h : VRel m (.ptr id off) x) : ∃ L, m id = some L ∧ x = .pointer (some ⟨L.b, L.d + off, none⟩) := by cases h with | ptr _ _ L e => exact ⟨L, e, rfl⟩
theorem str_inv {m : Mu} {s : List UInt8} {x : Value} (h : VRel m (.str s) x) : x = .string ⟨s.toArray⟩ := by cases h; rfl
theorem int_inv {m : Mu} {k : IntKind} {n : Int} {x : Value} (h : VRel m (.int k n) x) : x = .int k n := by cases h; rfl
theorem agg_inv {m : Mu} {vs : List V} {x : Value} (h : VRel m (.agg vs) x) : ∃ vs', VsRel m vs vs' ∧ x = .agg vs'.toArray := by cases h with | agg _ vs' e => exact ⟨vs', e, rfl⟩
theorem bool_inv {m : Mu} {b : Bool} {x : Value} (h : VRel m (.bool b) x) : x = .bool b := by cases h; rfl

theorem loadAt_ok (R : HRel NG N0 w0 m h w) {t : TypeId} {a v : V} {a' : Value} (e : loadAtA P t a h = some v) (ha : VRel m a a') :
    Gets P m w (Instr.loadAt t a') v := by
  replace e := bnd_some.1 e; obtain ⟨⟨id, off⟩, hp, e⟩ := e
  obtain rfl := V.ptr?_inv hp; dsimp only at *
  obtain ⟨L, hm, rfl⟩ := ptr_inv ha
  replace e := bnd_some.1 e; obtain ⟨r, hr, e⟩ := e
  replace e := bnd_some.1 e; obtain ⟨b, hb, e⟩ := e
  obtain ⟨hlt, _, c, fz, RR⟩ := row_of R hr hm
  cases b with
  | false =>
    have e' : lget r.cs off = some v := e
    rw [lget_eq] at e'
    obtain ⟨v', h1, h2⟩ := RR.load e'
    refine ⟨v', h2, ?_⟩
    simp [Instr.loadAt, Instr.sureAddr, loadVar, run_isAgg hb, h1]
  | true =>
    replace e := bnd_some.1 (show (szOf P t).bind _ = some v from e); obtain ⟨n, hn, e⟩ := e
    replace e := grd_some.1 e; obtain ⟨hle, e⟩ := e
    injection e with e; subst e
    obtain ⟨vs, h1, h2⟩ := RR.loads (P := P) off n (Nat.le_of_ble_eq_true hle)
    refine ⟨.agg vs.toArray, .agg _ _ h2, ?_⟩
    simp [Instr.loadAt, Instr.sureAddr, loadVar, run_isAgg hb, run_sizeOf hn, h1]

theorem splice_rel {m : Mu} {r : Row} {L : Loc} {c c' : Array Value} {off : Nat} {vs : List V} {vs' : List Value} (hv : VsRel m vs vs') (hk : VsRel m r.cs ((c.toList.drop L.d).take r.cs.length))
    (hl : off + vs.length ≤ r.cs.length) (hs : L.d + r.cs.length ≤ c.size) (hc : c'.toList = c.toList.take (L.d + off) ++ (vs' ++ c.toList.drop (L.d + off + vs'.length))) :
    (splice r.cs off vs).length = r.cs.length ∧ VsRel m (splice r.cs off vs) ((c'.toList.drop L.d).take r.cs.length) := by
  have hlen := hv.length
  have h0 : (splice r.cs off vs).length = r.cs.length := by simp [splice]; omega
  refine ⟨h0, ?_⟩
  have : (c'.toList.drop L.d).take r.cs.length = ((c.toList.drop L.d).take r.cs.length).take off ++ (vs' ++ ((c.toList.drop L.d).take r.cs.length).drop (off + vs'.length)) := by
    rw [hc]
    have e1 : (c.toList.take (L.d + off)).drop L.d = (c.toList.drop L.d).take off := by rw [List.drop_take]; congr 1; omega
    have hlt : L.d ≤ (c.toList.take (L.d + off)).length := by simp; omega
    rw [List.drop_append_of_le_length hlt, e1]
    have hsz : ((c.toList.drop L.d).take off).length = off := by simp; omega
    rw [List.take_append, hsz, List.take_of_length_le (by rw [hsz]; omega)]
    have e2 : List.take off (List.take r.cs.length (List.drop L.d c.toList)) = List.take off (List.drop L.d c.toList) := by rw [List.take_take]; congr 1; omega
    rw [e2]
    congr 1
    rw [List.take_append, List.take_of_length_le (by omega)]
    congr 1
    rw [List.drop_take, List.drop_drop]
    congr 1
    · omega
    · congr 1; omega
  rw [this]
  exact (hk.take off).append (hv.append (by rw [hlen]; exact hk.drop (off + vs.length)))

theorem putCells_ok (R : HRel NG N0 w0 m h w) {id off : Nat} {vs : List V} {vs' : List Value} {h' : H} (e : putCells h id off vs = some h') (hv : VsRel m vs vs') {L : Loc} (hm : m id = some L) :
    ∃ w', (storeCells ⟨L.b, L.d + off, none⟩ vs').run P w = .ok () w' ∧ Good NG N0 w0 m h w m h' w' := by
  unfold putCells at e
  replace e := bnd_some.1 e; obtain ⟨r, hr, e⟩ := e
  replace e := grd_some.1 e; obtain ⟨hg, e⟩ := e
  injection e with e; subst e
  simp only [Bool.and_eq_true, Bool.not_eq_true'] at hg
  obtain ⟨⟨⟨hro, hf⟩, hl⟩, h1⟩ := hg
  have hf := Nat.le_of_ble_eq_true hf
  have hl := Nat.le_of_ble_eq_true hl
  obtain ⟨hlt, _, c, fz, RR⟩ := row_of R hr hm
  have hfit := RR.fits; have hend := RR.ends
  obtain ⟨w', c', e1, e2, e3, e4, e5⟩ := RR.stores (P := P) off hv h1 hf (by omega)
  obtain ⟨s1, s2⟩ := splice_rel hv RR.vals hl (by omega) e4
  refine ⟨w', e1, R.set (rowOf_some hr) hm hro e2 ⟨c', fz, ?_⟩⟩
  exact { at_ := e3, sz := RR.sz, fits := by rw [s1]; exact hfit, ends := by rw [e5]; exact hend, vals := by rw [s1]; exact s2, frz := by rw [e5]; exact RR.frz, ex := fun hx => by rw [e5, s1]; exact RR.ex hx }

theorem storeAt_ok (R : HRel NG N0 w0 m h w) {t : TypeId} {a v : V} {a' v' : Value} {h' : H} (e : storeAtA P t a v h = some h') (ha : VRel m a a') (hv : VRel m v v') :
    Dos P NG N0 w0 m h w nid (Instr.storeAt t a' v') h' := by
  replace e := bnd_some.1 e; obtain ⟨⟨id, off⟩, hp, e⟩ := e
  obtain rfl := V.ptr?_inv hp; dsimp only at *
  obtain ⟨L, hm, rfl⟩ := ptr_inv ha
  replace e := bnd_some.1 e; obtain ⟨n, hn, e⟩ := e
  replace e := grd_some.1 e; obtain ⟨hb, e⟩ := e
  have hb := Nat.eq_of_beq_eq_true hb
  obtain ⟨w', h1, h2⟩ := putCells_ok (P := P) R e hv.cells hm
  refine ⟨m, w', Ext.refl m _, h2, ?_⟩
  have hs : v'.cells.size = n := by have := hv.cells.length; simp at this; omega
  simp [Instr.storeAt, Instr.sureAddr, storeVar, run_sizeOf hn, hs, h1]

/-- A new row. -/
theorem new_row (R : HRel NG N0 w0 m h w) (hf : m nid = none) (hn : nid < h.next) {t : TypeId} {sz : Nat} {vs : List V} {c : Array Value} {fz : Nat × Nat} {st ex : Bool} {frz : Nat} (e : Nat) (hv : VsRel m vs (c.toList.take vs.length)) (h1 : vs.length ≤ e) (h2 : e ≤ c.size)
    {w1 w' : World} (hw0 : w1.heap = w.heap) (hos : w1.os = w.os) (htp : w1.tape = w.tape) (hou : w1.output = w.output)
    (hw : w'.heap = w1.heap.push (.cells c t fz)) (hos' : w'.os = w1.os) (htp' : w'.tape = w1.tape) (hou' : w'.output = w1.output) (hf' : FrzOk ⟨vs, t, sz, frz, st, false, ex⟩ 0 fz c.size) (hex : ex = true → c.size = vs.length) :
    Ext m (m.upd nid ⟨w.heap.size, 0, e, sz⟩) nid ∧ Good NG N0 w0 m h w (m.upd nid ⟨w.heap.size, 0, e, sz⟩) (h.set nid (some (.row ⟨vs, t, sz, frz, st, false, ex⟩))) w' := by
  have hle : m.le (m.upd nid ⟨w.heap.size, 0, e, sz⟩) := Mu.le_upd hf
  refine R.alloc hf hn (L := ⟨w.heap.size, 0, e, sz⟩) (.cells c t fz) (by rw [hw, hw0]) (by rw [hos', hos]) (by rw [htp', htp]) (by rw [hou', hou]) rfl ⟨c, fz, ?_⟩
  exact { at_ := by rw [hw, hw0]; simp, sz := rfl, fits := by simpa using h1, ends := h2, vals := by simpa using hv.mono hle, frz := hf', ex := fun hx => ⟨rfl, hex hx⟩ }

theorem box_ok (R : HRel NG N0 w0 m h w) (hf : m nid = none) (hn : nid < h.next) {t : TypeId} {v : V} {v' : Value} (hv : VRel m v v') : Yld P NG N0 w0 m h w nid (Instr.box t v') (boxA t v nid).1 (h.set nid (some (.row (boxA t v nid).2))) := by
  have hl := hv.cells.length
  simp at hl
  obtain ⟨h1, h2⟩ := new_row R hf hn (t := t) (sz := 1) (st := false) (ex := true) (frz := 0) (fz := (0, 0)) v.cells.length (c := v'.cells) (by rw [List.take_of_length_le (by simp; omega)]; exact hv.cells) (Nat.le_refl _) (by omega)
    (w1 := w) rfl rfl rfl rfl (w' := { w with heap := w.heap.push (.cells v'.cells t (0, 0)) }) rfl rfl rfl rfl (.inl ⟨rfl, .inl rfl⟩) (fun _ => by omega)
  refine ⟨_, _, .pointer (some ⟨w.heap.size, 0, none⟩), h1, h2, ?_, ?_⟩
  · exact VRel.ptr nid 0 _ (Mu.upd_at _ _ _)
  · simp [Instr.box, newVar, newRow]
theorem alloc_ok (R : HRel NG N0 w0 m h w) (hf : m nid = none) (hn : nid < h.next) {t : TypeId} {z : V} (e : zeroOf P t = some z) : Yld P NG N0 w0 m h w nid (Instr.alloc t true (.tuple #[])) (boxA t z nid).1 (h.set nid (some (.row (boxA t z nid).2))) := by
  obtain ⟨z', h1, h2⟩ := run_zeroValue e w
  obtain ⟨m', w', v', a, b, c, d⟩ := box_ok (P := P) R hf hn (t := t) (h2 m)
  refine ⟨m', w', v', a, b, c, ?_⟩
  simpa [Instr.alloc, h1, Instr.box] using d

theorem fieldAt_ok {s : TypeId} {x v : V} {x' : Value} {f : Nat} (e : fieldAtA P s x f = some v) (hx : VRel m x x') : Gets P m w (Instr.fieldAt s x' f) v := by
  replace e := bnd_some.1 e; obtain ⟨⟨id, off⟩, hp, e⟩ := e
  obtain rfl := V.ptr?_inv hp; dsimp only at *
  obtain ⟨L, hm, rfl⟩ := ptr_inv hx
  replace e := bnd_some.1 e; obtain ⟨d, hd, e⟩ := e
  split at e
  case h_2 => cases e
  case h_1 fs =>
    replace e := bnd_some.1 e; obtain ⟨fd, hf, e⟩ := e
    replace e := bnd_some.1 e; obtain ⟨n, hn, e⟩ := e
    replace e := grd_some.1 e; obtain ⟨hz, e⟩ := e
    have hz : n ≠ 0 := by intro h0; subst h0; simp at hz
    injection e with e; subst e
    refine ⟨.pointer (some ⟨L.b, L.d + off + fd.offset, none⟩), by have := VRel.ptr (m := m) id (off + fd.offset) L hm; rwa [← Nat.add_assoc] at this, ?_⟩
    simp [Instr.fieldAt, run_underlying hd, hf, Instr.sureAddr, fieldPlace, run_sizeOf hn, hz, addr_add]
theorem field_ok {s : TypeId} {x v : V} {x' : Value} {f : Nat} (e : fieldA P s x f = some v) (hx : VRel m x x') : Gets P m w (Instr.field s x' f) v := by
  replace e := bnd_some.1 e; obtain ⟨vs, hp, e⟩ := e
  obtain rfl := V.agg?_inv hp
  obtain ⟨vs', hv, rfl⟩ := agg_inv hx
  replace e := bnd_some.1 e; obtain ⟨d, hd, e⟩ := e
  split at e
  case h_2 => cases e
  case h_1 fs =>
    replace e := bnd_some.1 e; obtain ⟨fd, hf, e⟩ := e
    obtain ⟨v', h1, h2⟩ := part_ok (w := w) hv e
    refine ⟨v', h2, ?_⟩
    simp [Instr.field, run_underlying hd, hf, asAgg, h1]

theorem idx_spec {i : V} {len n : Nat} (e : idx i len = some n) : ∃ k, i = .int k (n : Int) ∧ n < len := by
  replace e := bnd_some.1 e; obtain ⟨p, hp, e⟩ := e
  obtain ⟨h1, h2⟩ := grd_some.1 e
  injection h2 with h2; subst h2
  exact ⟨p.1, V.nat?_inv hp, Nat.le_of_ble_eq_true h1⟩

/-- A slice, by its capacity. -/
theorem sl_inv {id off len : Nat} {cap : Option Nat} {x : Value} (h : VRel m (.sl id off len cap) x) :
    ∃ L c, m id = some L ∧ x = .slice (some ⟨L.b, L.d + off, none⟩) len c ∧ (match cap with | some c' => c' = c | none => L.d + off + c * L.sz = L.e ∧ len ≤ c) := by
  cases h with
  | slc _ _ _ c L hm => exact ⟨L, c, hm, rfl, rfl⟩
  | slo _ _ _ c L hm h1 h2 => exact ⟨L, c, hm, rfl, h1, h2⟩

theorem indexAt_ok {t : TypeId} {x i v : V} {x' i' : Value} (e : indexAtA P t x i = some v) (hx : VRel m x x') (hi : VRel m i i') : Gets P m w (Instr.indexAt t x' i') v := by
  replace e := bnd_some.1 e; obtain ⟨d, hd, e⟩ := e
  split at e
  case h_3 => cases e
  case h_1 el =>
    replace e := bnd_some.1 e; obtain ⟨⟨id, off, len, cap⟩, hp, e⟩ := e
    obtain rfl := V.sl?_inv hp; dsimp only at *
    obtain ⟨L, c, hm, rfl, _⟩ := sl_inv hx
    replace e := bnd_some.1 e; obtain ⟨n, hn, e⟩ := e
    replace e := bnd_some.1 e; obtain ⟨s, hs, e⟩ := e
    injection e with e; subst e
    obtain ⟨k, rfl, hlt⟩ := idx_spec hn
    obtain rfl := int_inv hi
    refine ⟨.pointer (some ⟨L.b, L.d + off + n * s, none⟩), by have := VRel.ptr (m := m) id (off + n * s) L hm; rwa [← Nat.add_assoc] at this, ?_⟩
    simp [Instr.indexAt, asIntOf, run_underlying hd, run_sizeOf hs, hlt, addr_add]
  case h_2 len el =>
    replace e := bnd_some.1 e; obtain ⟨⟨id, off⟩, hp, e⟩ := e
    obtain rfl := V.ptr?_inv hp; dsimp only at *
    obtain ⟨L, hm, rfl⟩ := ptr_inv hx
    replace e := bnd_some.1 e; obtain ⟨n, hn, e⟩ := e
    replace e := bnd_some.1 e; obtain ⟨s, hs, e⟩ := e
    injection e with e; subst e
    obtain ⟨k, rfl, hlt⟩ := idx_spec hn
    obtain rfl := int_inv hi
    refine ⟨.pointer (some ⟨L.b, L.d + off + n * s, none⟩), by have := VRel.ptr (m := m) id (off + n * s) L hm; rwa [← Nat.add_assoc] at this, ?_⟩
    simp [Instr.indexAt, asIntOf, run_underlying hd, run_sizeOf hs, hlt, addr_add, Instr.sureAddr]
theorem index_ok {t : TypeId} {x i v : V} {x' i' : Value} (e : indexA P t x i = some v) (hx : VRel m x x') (hi : VRel m i i') : Gets P m w (Instr.index t x' i') v := by
  replace e := bnd_some.1 e; obtain ⟨d, hd, e⟩ := e
  split at e
  case h_3 => cases e
  case h_1 =>
    replace e := bnd_some.1 e; obtain ⟨s, hp, e⟩ := e
    obtain rfl := V.str?_inv hp
    obtain rfl := str_inv hx
    replace e := bnd_some.1 e; obtain ⟨n, hn, e⟩ := e
    replace e := bnd_some.1 e; obtain ⟨b, hb, e⟩ := e
    injection e with e; subst e
    obtain ⟨k, rfl, hlt⟩ := idx_spec hn
    obtain rfl := int_inv hi
    rw [lget_eq] at hb
    have hb' : (⟨s.toArray⟩ : ByteArray)[n]? = some b := by
      have hlt' : n < (⟨s.toArray⟩ : ByteArray).size := by simpa [ByteArray.size] using hlt
      rw [getElem?_pos _ n hlt']
      have : s[n] = b := by simpa [List.getElem?_eq_getElem hlt] using hb
      rw [← this]; rfl
    refine ⟨.int .u8 b.toNat, .int _ _, ?_⟩
    simp [Instr.index, asIntOf, run_underlying hd, hb']
  case h_2 len el =>
    replace e := bnd_some.1 e; obtain ⟨vs, hp, e⟩ := e
    obtain rfl := V.agg?_inv hp
    obtain ⟨vs', hv, rfl⟩ := agg_inv hx
    replace e := bnd_some.1 e; obtain ⟨n, hn, e⟩ := e
    replace e := bnd_some.1 e; obtain ⟨s, hs, e⟩ := e
    obtain ⟨k, rfl, hlt⟩ := idx_spec hn
    obtain rfl := int_inv hi
    obtain ⟨v', h1, h2⟩ := part_ok (w := w) hv e
    refine ⟨v', h2, ?_⟩
    simp [Instr.index, asIntOf, run_underlying hd, run_sizeOf hs, hlt, h1]

/-! ### Slices of slices -/
theorem bnd_spec {x : Option V} {d y n : Nat} (e : bnd x d y = some n) : (x = none ∧ n = d) ∨ ∃ k, x = some (.int k (n : Int)) ∧ n ≤ y := by
  cases x with
  | none => left; injection e with e; exact ⟨rfl, e.symm⟩
  | some v =>
    right
    replace e := bnd_some.1 (show v.nat?.bind _ = some n from e); obtain ⟨p, hp, e⟩ := e
    obtain ⟨h1, h2⟩ := grd_some.1 e
    injection h2 with h2; subst h2
    exact ⟨p.1, by rw [V.nat?_inv hp], Nat.le_of_ble_eq_true h1⟩
/-- The operands of a slice expression, one by one. -/
inductive ORelO (m : Mu) : Option V → Option Value → Prop where
  | none : ORelO m none none
  | some (v : V) (v' : Value) : VRel m v v' → ORelO m (some v) (some v')
theorem run_sliceBound {k : IntKind} {n y : Nat} (h : n ≤ y) (code : BoundsCode) : (Instr.sliceBound (.int k (n : Int)) y code).run P w = .ok n w := by
  simp [Instr.sliceBound, asIntOf, h]
theorem bounds_ok {lo hi : Option V} {lo' hi' : Option Value} {isS : Bool} {len cap hb lb : Nat} (hlo : ORelO m lo lo') (hhi : ORelO m hi hi') (e1 : bnd hi len cap = some hb) (e2 : bnd lo 0 hb = some lb) :
    (Instr.sliceBounds isS len cap lo' hi' none).run P w = .ok (lb, hb, cap) w := by
  unfold Instr.sliceBounds
  cases hhi with
  | none =>
    rcases bnd_spec e1 with ⟨_, rfl⟩ | ⟨k, h, _⟩
    case inr => cases h
    cases hlo with
    | none =>
      rcases bnd_spec e2 with ⟨_, rfl⟩ | ⟨k, h, _⟩
      case inr => cases h
      simp
    | some v v' hv =>
      rcases bnd_spec e2 with ⟨h, _⟩ | ⟨k, h, hle⟩
      case inl => cases h
      injection h with h; subst h
      obtain rfl := int_inv hv
      simp [run_sliceBound hle]
  | some u u' hu =>
    rcases bnd_spec e1 with ⟨h, _⟩ | ⟨k, h, hle⟩
    case inl => cases h
    injection h with h; subst h
    obtain rfl := int_inv hu
    cases hlo with
    | none =>
      rcases bnd_spec e2 with ⟨_, rfl⟩ | ⟨k, h, _⟩
      case inr => cases h
      simp [run_sliceBound hle]
    | some v v' hv =>
      rcases bnd_spec e2 with ⟨h, _⟩ | ⟨k, h, hle'⟩
      case inl => cases h
      injection h with h; subst h
      obtain rfl := int_inv hv
      simp [run_sliceBound hle, run_sliceBound hle']
end
end Go.Proofs.Ytagbpjegdfhmpaa.AM
