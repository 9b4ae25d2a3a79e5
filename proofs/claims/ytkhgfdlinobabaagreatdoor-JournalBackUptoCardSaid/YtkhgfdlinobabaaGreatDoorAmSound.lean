/- The smaller machine's operations do what the program's do: reading, writing, places. -/
import Derived.Test.YtkhgfdlinobabaaGreatDoorAmDef
import Derived.IntWalk
set_option linter.unusedSimpArgs false
set_option linter.unusedVariables false
namespace Go.Proofs.YtkhgfdlinobabaaGreatDoor.AM
open Go.RowKit (Below)

section
variable {P : Program} {NG N0 : Nat} {w0 : World} {m : Mu} {h : H} {w : World} {nid : Nat}

theorem run_typeInfo {t : TypeId} {i : TypeInfo} (e : P.info? t = some i) (w : World) : (typeInfo t).run P w = .ok i w := by simp [typeInfo, e]
theorem run_isAgg {t : TypeId} {b : Bool} (e : isAggB P t = some b) (w : World) : (isAgg t).run P w = .ok b w := by
  unfold isAggB at e
  obtain ⟨d, h1, h2⟩ := bnd_some.1 e
  unfold isAgg
  rw [Sem.run_bind, run_underlying h1 w]
  cases d <;> simp_all
theorem run_sizeOf {t : TypeId} {n : Nat} (e : szOf P t = some n) (w : World) : (sizeOf t).run P w = .ok n w := by
  unfold szOf at e
  obtain ⟨i, h1, h2⟩ := bnd_some.1 e
  injection h2 with h2
  simp [sizeOf, run_typeInfo h1, h2]
theorem info_of_sz {t : TypeId} {n : Nat} (e : szOf P t = some n) : ∃ i, P.info? t = some i ∧ i.size = n := by
  unfold szOf at e
  obtain ⟨i, h1, h2⟩ := bnd_some.1 e
  injection h2 with h2
  exact ⟨i, h1, h2⟩
theorem info_of_bytes {t : TypeId} {n : Nat} (e : bytesOf' P t = some n) : ∃ i, P.info? t = some i ∧ i.bytes = n := by
  unfold bytesOf' at e
  obtain ⟨i, h1, h2⟩ := bnd_some.1 e
  injection h2 with h2
  exact ⟨i, h1, h2⟩
theorem run_zeroValue {t : TypeId} {z : V} (e : zeroOf P t = some z) (w : World) : ∃ z', (zeroValue t).run P w = .ok z' w ∧ ∀ m, VRel m z z' := by
  unfold zeroOf at e
  obtain ⟨i, h1, h2⟩ := bnd_some.1 e
  obtain ⟨z', h3, h4⟩ := bnd_some.1 h2
  exact ⟨z', by simp [zeroValue, run_typeInfo h1, h3], fun m => ofPlain_rel h4⟩

/-- The operation leaves a value that stands for v in a world that stands for h. -/
def Yld (P : Program) (NG N0 : Nat) (w0 : World) (m : Mu) (h0 : H) (w : World) (nid : Nat) (s : Sem Value) (v : V) (h : H) : Prop :=
  ∃ m' w' v', Ext m m' nid ∧ Good NG N0 w0 m h0 w m' h w' ∧ VRel m' v v' ∧ s.run P w = .ok v' w'
/-- The operation leaves the world, and a value that stands for v. -/
def Gets (P : Program) (m : Mu) (w : World) (s : Sem Value) (v : V) : Prop := ∃ v', VRel m v v' ∧ s.run P w = .ok v' w
def Dos (P : Program) (NG N0 : Nat) (w0 : World) (m : Mu) (h0 : H) (w : World) (nid : Nat) (s : Sem Unit) (h : H) : Prop :=
  ∃ m' w', Ext m m' nid ∧ Good NG N0 w0 m h0 w m' h w' ∧ s.run P w = .ok () w'

theorem row_of (R : HRel NG N0 w0 m h w) {id : Nat} {r : Row} (e : rowOf h id = some r) {L : Loc} (hm : m id = some L) :
    L.b < w.heap.size ∧ (r.ro = false → N0 ≤ L.b) ∧ ∃ c fz, RowRel m w L r c fz := by
  obtain ⟨L', e1, e2, e3, e4⟩ := R.objs id _ (rowOf_some e)
  rw [hm] at e1; injection e1 with e1; subst e1
  exact ⟨e2, e3, e4⟩

theorem part_ok {fd : TypeId} {vs : List V} {vs' : List Value} {off : Nat} {v : V} (hv : VsRel m vs vs') (e : partA P fd vs off = some v) : ∃ v', (part fd vs'.toArray off).run P w = .ok v' w ∧ VRel m v v' := by
  replace e := bnd_some.1 e; obtain ⟨b, hb, e⟩ := e
  cases b with
  | false =>
    have e : lget vs off = some v := e
    rw [lget_eq] at e
    obtain ⟨v', h1, h2⟩ := hv.get e
    exact ⟨v', by simp [part, run_isAgg hb, h1], h2⟩
  | true =>
    replace e := bnd_some.1 (show (szOf P fd).bind _ = some v from e); obtain ⟨n, hn, e⟩ := e
    replace e := grd_some.1 e; obtain ⟨_, e⟩ := e
    injection e with e; subst e
    refine ⟨.agg ((vs'.drop off).take n).toArray, ?_, .agg _ _ ((hv.drop off).take n)⟩
    simp only [part, Sem.run_bind, run_isAgg hb, Result.andThen_ok, if_true, run_sizeOf hn, Sem.run_pure]
    congr 2
    simp

theorem ptr_inv {m : Mu} {id off : Nat} {x : Value} (h : VRel m (.ptr id off) x) : ∃ L, m id = some L ∧ x = .pointer (some ⟨L.b, L.d + off, none⟩) := by cases h with | ptr _ _ L e => exact ⟨L, e, rfl⟩
theorem str_inv {m : Mu} {s : List UInt8} {x : Value} (h : VRel m (.str s) x) : x = .string ⟨s.toArray⟩ := by cases h; rfl
theorem int_inv {m : Mu} {k : IntKind} {n : Int} {x : Value} (h : VRel m (.int k n) x) : x = .int k n := by cases h; rfl
theorem agg_inv {m : Mu} {vs : List V} {x : Value} (h : VRel m (.agg vs) x) : ∃ vs', VsRel m vs vs' ∧ x = .agg vs'.toArray := by cases h with | agg _ vs' e => exact ⟨vs', e, rfl⟩
theorem bool_inv {m : Mu} {b : Bool} {x : Value} (h : VRel m (.bool b) x) : x = .bool b := by cases h; rfl

theorem loadAt_ok (R : HRel NG N0 w0 m h w) {t : TypeId} {a v : V} {a' : Value} (e : loadAtA P t a h = some v) (ha : VRel m a a') :
    Gets P m w (Instr.loadAt t a') v := by
  replace e := bnd_some.1 e; obtain ⟨⟨id, off⟩, hp, e⟩ := e
  obtain rfl := V.ptr?_inv hp; dsimp only at *
  obtain ⟨L, hm, rfl⟩ := ptr_inv ha
  replace e := bnd_some.1 e; obtain ⟨r, hr, e⟩ := e
  replace e := bnd_some.1 e; obtain ⟨b, hb, e⟩ := e
  obtain ⟨hlt, _, c, fz, RR⟩ := row_of R hr hm
  cases b with
  | false =>
    have e' : lget r.cs off = some v := e
    rw [lget_eq] at e'
    obtain ⟨v', h1, h2⟩ := RR.load e'
    refine ⟨v', h2, ?_⟩
    simp [Instr.loadAt, Instr.sureAddr, loadVar, run_isAgg hb, h1]
  | true =>
    replace e := bnd_some.1 (show (szOf P t).bind _ = some v from e); obtain ⟨n, hn, e⟩ := e
    replace e := grd_some.1 e; obtain ⟨hle, e⟩ := e
    injection e with e; subst e
    obtain ⟨vs, h1, h2⟩ := RR.loads (P := P) off n (Nat.le_of_ble_eq_true hle)
    refine ⟨.agg vs.toArray, .agg _ _ h2, ?_⟩
    simp [Instr.loadAt, Instr.sureAddr, loadVar, run_isAgg hb, run_sizeOf hn, h1]

theorem splice_rel {m : Mu} {r : Row} {L : Loc} {c c' : Array Value} {off : Nat} {vs : List V} {vs' : List Value} (hv : VsRel m vs vs') (hk : VsRel m r.cs ((c.toList.drop L.d).take r.cs.length))
    (hl : off + vs.length ≤ r.cs.length) (hs : L.d + r.cs.length ≤ c.size) (hc : c'.toList = c.toList.take (L.d + off) ++ (vs' ++ c.toList.drop (L.d + off + vs'.length))) :
    (splice r.cs off vs).length = r.cs.length ∧ VsRel m (splice r.cs off vs) ((c'.toList.drop L.d).take r.cs.length) := by
  have hlen := hv.length
  have h0 : (splice r.cs off vs).length = r.cs.length := by simp [splice]; omega
  refine ⟨h0, ?_⟩
  have : (c'.toList.drop L.d).take r.cs.length = ((c.toList.drop L.d).take r.cs.length).take off ++ (vs' ++ ((c.toList.drop L.d).take r.cs.length).drop (off + vs'.length)) := by
    rw [hc]
    have e1 : (c.toList.take (L.d + off)).drop L.d = (c.toList.drop L.d).take off := by rw [List.drop_take]; congr 1; omega
    have hlt : L.d ≤ (c.toList.take (L.d + off)).length := by simp; omega
    rw [List.drop_append_of_le_length hlt, e1]
    have hsz : ((c.toList.drop L.d).take off).length = off := by simp; omega
    rw [List.take_append, hsz, List.take_of_length_le (by rw [hsz]; omega)]
    have e2 : List.take off (List.take r.cs.length (List.drop L.d c.toList)) = List.take off (List.drop L.d c.toList) := by rw [List.take_take]; congr 1; omega
    rw [e2]
    congr 1
    rw [List.take_append, List.take_of_length_le (by omega)]
    congr 1
    rw [List.drop_take, List.drop_drop]
    congr 1
    · omega
    · congr 1; omega
  rw [this]
  exact (hk.take off).append (hv.append (by rw [hlen]; exact hk.drop (off + vs.length)))

theorem putCells_ok (R : HRel NG N0 w0 m h w) {id off : Nat} {vs : List V} {vs' : List Value} {h' : H} (e : putCells h id off vs = some h') (hv : VsRel m vs vs') {L : Loc} (hm : m id = some L) :
    ∃ w', (storeCells ⟨L.b, L.d + off, none⟩ vs').run P w = .ok () w' ∧ Good NG N0 w0 m h w m h' w' := by
  unfold putCells at e
  replace e := bnd_some.1 e; obtain ⟨r, hr, e⟩ := e
  replace e := grd_some.1 e; obtain ⟨hg, e⟩ := e
  injection e with e; subst e
  simp only [Bool.and_eq_true, Bool.not_eq_true'] at hg
  obtain ⟨⟨⟨hro, hf⟩, hl⟩, h1⟩ := hg
  have hf := Nat.le_of_ble_eq_true hf
  have hl := Nat.le_of_ble_eq_true hl
  obtain ⟨hlt, _, c, fz, RR⟩ := row_of R hr hm
  have hfit := RR.fits; have hend := RR.ends
  obtain ⟨w', c', e1, e2, e3, e4, e5⟩ := RR.stores (P := P) off hv h1 hf (by omega)
  obtain ⟨s1, s2⟩ := splice_rel hv RR.vals hl (by omega) e4
  refine ⟨w', e1, R.set (rowOf_some hr) hm hro e2 ⟨c', fz, ?_⟩⟩
  exact { at_ := e3, sz := RR.sz, fits := by rw [s1]; exact hfit, ends := by rw [e5]; exact hend, vals := by rw [s1]; exact s2, frz := by rw [e5]; exact RR.frz, ex := fun hx => by rw [e5, s1]; exact RR.ex hx }

theorem storeAt_ok (R : HRel NG N0 w0 m h w) {t : TypeId} {a v : V} {a' v' : Value} {h' : H} (e : storeAtA P t a v h = some h') (ha : VRel m a a') (hv : VRel m v v') :
    Dos P NG N0 w0 m h w nid (Instr.storeAt t a' v') h' := by
  replace e := bnd_some.1 e; obtain ⟨⟨id, off⟩, hp, e⟩ := e
  obtain rfl := V.ptr?_inv hp; dsimp only at *
  obtain ⟨L, hm, rfl⟩ := ptr_inv ha
  replace e := bnd_some.1 e; obtain ⟨n, hn, e⟩ := e
  replace e := grd_some.1 e; obtain ⟨hb, e⟩ := e
  have hb := Nat.eq_of_beq_eq_true hb
  obtain ⟨w', h1, h2⟩ := putCells_ok (P := P) R e hv.cells hm
  refine ⟨m, w', Ext.refl m _, h2, ?_⟩
  have hs : v'.cells.size = n := by have := hv.cells.length; simp at this; omega
  simp [Instr.storeAt, Instr.sureAddr, storeVar, run_sizeOf hn, hs, h1]

/-- A new row. -/
theorem new_row (R : HRel NG N0 w0 m h w) (hf : m nid = none) (hn : nid < h.next) {t : TypeId} {sz : Nat} {vs : List V} {c : Array Value} {fz : Nat × Nat} {st ex : Bool} {frz : Nat} (e : Nat) (hv : VsRel m vs (c.toList.take vs.length)) (h1 : vs.length ≤ e) (h2 : e ≤ c.size)
    {w1 w' : World} (hw0 : w1.heap = w.heap) (hos : w1.os = w.os) (htp : w1.tape = w.tape) (hou : w1.output = w.output)
    (hw : w'.heap = w1.heap.push (.cells c t fz)) (hos' : w'.os = w1.os) (htp' : w'.tape = w1.tape) (hou' : w'.output = w1.output) (hf' : FrzOk ⟨vs, t, sz, frz, st, false, ex⟩ 0 fz c.size) (hex : ex = true → c.size = vs.length) :
    Ext m (m.upd nid ⟨w.heap.size, 0, e, sz⟩) nid ∧ Good NG N0 w0 m h w (m.upd nid ⟨w.heap.size, 0, e, sz⟩) (h.set nid (some (.row ⟨vs, t, sz, frz, st, false, ex⟩))) w' := by
  have hle : m.le (m.upd nid ⟨w.heap.size, 0, e, sz⟩) := Mu.le_upd hf
  refine R.alloc hf hn (L := ⟨w.heap.size, 0, e, sz⟩) (.cells c t fz) (by rw [hw, hw0]) (by rw [hos', hos]) (by rw [htp', htp]) (by rw [hou', hou]) rfl ⟨c, fz, ?_⟩
  exact { at_ := by rw [hw, hw0]; simp, sz := rfl, fits := by simpa using h1, ends := h2, vals := by simpa using hv.mono hle, frz := hf', ex := fun hx => ⟨rfl, hex hx⟩ }

theorem box_ok (R : HRel NG N0 w0 m h w) (hf : m nid = none) (hn : nid < h.next) {t : TypeId} {v : V} {v' : Value} (hv : VRel m v v') : Yld P NG N0 w0 m h w nid (Instr.box t v') (boxA t v nid).1 (h.set nid (some (.row (boxA t v nid).2))) := by
  have hl := hv.cells.length
  simp at hl
  obtain ⟨h1, h2⟩ := new_row R hf hn (t := t) (sz := 1) (st := false) (ex := true) (frz := 0) (fz := (0, 0)) v.cells.length (c := v'.cells) (by rw [List.take_of_length_le (by simp; omega)]; exact hv.cells) (Nat.le_refl _) (by omega)
    (w1 := w) rfl rfl rfl rfl (w' := { w with heap := w.heap.push (.cells v'.cells t (0, 0)) }) rfl rfl rfl rfl (.inl ⟨rfl, .inl rfl⟩) (fun _ => by omega)
  refine ⟨_, _, .pointer (some ⟨w.heap.size, 0, none⟩), h1, h2, ?_, ?_⟩
  · exact VRel.ptr nid 0 _ (Mu.upd_at _ _ _)
  · simp [Instr.box, newVar, newRow]
theorem alloc_ok (R : HRel NG N0 w0 m h w) (hf : m nid = none) (hn : nid < h.next) {t : TypeId} {z : V} (e : zeroOf P t = some z) : Yld P NG N0 w0 m h w nid (Instr.alloc t true (.tuple #[])) (boxA t z nid).1 (h.set nid (some (.row (boxA t z nid).2))) := by
  obtain ⟨z', h1, h2⟩ := run_zeroValue e w
  obtain ⟨m', w', v', a, b, c, d⟩ := box_ok (P := P) R hf hn (t := t) (h2 m)
  refine ⟨m', w', v', a, b, c, ?_⟩
  simpa [Instr.alloc, h1, Instr.box] using d

theorem fieldAt_ok {s : TypeId} {x v : V} {x' : Value} {f : Nat} (e : fieldAtA P s x f = some v) (hx : VRel m x x') : Gets P m w (Instr.fieldAt s x' f) v := by
  replace e := bnd_some.1 e; obtain ⟨⟨id, off⟩, hp, e⟩ := e
  obtain rfl := V.ptr?_inv hp; dsimp only at *
  obtain ⟨L, hm, rfl⟩ := ptr_inv hx
  replace e := bnd_some.1 e; obtain ⟨d, hd, e⟩ := e
  split at e
  case h_2 => cases e
  case h_1 fs =>
    replace e := bnd_some.1 e; obtain ⟨fd, hf, e⟩ := e
    replace e := bnd_some.1 e; obtain ⟨n, hn, e⟩ := e
    replace e := grd_some.1 e; obtain ⟨hz, e⟩ := e
    have hz : n ≠ 0 := by intro h0; subst h0; simp at hz
    injection e with e; subst e
    refine ⟨.pointer (some ⟨L.b, L.d + off + fd.offset, none⟩), by have := VRel.ptr (m := m) id (off + fd.offset) L hm; rwa [← Nat.add_assoc] at this, ?_⟩
    simp [Instr.fieldAt, run_underlying hd, hf, Instr.sureAddr, fieldPlace, run_sizeOf hn, hz, addr_add]
theorem field_ok {s : TypeId} {x v : V} {x' : Value} {f : Nat} (e : fieldA P s x f = some v) (hx : VRel m x x') : Gets P m w (Instr.field s x' f) v := by
  replace e := bnd_some.1 e; obtain ⟨vs, hp, e⟩ := e
  obtain rfl := V.agg?_inv hp
  obtain ⟨vs', hv, rfl⟩ := agg_inv hx
  replace e := bnd_some.1 e; obtain ⟨d, hd, e⟩ := e
  split at e
  case h_2 => cases e
  case h_1 fs =>
    replace e := bnd_some.1 e; obtain ⟨fd, hf, e⟩ := e
    obtain ⟨v', h1, h2⟩ := part_ok (w := w) hv e
    refine ⟨v', h2, ?_⟩
    simp [Instr.field, run_underlying hd, hf, asAgg, h1]

theorem idx_spec {i : V} {len n : Nat} (e : idx i len = some n) : ∃ k, i = .int k (n : Int) ∧ n < len := by
  replace e := bnd_some.1 e; obtain ⟨p, hp, e⟩ := e
  obtain ⟨h1, h2⟩ := grd_some.1 e
  injection h2 with h2; subst h2
  exact ⟨p.1, V.nat?_inv hp, Nat.le_of_ble_eq_true h1⟩

/-- A slice, by its capacity. -/
theorem sl_inv {id off len : Nat} {cap : Option Nat} {x : Value} (h : VRel m (.sl id off len cap) x) :
    ∃ L c, m id = some L ∧ x = .slice (some ⟨L.b, L.d + off, none⟩) len c ∧ (match cap with | some c' => c' = c | none => L.d + off + c * L.sz = L.e ∧ len ≤ c) := by
  cases h with
  | slc _ _ _ c L hm => exact ⟨L, c, hm, rfl, rfl⟩
  | slo _ _ _ c L hm h1 h2 => exact ⟨L, c, hm, rfl, h1, h2⟩

theorem indexAt_ok {t : TypeId} {x i v : V} {x' i' : Value} (e : indexAtA P t x i = some v) (hx : VRel m x x') (hi : VRel m i i') : Gets P m w (Instr.indexAt t x' i') v := by
  replace e := bnd_some.1 e; obtain ⟨d, hd, e⟩ := e
  split at e
  case h_3 => cases e
  case h_1 el =>
    replace e := bnd_some.1 e; obtain ⟨⟨id, off, len, cap⟩, hp, e⟩ := e
    obtain rfl := V.sl?_inv hp; dsimp only at *
    obtain ⟨L, c, hm, rfl, _⟩ := sl_inv hx
    replace e := bnd_some.1 e; obtain ⟨n, hn, e⟩ := e
    replace e := bnd_some.1 e; obtain ⟨s, hs, e⟩ := e
    injection e with e; subst e
    obtain ⟨k, rfl, hlt⟩ := idx_spec hn
    obtain rfl := int_inv hi
    refine ⟨.pointer (some ⟨L.b, L.d + off + n * s, none⟩), by have := VRel.ptr (m := m) id (off + n * s) L hm; rwa [← Nat.add_assoc] at this, ?_⟩
    simp [Instr.indexAt, asIntOf, run_underlying hd, run_sizeOf hs, hlt, addr_add]
  case h_2 len el =>
    replace e := bnd_some.1 e; obtain ⟨⟨id, off⟩, hp, e⟩ := e
    obtain rfl := V.ptr?_inv hp; dsimp only at *
    obtain ⟨L, hm, rfl⟩ := ptr_inv hx
    replace e := bnd_some.1 e; obtain ⟨n, hn, e⟩ := e
    replace e := bnd_some.1 e; obtain ⟨s, hs, e⟩ := e
    injection e with e; subst e
    obtain ⟨k, rfl, hlt⟩ := idx_spec hn
    obtain rfl := int_inv hi
    refine ⟨.pointer (some ⟨L.b, L.d + off + n * s, none⟩), by have := VRel.ptr (m := m) id (off + n * s) L hm; rwa [← Nat.add_assoc] at this, ?_⟩
    simp [Instr.indexAt, asIntOf, run_underlying hd, run_sizeOf hs, hlt, addr_add, Instr.sureAddr]
theorem index_ok {t : TypeId} {x i v : V} {x' i' : Value} (e : indexA P t x i = some v) (hx : VRel m x x') (hi : VRel m i i') : Gets P m w (Instr.index t x' i') v := by
  replace e := bnd_some.1 e; obtain ⟨d, hd, e⟩ := e
  split at e
  case h_3 => cases e
  case h_1 =>
    replace e := bnd_some.1 e; obtain ⟨s, hp, e⟩ := e
    obtain rfl := V.str?_inv hp
    obtain rfl := str_inv hx
    replace e := bnd_some.1 e; obtain ⟨n, hn, e⟩ := e
    replace e := bnd_some.1 e; obtain ⟨b, hb, e⟩ := e
    injection e with e; subst e
    obtain ⟨k, rfl, hlt⟩ := idx_spec hn
    obtain rfl := int_inv hi
    rw [lget_eq] at hb
    have hb' : (⟨s.toArray⟩ : ByteArray)[n]? = some b := by
      have hlt' : n < (⟨s.toArray⟩ : ByteArray).size := by simpa [ByteArray.size] using hlt
      rw [getElem?_pos _ n hlt']
      have : s[n] = b := by simpa [List.getElem?_eq_getElem hlt] using hb
      rw [← this]; rfl
    refine ⟨.int .u8 b.toNat, .int _ _, ?_⟩
    simp [Instr.index, asIntOf, run_underlying hd, hb']
  case h_2 len el =>
    replace e := bnd_some.1 e; obtain ⟨vs, hp, e⟩ := e
    obtain rfl := V.agg?_inv hp
    obtain ⟨vs', hv, rfl⟩ := agg_inv hx
    replace e := bnd_some.1 e; obtain ⟨n, hn, e⟩ := e
    replace e := bnd_some.1 e; obtain ⟨s, hs, e⟩ := e
    obtain ⟨k, rfl, hlt⟩ := idx_spec hn
    obtain rfl := int_inv hi
    obtain ⟨v', h1, h2⟩ := part_ok (w := w) hv e
    refine ⟨v', h2, ?_⟩
    simp [Instr.index, asIntOf, run_underlying hd, run_sizeOf hs, hlt, h1]

/-! ### Slices of slices -/
theorem bnd_spec {x : Option V} {d y n : Nat} (e : bnd x d y = some n) : (x = none ∧ n = d) ∨ ∃ k, x = some (.int k (n : Int)) ∧ n ≤ y := by
  cases x with
  | none => left; injection e with e; exact ⟨rfl, e.symm⟩
  | some v =>
    right
    replace e := bnd_some.1 (show v.nat?.bind _ = some n from e); obtain ⟨p, hp, e⟩ := e
    obtain ⟨h1, h2⟩ := grd_some.1 e
    injection h2 with h2; subst h2
    exact ⟨p.1, by rw [V.nat?_inv hp], Nat.le_of_ble_eq_true h1⟩
/-- The operands of a slice expression, one by one. -/
inductive ORelO (m : Mu) : Option V → Option Value → Prop where
  | none : ORelO m none none
  | some (v : V) (v' : Value) : VRel m v v' → ORelO m (some v) (some v')
theorem run_sliceBound {k : IntKind} {n y : Nat} (h : n ≤ y) (code : BoundsCode) : (Instr.sliceBound (.int k (n : Int)) y code).run P w = .ok n w := by
  simp [Instr.sliceBound, asIntOf, h]
theorem bounds_ok {lo hi : Option V} {lo' hi' : Option Value} {isS : Bool} {len cap hb lb : Nat} (hlo : ORelO m lo lo') (hhi : ORelO m hi hi') (e1 : bnd hi len cap = some hb) (e2 : bnd lo 0 hb = some lb) :
    (Instr.sliceBounds isS len cap lo' hi' none).run P w = .ok (lb, hb, cap) w := by
  unfold Instr.sliceBounds
  cases hhi with
  | none =>
    rcases bnd_spec e1 with ⟨_, rfl⟩ | ⟨k, h, _⟩
    case inr => cases h
    cases hlo with
    | none =>
      rcases bnd_spec e2 with ⟨_, rfl⟩ | ⟨k, h, _⟩
      case inr => cases h
      simp
    | some v v' hv =>
      rcases bnd_spec e2 with ⟨h, _⟩ | ⟨k, h, hle⟩
      case inl => cases h
      injection h with h; subst h
      obtain rfl := int_inv hv
      simp [run_sliceBound hle]
  | some u u' hu =>
    rcases bnd_spec e1 with ⟨h, _⟩ | ⟨k, h, hle⟩
    case inl => cases h
    injection h with h; subst h
    obtain rfl := int_inv hu
    cases hlo with
    | none =>
      rcases bnd_spec e2 with ⟨_, rfl⟩ | ⟨k, h, _⟩
      case inr => cases h
      simp [run_sliceBound hle]
    | some v v' hv =>
      rcases bnd_spec e2 with ⟨h, _⟩ | ⟨k, h, hle'⟩
      case inl => cases h
      injection h with h; subst h
      obtain rfl := int_inv hv
      simp [run_sliceBound hle, run_sliceBound hle']
end
end Go.Proofs.YtkhgfdlinobabaaGreatDoor.AM

/- The smaller machine's operations do what the program's do: slices, literals, append, copy. -/
namespace Go.Proofs.YtkhgfdlinobabaaGreatDoor.AM
open Go.RowKit (Below)

section
variable {P : Program} {NG N0 : Nat} {w0 : World} {m : Mu} {h : H} {w : World} {nid : Nat}

theorem bnd_mono {x : Option V} {d y y' n : Nat} (e : bnd x d y = some n) (hy : y ≤ y') : bnd x d y' = some n := by
  cases x with
  | none => exact e
  | some v =>
    replace e := bnd_some.1 (show v.nat?.bind _ = some n from e); obtain ⟨p, hp, e⟩ := e
    replace e := grd_some.1 e; obtain ⟨h1, e⟩ := e
    exact bnd_some.2 ⟨p, hp, grd_some.2 ⟨Nat.ble_eq_true_of_le (Nat.le_trans (Nat.le_of_ble_eq_true h1) hy), e⟩⟩
theorem bnd_le {x : Option V} {d y n : Nat} (e : bnd x d y = some n) (hd : d ≤ y) : n ≤ y := by
  rcases bnd_spec e with ⟨_, rfl⟩ | ⟨_, _, h⟩
  · exact hd
  · exact h
theorem bounds3_ok {lo hi mx : Option V} {lo' hi' mx' : Option Value} {len cap hb lb mb : Nat} (hlo : ORelO m lo lo') (hhi : ORelO m hi hi') (hmx : ORelO m mx mx') (i1 : hi.isSome = true) (i2 : mx.isSome = true)
    (e0 : bnd mx 0 cap = some mb) (e1 : bnd hi len mb = some hb) (e2 : bnd lo 0 hb = some lb) :
    (Instr.sliceBounds true len cap lo' hi' mx').run P w = .ok (lb, hb, mb) w := by
  unfold Instr.sliceBounds
  cases hmx with
  | none => cases i2
  | some x x' hx =>
    rcases bnd_spec e0 with ⟨h, _⟩ | ⟨k, h, hle0⟩
    case inl => cases h
    injection h with h; subst h
    obtain rfl := int_inv hx
    cases hhi with
    | none => cases i1
    | some u u' hu =>
      rcases bnd_spec e1 with ⟨h, _⟩ | ⟨k, h, hle⟩
      case inl => cases h
      injection h with h; subst h
      obtain rfl := int_inv hu
      cases hlo with
      | none =>
        rcases bnd_spec e2 with ⟨_, rfl⟩ | ⟨k, h, _⟩
        case inr => cases h
        simp [run_sliceBound hle, run_sliceBound hle0]
      | some v v' hv =>
        rcases bnd_spec e2 with ⟨h, _⟩ | ⟨k, h, hle'⟩
        case inl => cases h
        injection h with h; subst h
        obtain rfl := int_inv hv
        simp [run_sliceBound hle, run_sliceBound hle', run_sliceBound hle0]
theorem cut_ok {id off s l hb mb : Nat} {L : Loc} (hm : m id = some L) : VRel m (cutA id off s l hb mb) (.slice (some (if mb = l then ⟨L.b, L.d + off, none⟩ else (⟨L.b, L.d + off, none⟩ : Addr).add (l * s))) (hb - l) (mb - l)) := by
  unfold cutA
  by_cases e : mb = l
  · subst e
    rw [show Nat.beq mb mb = true from Nat.beq_refl mb, if_pos rfl, Nat.sub_self]
    exact .slc _ _ _ _ _ hm
  · rw [beqf e, if_neg e, addr_add, Nat.add_assoc]
    exact .slc _ _ _ _ _ hm

theorem sliceAt_ok (R : HRel NG N0 w0 m h w) {t : TypeId} {x v : V} {x' : Value} {lo hi mx : Option V} {lo' hi' mx' : Option Value} (e : sliceAtA P t x lo hi mx h = some v) (hx : VRel m x x')
    (hlo : ORelO m lo lo') (hhi : ORelO m hi hi') (hmx : ORelO m mx mx') : Gets P m w (Instr.sliceAt t x' lo' hi' mx') v := by
  replace e := bnd_some.1 e; obtain ⟨d, hd, e⟩ := e
  split at e
  case h_4 => cases e
  case h_1 =>
    replace e := grd_some.1 e; obtain ⟨hn, e⟩ := e
    replace e := bnd_some.1 e; obtain ⟨s, hp, e⟩ := e
    replace e := bnd_some.1 e; obtain ⟨hb, e1, e⟩ := e
    replace e := bnd_some.1 e; obtain ⟨lb, e2, e⟩ := e
    injection e with e; subst e
    obtain rfl := V.str?_inv hp
    obtain rfl := str_inv hx
    cases hmx with
    | some => cases hn
    | none =>
      have hb' := bnd_le e1 (Nat.le_refl _)
      have hl' := bnd_le e2 (Nat.zero_le _)
      have hs := bounds_ok (P := P) (w := w) (isS := false) hlo hhi e1 e2
      refine ⟨.string ((⟨s.toArray⟩ : ByteArray).extract lb hb), ?_, ?_⟩
      · have := VRel.str (m := m) ((s.drop lb).take (hb - lb))
        have e : (⟨((s.drop lb).take (hb - lb)).toArray⟩ : ByteArray) = (⟨s.toArray⟩ : ByteArray).extract lb hb := by
          apply ByteArray.ext
          apply Array.ext'
          rw [ByteArray.data_extract]
          simp
        rwa [e] at this
      · have hsz : (⟨s.toArray⟩ : ByteArray).size = s.length := by simp [ByteArray.size]
        simp [Instr.sliceAt, Instr.slice, run_underlying hd, hsz, hs]
  case h_3 n el =>
    replace e := grd_some.1 e; obtain ⟨hn, e⟩ := e
    replace e := bnd_some.1 e; obtain ⟨⟨id, off⟩, hp, e⟩ := e
    obtain rfl := V.ptr?_inv hp; dsimp only at *
    obtain ⟨L, hm, rfl⟩ := ptr_inv hx
    replace e := bnd_some.1 e; obtain ⟨s, hs, e⟩ := e
    replace e := bnd_some.1 e; obtain ⟨hb, e1, e⟩ := e
    replace e := bnd_some.1 e; obtain ⟨lb, e2, e⟩ := e
    injection e with e; subst e
    cases hmx with
    | some => cases hn
    | none =>
      have hs' := bounds_ok (P := P) (w := w) (isS := false) hlo hhi e1 e2
      exact ⟨_, cut_ok hm, by simp [Instr.sliceAt, run_underlying hd, Instr.sureAddr, hs', run_sizeOf hs]⟩
  case h_2 el =>
    cases hq : sliceSlA P el x lo hi mx h with
    | none =>
      rw [hq] at e
      have e : ((szOf P el).bind fun _ => sliceNilA x lo hi mx) = some v := by simpa using e
      replace e := bnd_some.1 e; obtain ⟨s, hs, e⟩ := e
      unfold sliceNilA at e
      split at e
      case h_2 => cases e
      case h_1 =>
        replace e := grd_some.1 e; obtain ⟨hn, e⟩ := e
        replace e := bnd_some.1 e; obtain ⟨hb, e1, e⟩ := e
        replace e := bnd_some.1 e; obtain ⟨lb, e2, e⟩ := e
        injection e with e; subst e
        cases hx
        cases hmx with
        | some => cases hn
        | none =>
          have h1 := bnd_le e1 (Nat.le_refl _)
          obtain rfl : hb = 0 := by omega
          have h2 := bnd_le e2 (Nat.le_refl _)
          obtain rfl : lb = 0 := by omega
          have hs' := bounds_ok (P := P) (w := w) (isS := true) hlo hhi e1 e2
          exact ⟨.slice none 0 0, .nilsl, by simp [Instr.sliceAt, Instr.slice, run_underlying hd, hs', run_sizeOf hs]⟩
    | some v' =>
      rw [hq] at e
      obtain rfl : v' = v := by simpa using e
      clear e
      replace hq := bnd_some.1 hq; obtain ⟨⟨id, off, len, cap⟩, hp, e⟩ := hq
      obtain rfl := V.sl?_inv hp; dsimp only at *
      obtain ⟨L, c, hm, rfl, hcap⟩ := sl_inv hx
      replace e := bnd_some.1 e; obtain ⟨s, hs, e⟩ := e
      cases hmx with
      | none =>
        cases cap with
        | none =>
          replace e := bnd_some.1 (show (rowOf h id).bind _ = some _ from e); obtain ⟨r, hr, e⟩ := e
          replace e := bnd_some.1 e; obtain ⟨hb, e1, e⟩ := e
          replace e := bnd_some.1 e; obtain ⟨lb, e2, e⟩ := e
          replace e := grd_some.1 e; obtain ⟨hg, e⟩ := e
          injection e with e; subst e
          simp only [Bool.and_eq_true, Bool.or_eq_true] at hg
          obtain ⟨hg, hsz⟩ := hg
          have hsz := Nat.eq_of_beq_eq_true hsz
          have hbl := bnd_le e1 (Nat.le_refl _)
          have hll := bnd_le e2 (Nat.zero_le _)
          obtain ⟨hc1, hc2⟩ := hcap
          obtain ⟨_, _, cc, fz, RR⟩ := row_of R hr hm
          have hLs : L.sz = s := by rw [RR.sz, hsz]
          have hs' := bounds_ok (P := P) (w := w) (isS := true) hlo hhi (bnd_mono e1 hc2) e2
          refine ⟨.slice (some (if c = lb then ⟨L.b, L.d + off, none⟩ else (⟨L.b, L.d + off, none⟩ : Addr).add (lb * s))) (hb - lb) (c - lb), ?_, by simp [Instr.sliceAt, Instr.slice, run_underlying hd, hs', run_sizeOf hs]; split <;> rfl⟩
          have hadd : (if c = lb then (⟨L.b, L.d + off, none⟩ : Addr) else (⟨L.b, L.d + off, none⟩ : Addr).add (lb * s)) = ⟨L.b, L.d + (off + lb * s), none⟩ := by
            by_cases hcl : c = lb
            · rw [if_pos hcl]
              have : lb = 0 := by
                rcases hg with hg | hg
                · have := Nat.le_of_ble_eq_true hg; omega
                · exact Nat.eq_of_beq_eq_true hg
              subst this; simp
            · rw [if_neg hcl, addr_add, Nat.add_assoc]
          rw [hadd]
          refine .slo _ _ _ _ _ hm ?_ (by omega)
          rw [hLs] at hc1 ⊢
          have : (c - lb) * s + lb * s = c * s := by rw [← Nat.add_mul]; congr 1; omega
          omega
        | some c' =>
          dsimp only at hcap; subst hcap
          replace e := bnd_some.1 (show (bnd hi len c').bind _ = some _ from e); obtain ⟨hb, e1, e⟩ := e
          replace e := bnd_some.1 e; obtain ⟨lb, e2, e⟩ := e
          injection e with e; subst e
          have hs' := bounds_ok (P := P) (w := w) (isS := true) hlo hhi e1 e2
          exact ⟨_, cut_ok hm, by simp [Instr.sliceAt, Instr.slice, run_underlying hd, hs', run_sizeOf hs]; split <;> rfl⟩
      | some u u' hu =>
        replace e := bnd_some.1 (show (bnd (some u) 0 (cap.getD len)).bind _ = some _ from e); obtain ⟨mb, e0, e⟩ := e
        replace e := grd_some.1 e; obtain ⟨hg, e⟩ := e
        replace e := bnd_some.1 e; obtain ⟨hb, e1, e⟩ := e
        replace e := bnd_some.1 e; obtain ⟨lb, e2, e⟩ := e
        injection e with e; subst e
        have hcl : cap.getD len ≤ c := by
          cases cap with
          | none => exact hcap.2
          | some c' => dsimp only at hcap; subst hcap; exact Nat.le_refl _
        have hs' := bounds3_ok (P := P) (w := w) (len := len) hlo hhi (.some _ _ hu) hg rfl (bnd_mono e0 hcl) e1 e2
        exact ⟨_, cut_ok hm, by simp [Instr.sliceAt, Instr.slice, run_underlying hd, hs', run_sizeOf hs]; split <;> rfl⟩
end
end Go.Proofs.YtkhgfdlinobabaaGreatDoor.AM

/- The smaller machine's operations do what the program's do: structs, literals, make. -/
namespace Go.Proofs.YtkhgfdlinobabaaGreatDoor.AM
open Go.RowKit (Below)

section
variable {P : Program} {NG N0 : Nat} {w0 : World} {m : Mu} {h : H} {w : World} {nid : Nat}

inductive PsRel (m : Mu) : List (Nat × V) → List (Nat × Value) → Prop where
  | nil : PsRel m [] []
  | cons (i : Nat) (v : V) (v' : Value) (ps : List (Nat × V)) (ps' : List (Nat × Value)) : VRel m v v' → PsRel m ps ps' → PsRel m ((i, v) :: ps) ((i, v') :: ps')

theorem foldl_set (off : Nat) : ∀ (vs : List Value) (k : Nat) (cs : Array Value), off + k + vs.length ≤ cs.size →
    ((vs.zipIdx k).foldl (fun (cs : Array Value) (x : Value × Nat) => cs.setIfInBounds (off + x.2) x.1) cs).toList = cs.toList.take (off + k) ++ (vs ++ cs.toList.drop (off + k + vs.length))
  | [], k, cs, _ => by simp
  | v :: r, k, cs, h => by
    simp only [List.length_cons] at h
    simp only [List.zipIdx_cons, List.foldl_cons]
    rw [foldl_set off r (k + 1) _ (by simp; omega), Array.toList_setIfInBounds, show off + (k + 1) = off + k + 1 by omega, set_take _ _ _ _ _ (by simp; omega)]
    simp
theorem fill_ok {place : Nat → Option (Nat × Nat)} {parts : List (Nat × V)} {parts' : List (Nat × Value)} (hp : PsRel m parts parts') : ∀ {cells cs : List V} {cells' : Array Value}, fillA place cells parts = some cs → VsRel m cells cells'.toList →
    ∃ cs', Instr.fill place cells' parts' = some cs' ∧ VsRel m cs cs'.toList := by
  induction hp with
  | nil => intro cells cs cells' e hc; injection e with e; subst e; exact ⟨cells', rfl, hc⟩
  | cons i v v' ps ps' hv _ ih =>
    intro cells cs cells' e hc
    replace e := bnd_some.1 e; obtain ⟨⟨off, sz⟩, h1, e⟩ := e
    replace e := grd_some.1 e; obtain ⟨h2, e⟩ := e
    simp only [Bool.and_eq_true] at h2
    have hs := Nat.eq_of_beq_eq_true h2.1
    have hl := Nat.le_of_ble_eq_true h2.2
    dsimp only at hs hl e
    have l1 := hv.cells.length
    have l2 := hc.length
    simp only [Array.length_toList] at l1 l2
    have key : (v'.cells.zipIdx.foldl (fun (cs : Array Value) (x : Value × Nat) => cs.setIfInBounds (off + x.2) x.1) cells').toList = cells'.toList.take off ++ (v'.cells.toList ++ cells'.toList.drop (off + v'.cells.toList.length)) := by
      rw [← Array.foldl_toList, Array.toList_zipIdx]
      have := foldl_set off v'.cells.toList 0 cells' (by simp; omega)
      simpa using this
    obtain ⟨cs', e1, e2⟩ := ih (cells' := v'.cells.zipIdx.foldl (fun (cs : Array Value) (x : Value × Nat) => cs.setIfInBounds (off + x.2) x.1) cells') e (by
      rw [key]
      unfold splice
      refine (hc.take off).append (hv.cells.append ?_)
      rw [show v.cells.length = v'.cells.toList.length by simp; omega]
      exact hc.drop _)
    refine ⟨cs', ?_, e2⟩
    rw [Instr.fill, h1]
    dsimp only
    rw [if_neg (by simp; omega)]
    exact e1

theorem places_ok : ∀ {fs : List Field} {ps : List (Nat × Nat)}, placesOf P fs = some ps → (fs.mapM (m := Sem) (fun (f : Field) => do pure (f.offset, ← sizeOf f.type))).run P w = .ok ps w
  | [], ps, e => by injection e with e; subst e; simp
  | f :: fs, ps, e => by
    replace e := bnd_some.1 e; obtain ⟨n, hn, e⟩ := e
    replace e := bnd_some.1 e; obtain ⟨r, hr, e⟩ := e
    injection e with e; subst e
    simp only [List.mapM_cons, Sem.run_bind, run_sizeOf hn, Result.andThen_ok, Sem.run_pure, places_ok hr]
theorem build_ok {t : TypeId} {parts : List (Nat × V)} {parts' : Array (Nat × Value)} {v : V} (e : buildA P t parts = some v) (hp : PsRel m parts parts'.toList) : Gets P m w (Instr.build t parts') v := by
  replace e := bnd_some.1 e; obtain ⟨z, hz, e⟩ := e
  replace e := bnd_some.1 e; obtain ⟨d, hd, e⟩ := e
  obtain ⟨z', h1, h2⟩ := run_zeroValue hz w
  split at e
  case h_3 => cases e
  case h_1 fs =>
    replace e := bnd_some.1 e; obtain ⟨ps, hps, e⟩ := e
    replace e := bnd_some.1 e; obtain ⟨cs, hcs, e⟩ := e
    injection e with e; subst e
    have hl : (fun i => lget ps i) = fun i => (ps.toArray)[i]? := by funext i; rw [lget_eq]; simp
    obtain ⟨cs', e1, e2⟩ := fill_ok (cells' := z'.cells) hp (place := fun i => (ps.toArray)[i]?) (by rw [← hl]; exact hcs) (h2 m).cells
    refine ⟨.agg cs', by simpa using VRel.agg _ _ e2, ?_⟩
    have hm : (fs.mapM (m := Sem) (fun (f : Field) => do pure (f.offset, ← sizeOf f.type))).run P w = .ok ps.toArray w := by
      rw [Array.mapM_eq_mapM_toList]
      rw [Sem.run_map, places_ok (P := P) (w := w) hps]; rfl
    simp only [Instr.build, Sem.run_bind, h1, Result.andThen_ok, run_underlying hd, hm, e1, Sem.run_pure]
  case h_2 n el =>
    replace e := bnd_some.1 e; obtain ⟨s, hs, e⟩ := e
    replace e := bnd_some.1 e; obtain ⟨cs, hcs, e⟩ := e
    injection e with e; subst e
    obtain ⟨cs', e1, e2⟩ := fill_ok (cells' := z'.cells) hp hcs (h2 m).cells
    refine ⟨.agg cs', by simpa using VRel.agg _ _ e2, ?_⟩
    simp only [Instr.build, Sem.run_bind, h1, Result.andThen_ok, run_underlying hd, run_sizeOf hs, e1, Sem.run_pure]

theorem rep_ok {z : List V} {z' : Array Value} (hz : VsRel m z z'.toList) (hs : 0 < z.length) : ∀ n, VsRel m (rep z n) (((Array.range (n * z.length)).map (z'[· % z'.size]!)).toList) := by
  have hl := hz.length
  simp only [Array.length_toList] at hl
  have e0 : ∀ k, (((Array.range k).map (z'[· % z'.size]!)).toList) = (List.range k).map fun i => z'[i % z'.size]! := fun k => by simp [Array.toList_range]
  intro n
  rw [e0]
  induction n with
  | zero => simp [rep]; exact .nil
  | succ n ih =>
    have hr : List.range ((n + 1) * z.length) = List.range z.length ++ (List.range (n * z.length)).map (z.length + ·) := by
      rw [Nat.succ_mul, Nat.add_comm, List.range_add]
    rw [hr, List.map_append, List.map_map]
    have h1 : (List.range z.length).map (fun i => z'[i % z'.size]!) = z'.toList := by
      apply List.ext_getElem
      · simp [hl]
      · intro i hi _
        have hi' : i < z'.size := by simpa [hl] using hi
        simp [Nat.mod_eq_of_lt hi', hi']
    have h2 : (List.range (n * z.length)).map ((fun i => z'[i % z'.size]!) ∘ (z.length + ·)) = (List.range (n * z.length)).map fun i => z'[i % z'.size]! := by
      apply List.map_congr_left
      intro i _
      simp only [Function.comp]
      rw [← hl, Nat.add_mod_left]
    rw [h1, h2]
    exact hz.append ih
theorem rep_length (z : List V) (n : Nat) : (rep z n).length = n * z.length := by
  induction n with
  | zero => simp [rep]
  | succ n ih => simp [rep, ih, Nat.succ_mul]; omega
theorem fillA_length {place : Nat → Option (Nat × Nat)} : ∀ {parts : List (Nat × V)} {cells cs : List V}, fillA place cells parts = some cs → cs.length = cells.length
  | [], cells, cs, e => by injection e with e; subst e; rfl
  | (i, v) :: rest, cells, cs, e => by
    replace e := bnd_some.1 e; obtain ⟨⟨off, sz⟩, h1, e⟩ := e
    replace e := grd_some.1 e; obtain ⟨h2, e⟩ := e
    simp only [Bool.and_eq_true] at h2
    have hs := Nat.eq_of_beq_eq_true h2.1
    have hl := Nat.le_of_ble_eq_true h2.2
    rw [fillA_length e]
    simp [splice]; omega

theorem buildSlice_ok (R : HRel NG N0 w0 m h w) (hf : m nid = none) (hn : nid < h.next) {t : TypeId} {len : Nat} {parts : List (Nat × V)} {parts' : Array (Nat × Value)} {v : V} {r : Row} (e : buildSliceA P t len parts nid = some (v, r)) (hp : PsRel m parts parts'.toList) :
    Yld P NG N0 w0 m h w nid (Instr.buildSlice t len parts') v (h.set nid (some (.row r))) := by
  replace e := bnd_some.1 e; obtain ⟨d, hd, e⟩ := e
  split at e
  case h_2 => cases e
  case h_1 el =>
    replace e := bnd_some.1 e; obtain ⟨s, hs, e⟩ := e
    replace e := bnd_some.1 e; obtain ⟨z, hz, e⟩ := e
    replace e := grd_some.1 e; obtain ⟨hg, e⟩ := e
    replace e := bnd_some.1 e; obtain ⟨cs, hcs, e⟩ := e
    injection e with e; injection e with e1 e2; subst e1; subst e2
    simp only [Bool.and_eq_true, Bool.not_eq_true'] at hg
    obtain ⟨⟨hle, hzl⟩, hs0⟩ := hg
    have hle := Nat.le_of_ble_eq_true hle
    have hzl := Nat.eq_of_beq_eq_true hzl
    have hs0 : s ≠ 0 := by intro h0; subst h0; cases hs0
    obtain ⟨z', h1, h2⟩ := run_zeroValue hz w
    have hfl := fillA_length hcs
    rw [rep_length, hzl] at hfl
    by_cases hlen : len = 0
    · subst hlen
      have hr : rep z.cells 0 = [] := rfl
      rw [hr] at hcs
      obtain ⟨cs', f1, f2⟩ := fill_ok (cells' := #[]) hp hcs (by simpa using VsRel.nil)
      obtain ⟨m1, m2⟩ := new_row R hf hn (t := el) (sz := s) (st := false) (ex := true) (frz := 0) (fz := (0, 0)) cs.length (c := cs') (by rw [List.take_of_length_le (by rw [f2.length]; exact Nat.le_refl _)]; exact f2) (Nat.le_refl _) (by have := f2.length; simp at this; omega)
        (w1 := w) rfl rfl rfl rfl (w' := { w with heap := w.heap.push (.cells cs' el (0, 0)) }) rfl rfl rfl rfl (.inl ⟨rfl, .inl rfl⟩) (fun _ => by first | (have := f2.length; simp at this; omega) | (have := hr.length; simp at this; simp; omega))
      refine ⟨_, _, .slice (some ⟨w.heap.size, 0, none⟩) 0 0, m1, m2, ?_, ?_⟩
      · exact VRel.slc nid 0 0 0 _ (Mu.upd_at _ _ _)
      · simp [Instr.buildSlice, run_underlying hd, run_sizeOf hs, Array.range_zero', f1, newRow]
    · have hz0 := rep_ok (z := z.cells) (z' := z'.cells) (h2 m).cells (by omega) len
      rw [hzl] at hz0
      obtain ⟨cs', f1, f2⟩ := fill_ok hp hcs hz0
      obtain ⟨m1, m2⟩ := new_row R hf hn (t := el) (sz := s) (st := false) (ex := true) (frz := 0) (fz := (0, 0)) cs.length (c := cs') (by rw [List.take_of_length_le (by rw [f2.length]; exact Nat.le_refl _)]; exact f2) (Nat.le_refl _) (by have := f2.length; simp at this; omega)
        (w1 := w) rfl rfl rfl rfl (w' := { w with heap := w.heap.push (.cells cs' el (0, 0)) }) rfl rfl rfl rfl (.inl ⟨rfl, .inl rfl⟩) (fun _ => by first | (have := f2.length; simp at this; omega) | (have := hr.length; simp at this; simp; omega))
      refine ⟨_, _, .slice (some ⟨w.heap.size, 0, none⟩) len len, m1, m2, ?_, ?_⟩
      · exact VRel.slc nid 0 len len _ (Mu.upd_at _ _ _)
      · have hne : ¬ (len * s = 0) := Nat.mul_ne_zero hlen hs0
        have hng : ¬ (len * s > 2 ^ 24) := by omega
        simp only [Instr.buildSlice, Sem.run_bind, run_underlying hd, Result.andThen_ok, run_sizeOf hs, hng, hne, if_false, h1, Sem.run_pure, f1, newRow, run_newObj]

theorem wrap_nat {n : Nat} (h : n ≤ 1048576) : IntKind.i64.wrap (n : Int) = n := by
  simp [IntKind.wrap, IntKind.bits, IntKind.signed]; omega
theorem makeSlice_ok (R : HRel NG N0 w0 m h w) (hf : m nid = none) (hn : nid < h.next) {t : TypeId} {l c v : V} {l' c' : Value} {r : Row} (e : makeSliceA P t l c nid = some (v, r)) (hl : VRel m l l') (hc : VRel m c c') : Yld P NG N0 w0 m h w nid (Instr.makeSlice t l' c') v (h.set nid (some (.row r))) := by
  replace e := bnd_some.1 e; obtain ⟨⟨kl, ln⟩, hln, e⟩ := e
  replace e := bnd_some.1 e; obtain ⟨⟨kc, cn⟩, hcn, e⟩ := e
  obtain rfl := V.nat?_inv hln
  obtain rfl := V.nat?_inv hcn
  dsimp only at *
  obtain rfl := int_inv hl
  obtain rfl := int_inv hc
  replace e := bnd_some.1 e; obtain ⟨d, hd, e⟩ := e
  split at e
  case h_2 => cases e
  case h_1 el =>
    replace e := bnd_some.1 e; obtain ⟨s, hs, e⟩ := e
    replace e := bnd_some.1 e; obtain ⟨by_, hby, e⟩ := e
    replace e := bnd_some.1 e; obtain ⟨z, hz, e⟩ := e
    replace e := grd_some.1 e; obtain ⟨hg, e⟩ := e
    injection e with e; injection e with e1 e2; subst e1; subst e2
    simp only [Bool.and_eq_true, Bool.not_eq_true'] at hg
    obtain ⟨⟨⟨⟨g1, g2⟩, g3⟩, g4⟩, g5⟩ := hg
    have g1 := Nat.le_of_ble_eq_true g1
    have g2 := Nat.le_of_ble_eq_true g2
    have g3 := Nat.le_of_ble_eq_true g3
    have g4 := Nat.eq_of_beq_eq_true g4
    have g5 : s ≠ 0 := by intro h0; subst h0; cases g5
    obtain ⟨z', h1, h2⟩ := run_zeroValue hz w
    obtain ⟨i, hi, hib⟩ := info_of_bytes hby
    have ec := wrap_nat g2
    have el' := wrap_nat (Nat.le_trans g1 g2)
    have hr : VsRel m (rep z.cells cn) ((Array.range (cn * s)).map ((if cn * s = 0 then #[] else z'.cells)[· % (if cn * s = 0 then #[] else z'.cells : Array Value).size]!)).toList := by
      by_cases h0 : cn * s = 0
      · have hcn0 : cn = 0 := by
          rcases Nat.mul_eq_zero.1 h0 with h | h
          · exact h
          · exact absurd h g5
        subst hcn0
        simp [rep]; exact .nil
      · simp only [h0, if_false]
        have := rep_ok (z := z.cells) (z' := z'.cells) (h2 m).cells (by omega) cn
        rwa [g4] at this
    have hrl := hr.length
    rw [rep_length, g4] at hrl
    obtain ⟨m1, m2⟩ := new_row R hf hn (t := el) (sz := s) (st := false) (ex := true) (frz := 0) (fz := (0, 0)) (rep z.cells cn).length (c := (Array.range (cn * s)).map ((if cn * s = 0 then #[] else z'.cells)[· % (if cn * s = 0 then #[] else z'.cells : Array Value).size]!))
      (by rw [List.take_of_length_le (by rw [hr.length]; exact Nat.le_refl _)]; exact hr) (Nat.le_refl _) (by have := hr.length; simp at this; simp; omega)
      (w1 := w) rfl rfl rfl rfl (w' := { w with heap := w.heap.push (.cells ((Array.range (cn * s)).map ((if cn * s = 0 then #[] else z'.cells)[· % (if cn * s = 0 then #[] else z'.cells : Array Value).size]!)) el (0, 0)) }) rfl rfl rfl rfl (.inl ⟨rfl, .inl rfl⟩) (fun _ => by first | (have := f2.length; simp at this; omega) | (have := hr.length; simp at this; simp; omega))
    refine ⟨_, _, .slice (some ⟨w.heap.size, 0, none⟩) ln cn, m1, m2, ?_, ?_⟩
    · exact VRel.slc nid 0 ln cn _ (Mu.upd_at _ _ _)
    · have hb : ¬ ((by_ : Int) * (cn : Int) > 2 ^ 48) := by
        have e : ((by_ : Int) * (cn : Int)) = ((cn * by_ : Nat) : Int) := by rw [Int.natCast_mul, Int.mul_comm]
        rw [e]
        omega
      have hz' : (if cn * s = 0 then (pure #[] : Sem (Array Value)) else do pure (← zeroValue el).cells).run P w = .ok (if cn * s = 0 then #[] else z'.cells) w := by
        by_cases h0 : cn * s = 0
        · simp [h0]
        · simp [h0, h1]
      have hb' : ¬ ((2 : Int) ^ 48 < (by_ : Int) * (cn : Int)) := hb
      have hneg : ¬ ((cn : Int) < 0) := by omega
      have hneg2 : ¬ ((ln : Int) < 0) := by omega
      have hgt : ¬ ((cn : Int) < (ln : Int)) := by omega
      simp only [Instr.makeSlice, Sem.run_bind, run_underlying hd, Result.andThen_ok, asInt, asIntOf, Sem.run_pure, run_typeInfo hi, hib, ec, el', Int.toNat_natCast]
      simp only [gt_iff_lt, hneg, hneg2, hgt, hb', decide_false, Bool.or_false, Bool.false_eq_true, if_false, Result.andThen_ok, run_askRoom, Sem.run_bind, run_sizeOf hs]
      by_cases h0 : cn * s = 0
      · simp only [h0, if_true, Sem.run_bind, Sem.run_pure, Result.andThen_ok, newRow, run_newObj]
      · simp only [h0, if_false, Sem.run_bind, Sem.run_pure, Result.andThen_ok, newRow, run_newObj, h1]
end
end Go.Proofs.YtkhgfdlinobabaaGreatDoor.AM

/- The smaller machine's operations do what the program's do: append and copy. -/
namespace Go.Proofs.YtkhgfdlinobabaaGreatDoor.AM
open Go.RowKit (Below)

section
variable {P : Program} {NG N0 : Nat} {w0 : World} {m : Mu} {h : H} {w : World} {nid : Nat}

theorem first_ok (R : HRel NG N0 w0 m h w) {k n : Nat} {x : V} {x' : Value} {cs : List V} (e : firstA k n x h = some cs) (hx : VRel m x x') :
    ∃ cs', (Builtin.firstCells k n x').run P w = .ok cs' w ∧ VsRel m cs cs'.toList := by
  unfold firstA at e
  cases x with
  | nilsl => injection e with e; subst e; cases hx; exact ⟨#[], by simp [Builtin.firstCells], by simpa using VsRel.nil⟩
  | str b =>
    injection e with e; subst e
    obtain rfl := str_inv hx
    have : ∀ l : List UInt8, VsRel m (l.map fun c => V.int .u8 (c.toNat : Int)) (l.map fun c => Value.int .u8 (c.toNat : Int)) := by
      intro l
      induction l with
      | nil => exact .nil
      | cons a l ih => exact .cons _ _ _ _ (.int _ _) ih
    have e : (Array.map (fun b : UInt8 => Value.int IntKind.u8 (b.toNat : Int)) ((⟨b.toArray⟩ : ByteArray).extract 0 n).data).toList = (b.take n).map fun c => Value.int .u8 (c.toNat : Int) := by
      rw [ByteArray.data_extract]; simp
    exact ⟨Array.map (fun b : UInt8 => Value.int IntKind.u8 (b.toNat : Int)) ((⟨b.toArray⟩ : ByteArray).extract 0 n).data, rfl, by rw [e]; exact this _⟩
  | sl id off len cap =>
    obtain ⟨L, c, hm, rfl, _⟩ := sl_inv hx
    replace e := bnd_some.1 (show (rowOf h id).bind _ = some _ from e); obtain ⟨r, hr, e⟩ := e
    replace e := grd_some.1 e; obtain ⟨hl, e⟩ := e
    injection e with e; subst e
    obtain ⟨_, _, cc, fz, RR⟩ := row_of R hr hm
    obtain ⟨vs, h1, h2⟩ := RR.loads (P := P) off (n * k) (Nat.le_of_ble_eq_true hl)
    exact ⟨vs.toArray, by simpa [Builtin.firstCells] using h1, by simpa using h2⟩
  | _ => simp at e
theorem len_ok {x : V} {x' : Value} {n : Nat} (e : lenA x = some n) (hx : VRel m x x') : (Builtin.lenOf x').run P w = .ok n w := by
  cases x <;> simp [lenA] at e
  case nilsl => subst e; cases hx; simp [Builtin.lenOf]
  case str b => subst e; obtain rfl := str_inv hx; simp [Builtin.lenOf, ByteArray.size]
  case sl id off len cap => subst e; obtain ⟨L, c, hm, rfl, _⟩ := sl_inv hx; simp [Builtin.lenOf]

theorem growBy_le (newLen : Nat) (h : 256 ≤ newLen) : ∀ r c, c ≤ 2 * newLen → Builtin.growBy newLen r c ≤ 2 * newLen
  | 0, c, hc => by simpa [Builtin.growBy] using hc
  | r + 1, c, hc => by
    rw [Builtin.growBy]
    split
    · exact hc
    · exact growBy_le newLen h r _ (by omega)
theorem nextcap_le {need old : Nat} (h : old < need) : Builtin.nextslicecap need old ≤ 2 * need := by
  unfold Builtin.nextslicecap
  split
  · omega
  · split
    · omega
    · exact growBy_le need (by omega) 4 old (by omega)

def Puts (P : Program) (base : Option Addr) (o : Nat) (vs : List Value) (w w' : World) : Prop := match base with | some a => (storeCells (a.add o) vs).run P w = .ok () w' | none => w' = w
/-- append, where the new elements fit. -/
theorem append_in {st : TypeId} {xt : Option TypeId} {el : TypeId} {k n len c : Nat} {base : Option Addr} {x' : Value} {new' : Array Value} {ats : Array TypeId} {ty : TypeId} {w' : World}
    (ha : ats[0]? = some st) (hb : ats[1]? = xt) (hz : ∀ t, xt = some t → ∃ d, P.underlying t = some d ∧ (∀ q, d ≠ .int q)) (hu : P.underlying st = some (.slice el)) (hk : szOf P el = some k)
    (hn : (Builtin.lenOf x').run P w = .ok n w) (hnew : (Builtin.firstCells k n x').run P w = .ok new' w) (hfit : len + n ≤ c)
    (hst : Puts P base (len * k) new'.toList w w') :
    (Builtin.append_ ats ty #[.slice base len c, x']).run P w = .ok (.slice base (len + n) c) w' := by
  unfold Builtin.append_
  simp only [ha, hb, List.getElem?_toArray, List.getElem?_cons_zero, List.getElem?_cons_succ]
  simp only [Sem.run_bind, run_underlying hu, Result.andThen_ok, run_sizeOf hk]
  cases xt with
  | none =>
    simp only [Result.andThen_ok, Bool.false_eq_true, if_false, hn, Bool.not_false, if_true, hfit, Sem.run_bind, hnew, Sem.run_pure]
    cases base with
    | none => simp only [Puts] at hst; subst hst; rfl
    | some a => simp only [Puts] at hst; simp only [Sem.run_bind, hst, Result.andThen_ok, Sem.run_pure]
  | some t =>
    obtain ⟨d, h1, h2⟩ := hz t rfl
    have hd : (match d with | .int _ => true | _ => false) = false := by cases d <;> first | rfl | exact absurd rfl (h2 _)
    simp only [Sem.run_bind, run_underlying h1, Result.andThen_ok, Sem.run_pure, hd]
    simp only [Result.andThen_ok, Bool.false_eq_true, if_false, hn, Bool.not_false, if_true, hfit, Sem.run_bind, hnew, Sem.run_pure]
    cases base with
    | none => simp only [Puts] at hst; subst hst; rfl
    | some a => simp only [Puts] at hst; simp only [Sem.run_bind, hst, Result.andThen_ok, Sem.run_pure]

/-- append, where a new row is made. -/
theorem append_new {st : TypeId} {xt : Option TypeId} {el : TypeId} {k n len c by_ : Nat} {base : Option Addr} {x' : Value} {new' old' : Array Value} {ats : Array TypeId} {ty : TypeId} {i : TypeInfo} {z' : Value}
    (ha : ats[0]? = some st) (hb : ats[1]? = xt) (hz : ∀ t, xt = some t → ∃ d, P.underlying t = some d ∧ (∀ q, d ≠ .int q)) (hu : P.underlying st = some (.slice el)) (hk : szOf P el = some k)
    (hn : (Builtin.lenOf x').run P w = .ok n w) (hnew : ∀ w' : World, w'.heap = w.heap → (Builtin.firstCells k n x').run P w' = .ok new' w') (hfit : ¬ (len + n ≤ c))
    (hold : ∀ w' : World, w'.heap = w.heap → (Builtin.firstCells k len (.slice base len c)).run P w' = .ok old' w')
    (hi : P.info? el = some i) (hib : i.bytes = by_) (hb0 : by_ ≠ 0) (hroom : (len + n) * by_ ≤ 1099511627776) (hzv : ∀ w', (zeroValue el).run P w' = .ok z' w') :
    ∃ newCap, len + n ≤ newCap ∧ (Builtin.append_ ats ty #[.slice base len c, x']).run P w = .ok (.slice (some ⟨w.heap.size, 0, none⟩) (len + n) newCap)
      { w with drawn := w.drawn + 1, heap := w.heap.push (.cells (old' ++ new' ++ Builtin.zeroCells z'.cells (newCap - (len + n))) el) } := by
  refine ⟨(Question.appendCap (len + n) c el).cut (w.tape w.drawn (.appendCap (len + n) c el)), Nat.le_add_right _ _, ?_⟩
  generalize hcap : (Question.appendCap (len + n) c el).cut (w.tape w.drawn (.appendCap (len + n) c el)) = newCap
  have hch : (choose (.appendCap (len + n) c el)).run P w = .ok newCap { w with drawn := w.drawn + 1 } := by
    rw [run_choose, hcap]; rfl
  have hs1 : ¬ (((len + n : Nat) : Int) > IntKind.i64.max ∧ (False ∨ i.bytes = 0)) := by rw [hib]; simp [hb0]
  have hs2 : ¬ (Builtin.nextslicecap (len + n) c * i.bytes > 2 ^ 48) := by
    rw [hib]
    have h1 : Builtin.nextslicecap (len + n) c ≤ 2 * (len + n) := nextcap_le (by omega)
    have h2 : Builtin.nextslicecap (len + n) c * by_ ≤ 2 * (len + n) * by_ := Nat.mul_le_mul_right _ h1
    rw [Nat.mul_assoc] at h2
    omega
  have hnew' := hnew { w with drawn := w.drawn + 1 } rfl
  have hold' := hold { w with drawn := w.drawn + 1 } rfl
  have hzv' := hzv { w with drawn := w.drawn + 1 }
  have hch' : ∀ f : Nat → Sem Value, (choose (.appendCap (len + n) c el) >>= f).run P w = (f newCap).run P { w with drawn := w.drawn + 1 } := fun f => by rw [Sem.run_bind, hch]; rfl
  unfold Builtin.append_
  simp only [ha, hb, List.getElem?_toArray, List.getElem?_cons_zero, List.getElem?_cons_succ]
  simp only [Sem.run_bind, run_underlying hu, Result.andThen_ok, run_sizeOf hk]
  cases xt with
  | none =>
    simp only [Result.andThen_ok, Bool.false_eq_true, if_false, hn, Bool.not_false, if_true, hfit, Sem.run_bind, run_typeInfo hi, Sem.run_pure]
    rw [if_neg hs1]
    simp only [Sem.run_bind, run_typeInfo hi, Result.andThen_ok, hs2, if_false, Sem.run_pure]
    rw [hch]
    simp only [Result.andThen_ok, run_typeInfo hi, run_askRoom, hold', hnew', hzv', newRow, Sem.run_bind, run_newObj, Sem.run_pure]
  | some t =>
    obtain ⟨d, h1, h2⟩ := hz t rfl
    have hd : (match d with | .int _ => true | _ => false) = false := by cases d <;> first | rfl | exact absurd rfl (h2 _)
    simp only [Sem.run_bind, run_underlying h1, Result.andThen_ok, Sem.run_pure, hd]
    simp only [Result.andThen_ok, Bool.false_eq_true, if_false, hn, Bool.not_false, if_true, hfit, Sem.run_bind, run_typeInfo hi, Sem.run_pure]
    rw [if_neg hs1]
    simp only [Sem.run_bind, run_typeInfo hi, Result.andThen_ok, hs2, if_false, Sem.run_pure]
    rw [hch]
    simp only [Result.andThen_ok, run_typeInfo hi, run_askRoom, hold', hnew', hzv', newRow, Sem.run_bind, run_newObj, Sem.run_pure]

/-- append of zeros ('append(s, make([]T, n)...)'), where they fit. -/
theorem append_in_z {st t1 : TypeId} {el : TypeId} {k n len c : Nat} {q q1 : IntKind} {base : Option Addr} {new' : Array Value} {ats : Array TypeId} {ty : TypeId} {w' : World} {i : TypeInfo}
    (ha : ats[0]? = some st) (hb : ats[1]? = some t1) (hz : P.underlying t1 = some (.int q1)) (hu : P.underlying st = some (.slice el)) (hk : szOf P el = some k) (hi : P.info? el = some i) (hn : n ≤ 1048576) (hn2 : n * i.bytes ≤ 1099511627776)
    (hnew : (if n * k = 0 then pure #[] else do pure (Builtin.zeroCells (← zeroValue el).cells n) : Sem (Array Value)).run P w = .ok new' w) (hfit : len + n ≤ c)
    (hst : Puts P base (len * k) new'.toList w w') :
    (Builtin.append_ ats ty #[.slice base len c, .int q (n : Int)]).run P w = .ok (.slice base (len + n) c) w' := by
  have hw := wrap_nat hn
  have h1 : ¬ ((n : Int) < 0) := by omega
  have h2 : ¬ ((n : Int) * (i.bytes : Int) > 2 ^ 48) := by
    have e : ((n : Int) * (i.bytes : Int)) = ((n * i.bytes : Nat) : Int) := by rw [Int.natCast_mul]
    rw [e]; omega
  unfold Builtin.append_
  simp only [ha, hb, List.getElem?_toArray, List.getElem?_cons_zero, List.getElem?_cons_succ]
  simp only [Sem.run_bind, run_underlying hu, Result.andThen_ok, run_sizeOf hk, run_underlying hz, Sem.run_pure]
  simp only [if_true, Sem.run_bind, asInt, asIntOf, Sem.run_pure, Result.andThen_ok, hw, h1, if_false, run_typeInfo hi, h2, Int.toNat_natCast, hfit, Bool.not_true, Bool.false_eq_true]
  by_cases h0 : n * k = 0
  · simp only [h0, if_true, Sem.run_pure, Result.ok.injEq, and_true] at hnew
    subst hnew
    simp only [h0, if_true, Sem.run_pure, Sem.run_bind, Result.andThen_ok]
    cases base with
    | none => simp only [Puts] at hst; subst hst; rfl
    | some a => simp only [Puts] at hst; simp only [Sem.run_bind, hst, Result.andThen_ok, Sem.run_pure]
  · simp only [h0, if_false, Sem.run_bind] at hnew ⊢
    cases hzv : (zeroValue el).run P w with
    | halt x y => rw [hzv] at hnew; cases hnew
    | ok z wz =>
      rw [hzv] at hnew
      simp only [Result.andThen_ok, Sem.run_pure, Result.ok.injEq] at hnew ⊢
      obtain ⟨hn', hwz⟩ := hnew
      subst hn'; subst hwz
      cases base with
      | none => simp only [Puts] at hst; subst hst; rfl
      | some a => simp only [Puts] at hst; simp only [Sem.run_bind, hst, Result.andThen_ok, Sem.run_pure]
/-- append of zeros, where a new row is made. -/
theorem append_new_z {st t1 : TypeId} {el : TypeId} {k n len c by_ : Nat} {q q1 : IntKind} {base : Option Addr} {new' old' : Array Value} {ats : Array TypeId} {ty : TypeId} {i : TypeInfo} {z' : Value}
    (ha : ats[0]? = some st) (hb : ats[1]? = some t1) (hz : P.underlying t1 = some (.int q1)) (hu : P.underlying st = some (.slice el)) (hk : szOf P el = some k) (hn : n ≤ 1048576)
    (hnew : (if n * k = 0 then #[] else Builtin.zeroCells z'.cells n) = new') (hfit : ¬ (len + n ≤ c))
    (hold : ∀ w' : World, w'.heap = w.heap → (Builtin.firstCells k len (.slice base len c)).run P w' = .ok old' w')
    (hi : P.info? el = some i) (hib : i.bytes = by_) (hb0 : by_ ≠ 0) (hroom : (len + n) * by_ ≤ 1099511627776) (hzv : ∀ w', (zeroValue el).run P w' = .ok z' w') :
    ∃ newCap, len + n ≤ newCap ∧ (Builtin.append_ ats ty #[.slice base len c, .int q (n : Int)]).run P w = .ok (.slice (some ⟨w.heap.size, 0, none⟩) (len + n) newCap)
      { w with drawn := w.drawn + 1, heap := w.heap.push (.cells (old' ++ new' ++ Builtin.zeroCells z'.cells (newCap - (len + n))) el) } := by
  refine ⟨(Question.appendCap (len + n) c el).cut (w.tape w.drawn (.appendCap (len + n) c el)), Nat.le_add_right _ _, ?_⟩
  generalize hcap : (Question.appendCap (len + n) c el).cut (w.tape w.drawn (.appendCap (len + n) c el)) = newCap
  have hch : (choose (.appendCap (len + n) c el)).run P w = .ok newCap { w with drawn := w.drawn + 1 } := by
    rw [run_choose, hcap]; rfl
  have hw := wrap_nat hn
  have h1 : ¬ ((n : Int) < 0) := by omega
  have hroom2 : n * by_ ≤ 1099511627776 := Nat.le_trans (Nat.mul_le_mul_right _ (by omega)) hroom
  have h2 : ¬ ((n : Int) * (i.bytes : Int) > 2 ^ 48) := by
    have e : ((n : Int) * (i.bytes : Int)) = ((n * i.bytes : Nat) : Int) := by rw [Int.natCast_mul]
    rw [e, hib]; omega
  have hs1 : ¬ (((len + n : Nat) : Int) > IntKind.i64.max ∧ (True ∨ i.bytes = 0)) := by
    rintro ⟨hgt, _⟩
    have h3 : len + n ≤ (len + n) * by_ := Nat.le_mul_of_pos_right _ (by omega)
    simp [IntKind.max, IntKind.bits, IntKind.signed] at hgt
    omega
  have hs2 : ¬ (Builtin.nextslicecap (len + n) c * i.bytes > 2 ^ 48) := by
    rw [hib]
    have h1 : Builtin.nextslicecap (len + n) c ≤ 2 * (len + n) := nextcap_le (by omega)
    have h2 : Builtin.nextslicecap (len + n) c * by_ ≤ 2 * (len + n) * by_ := Nat.mul_le_mul_right _ h1
    rw [Nat.mul_assoc] at h2
    omega
  have hold' := hold { w with drawn := w.drawn + 1 } rfl
  have hzv' := hzv { w with drawn := w.drawn + 1 }
  unfold Builtin.append_
  simp only [ha, hb, List.getElem?_toArray, List.getElem?_cons_zero, List.getElem?_cons_succ]
  simp only [Sem.run_bind, run_underlying hu, Result.andThen_ok, run_sizeOf hk, run_underlying hz, Sem.run_pure]
  simp only [if_true, Sem.run_bind, asInt, asIntOf, Sem.run_pure, Result.andThen_ok, hw, h1, if_false, run_typeInfo hi, h2, Int.toNat_natCast, hfit, Bool.not_true, Bool.false_eq_true]
  rw [if_neg hs1]
  simp only [Sem.run_bind, run_typeInfo hi, Result.andThen_ok, hs2, if_false, Sem.run_pure]
  rw [hch]
  simp only [Result.andThen_ok, run_typeInfo hi, run_askRoom, hold', hzv', newRow, Sem.run_bind, run_newObj, Sem.run_pure]
  by_cases h0 : n * k = 0
  · simp only [h0, if_true] at hnew ⊢
    subst hnew
    simp only [Sem.run_pure, Result.andThen_ok, Sem.run_bind, hzv', run_newObj]
  · simp only [h0, if_false] at hnew ⊢
    subst hnew
    simp only [Sem.run_pure, Result.andThen_ok, Sem.run_bind, hzv', run_newObj]

theorem zeros_spec {xt : Option TypeId} (e : zerosA P xt = some false) : ∀ t, xt = some t → ∃ d, P.underlying t = some d ∧ (∀ q, d ≠ .int q) := by
  intro t ht
  subst ht
  replace e := bnd_some.1 (show (P.underlying t).bind _ = some false from e); obtain ⟨d, h1, h2⟩ := e
  refine ⟨d, h1, fun q hq => ?_⟩
  subst hq
  cases h2
theorem zeros_true {xt : Option TypeId} (e : zerosA P xt = some true) : ∃ t q, xt = some t ∧ P.underlying t = some (.int q) := by
  cases xt with
  | none => cases e
  | some t =>
    replace e := bnd_some.1 (show (P.underlying t).bind _ = some true from e); obtain ⟨d, h1, h2⟩ := e
    cases d <;> first | exact ⟨t, _, rfl, h1⟩ | cases h2
theorem zeroCells_size (z : Array Value) (n : Nat) : (Builtin.zeroCells z n).size = n * z.size := by simp [Builtin.zeroCells]
theorem first_heap (R : HRel NG N0 w0 m h w) {k n : Nat} {x : V} {x' : Value} {cs : List V} (e : firstA k n x h = some cs) (hx : VRel m x x') :
    ∃ cs', (∀ w' : World, w'.heap = w.heap → (Builtin.firstCells k n x').run P w' = .ok cs' w') ∧ VsRel m cs cs'.toList := by
  obtain ⟨cs', h1, h2⟩ := first_ok (P := P) R e hx
  refine ⟨cs', fun w' hw => ?_, h2⟩
  -- the same cells in a world of the same memory
  unfold firstA at e
  cases x with
  | nilsl => cases hx; simp [Builtin.firstCells] at h1 ⊢; exact h1
  | str b => obtain rfl := str_inv hx; simp [Builtin.firstCells] at h1 ⊢; exact h1
  | sl id off len cap =>
    obtain ⟨L, c, hm, rfl, _⟩ := sl_inv hx
    replace e := bnd_some.1 (show (rowOf h id).bind _ = some _ from e); obtain ⟨r, hr, e⟩ := e
    replace e := grd_some.1 e; obtain ⟨hl, e⟩ := e
    obtain ⟨_, _, cc, fz, RR⟩ := row_of R hr hm
    have RR' : RowRel m w' L r cc fz := { RR with at_ := by rw [hw]; exact RR.at_ }
    have a1 := run_loadCells_list (P := P) w ⟨L.b, L.d + off, none⟩ (List.take (n * k) (List.drop (L.d + off) cc.toList)) (fun j v hj => by
      rw [addr_add, Nat.add_assoc, RR.cellAt]
      have hj' : j < n * k := by have := (List.getElem?_eq_some_iff.1 hj).1; simp at this; omega
      rw [List.getElem?_take, if_pos hj', List.getElem?_drop] at hj
      rw [List.getElem?_drop]; rw [← hj]; congr 1; omega)
    have a2 := run_loadCells_list (P := P) w' ⟨L.b, L.d + off, none⟩ (List.take (n * k) (List.drop (L.d + off) cc.toList)) (fun j v hj => by
      rw [addr_add, Nat.add_assoc, RR'.cellAt]
      have hj' : j < n * k := by have := (List.getElem?_eq_some_iff.1 hj).1; simp at this; omega
      rw [List.getElem?_take, if_pos hj', List.getElem?_drop] at hj
      rw [List.getElem?_drop]; rw [← hj]; congr 1; omega)
    have hlen : (List.take (n * k) (List.drop (L.d + off) cc.toList)).length = n * k := by
      have := RR.fits; have := RR.ends; have := Nat.le_of_ble_eq_true hl
      simp; omega
    rw [hlen] at a1 a2
    simp only [Builtin.firstCells] at h1 ⊢
    rw [a1] at h1
    injection h1 with h1
    rw [a2, h1]
  | _ => simp at e
end
end Go.Proofs.YtkhgfdlinobabaaGreatDoor.AM

/- The smaller machine's operations do what the program's do: append and copy, whole. -/
namespace Go.Proofs.YtkhgfdlinobabaaGreatDoor.AM
open Go.RowKit (Below)

section
variable {P : Program} {NG N0 : Nat} {w0 : World} {m : Mu} {h : H} {w : World} {nid : Nat}

theorem take_app {α : Type} (l k : List α) (n : Nat) (h : n = l.length) : (l ++ k).take n = l := by subst h; simp
theorem mid_take {α : Type} (c : List α) (d off q n : Nat) (h : off + q ≤ n) : (((c.drop d).take n).drop off).take q = (c.drop (d + off)).take q := by
  rw [List.drop_take, List.take_take, List.drop_drop, Nat.min_eq_left (by omega)]
theorem VsRel.appendL {vs ws : List V} {c : Array Value} (hv : VsRel m vs c.toList) (z : Array Value) : VsRel m vs ((c ++ z).toList.take vs.length) := by
  have := hv.length
  rw [Array.toList_append, List.take_append_of_le_length (by omega), List.take_of_length_le (by omega)]
  exact hv
theorem push_world (R : HRel NG N0 w0 m h w) (hf : m nid = none) (hn : nid < h.next) {el : TypeId} {k need cap frz : Nat} {cs : List V} {old new z : Array Value} (hv : VsRel m cs (old ++ new).toList) (hl : cs.length = need * k) (hc : need ≤ cap) (hz : z.size = (cap - need) * k) :
    ∃ m' , Ext m m' nid ∧ Good NG N0 w0 m h w m' (h.set nid (some (.row ⟨cs, el, k, frz, false, false, false⟩))) { w with drawn := w.drawn + 1, heap := w.heap.push (.cells (old ++ new ++ z) el) } ∧
      VRel m' (.sl nid 0 need none) (.slice (some ⟨w.heap.size, 0, none⟩) need cap) := by
  have hlen := hv.length
  have hsum : (old ++ new ++ z).size = cap * k := by
    have e : (old ++ new).size = need * k := by simp only [Array.length_toList] at hlen; omega
    rw [Array.size_append, e, hz, ← Nat.add_mul]; congr 1; omega
  obtain ⟨h1, h2⟩ := new_row R hf hn (t := el) (sz := k) (st := false) (ex := false) (frz := frz) (fz := (0, 0)) (cap * k) (c := old ++ new ++ z) (vs := cs) (VsRel.appendL (ws := []) hv z) (by rw [hl]; exact Nat.mul_le_mul_right _ hc) (by rw [hsum]; exact Nat.le_refl _)
    (w1 := { w with drawn := w.drawn + 1 }) rfl rfl rfl rfl (w' := { w with drawn := w.drawn + 1, heap := w.heap.push (.cells (old ++ new ++ z) el) }) rfl rfl rfl rfl (.inl ⟨rfl, .inl rfl⟩) (fun h => by cases h)
  exact ⟨_, h1, h2, VRel.slo nid 0 need cap ⟨w.heap.size, 0, cap * k, k⟩ (Mu.upd_at _ _ _) (by simp) hc⟩

theorem append_ok (R : HRel NG N0 w0 m h w) (hf : m nid = none) (hn' : nid < h.next) {st : TypeId} {xt : Option TypeId} {s x v : V} {s' x' : Value} {h' : H} {ats : Array TypeId} {ty : TypeId} (ha : ats[0]? = some st) (hb : ats[1]? = xt)
    (e : appendA P st xt s x nid h = some (v, h')) (hs : VRel m s s') (hx : VRel m x x') : Yld P NG N0 w0 m h w nid (Builtin.append_ ats ty #[s', x']) v h' := by
  replace e := bnd_some.1 e; obtain ⟨zeros, hzeros, e⟩ := e
  replace e := bnd_some.1 e; obtain ⟨d, hu, e⟩ := e
  split at e
  case h_2 => cases e
  case h_1 el =>
    replace e := bnd_some.1 e; obtain ⟨k, hk, e⟩ := e
    replace e := bnd_some.1 e; obtain ⟨by_, hby, e⟩ := e
    replace e := bnd_some.1 e; obtain ⟨z, hzv, e⟩ := e
    replace e := bnd_some.1 e; obtain ⟨⟨n, new⟩, hnew, e⟩ := e
    replace e := grd_some.1 e; obtain ⟨hg, e⟩ := e
    dsimp only at hg e
    simp only [Bool.and_eq_true, Bool.not_eq_true'] at hg
    obtain ⟨⟨⟨⟨⟨g1, g2⟩, g3⟩, g4⟩, g5⟩, g6⟩ := hg
    have g6 := Nat.le_of_ble_eq_true g6
    have g2 : k ≠ 0 := by intro h0; subst h0; cases g2
    have g3 : by_ ≠ 0 := by intro h0; subst h0; cases g3
    have g4 := Nat.eq_of_beq_eq_true g4
    have g5 := Nat.eq_of_beq_eq_true g5
    obtain ⟨i, hi, hib⟩ := info_of_bytes hby
    have hzv' : ∃ z', (∀ w', (zeroValue el).run P w' = .ok z' w') ∧ z'.cells.size = k ∧ VRel m z z' := by
      obtain ⟨z1, h1, h2⟩ := run_zeroValue hzv w
      refine ⟨z1, fun w' => ?_, ?_, h2 m⟩
      · unfold zeroOf at hzv
        replace hzv := bnd_some.1 hzv; obtain ⟨i', e1, hzv⟩ := hzv
        replace hzv := bnd_some.1 hzv; obtain ⟨zz, e2, hzv⟩ := hzv
        have q : ∀ w, (zeroValue el).run P w = .ok zz w := fun w => by simp [zeroValue, run_typeInfo e1, e2]
        rw [q w] at h1
        injection h1 with h1
        rw [q w', h1]
      · have := (h2 m).cells.length; simp at this; omega
    obtain ⟨z', hz1, hz2, hz3⟩ := hzv'
    have spec : ∃ new' : Array Value, VsRel m new new'.toList ∧
        (∀ {len c : Nat} {base : Option Addr} {w' : World}, len + n ≤ c → n * by_ ≤ 1099511627776 → Puts P base (len * k) new'.toList w w' →
          (Builtin.append_ ats ty #[.slice base len c, x']).run P w = .ok (.slice base (len + n) c) w') ∧
        (∀ {len c : Nat} {base : Option Addr} {old' : Array Value}, ¬ (len + n ≤ c) → (∀ w' : World, w'.heap = w.heap → (Builtin.firstCells k len (.slice base len c)).run P w' = .ok old' w') → (len + n) * by_ ≤ 1099511627776 →
          ∃ newCap, len + n ≤ newCap ∧ (Builtin.append_ ats ty #[.slice base len c, x']).run P w = .ok (.slice (some ⟨w.heap.size, 0, none⟩) (len + n) newCap)
            { w with drawn := w.drawn + 1, heap := w.heap.push (.cells (old' ++ new' ++ Builtin.zeroCells z'.cells (newCap - (len + n))) el) }) := by
      cases zeros with
      | false =>
        replace hnew := bnd_some.1 (show (lenA x).bind _ = some (n, new) from hnew); obtain ⟨n', hn, hnew⟩ := hnew
        replace hnew := bnd_some.1 hnew; obtain ⟨new1, hnw, hnew⟩ := hnew
        injection hnew with hnew; injection hnew with q1 q2; subst q1; subst q2
        have hz := zeros_spec hzeros
        have hlen := len_ok (P := P) (w := w) hn hx
        obtain ⟨new', hn1, hn2⟩ := first_heap (P := P) R hnw hx
        exact ⟨new', hn2, fun hle _ hst => append_in ha hb hz hu hk hlen (hn1 w rfl) hle hst, fun hle ho hr => append_new ha hb hz hu hk hlen hn1 hle ho hi hib g3 hr hz1⟩
      | true =>
        replace hnew := bnd_some.1 (show x.nat?.bind _ = some (n, new) from hnew); obtain ⟨⟨kq, n'⟩, hn, hnew⟩ := hnew
        replace hnew := grd_some.1 hnew; obtain ⟨hle1, hnew⟩ := hnew
        injection hnew with hnew; injection hnew with q1 q2; subst q1; subst q2
        obtain rfl := V.nat?_inv hn
        dsimp only at *
        obtain rfl := int_inv hx
        obtain ⟨t1, q1, rfl, hz⟩ := zeros_true hzeros
        have hle1 := Nat.le_of_ble_eq_true hle1
        refine ⟨if n' * k = 0 then #[] else Builtin.zeroCells z'.cells n', ?_, fun hle h2 hst => append_in_z ha hb hz hu hk hi hle1 (by rw [hib]; exact h2) ?_ hle hst, fun hle ho hr => append_new_z ha hb hz hu hk hle1 rfl hle ho hi hib g3 hr hz1⟩
        · by_cases h0 : n' * k = 0
          · have : n' = 0 := by rcases Nat.mul_eq_zero.1 h0 with h | h; exact h; exact absurd h g2
            subst this
            simp [rep]; exact .nil
          · simp only [h0, if_false]
            have := rep_ok (m := m) (z := z.cells) (z' := z'.cells) hz3.cells (by omega) n'
            unfold Builtin.zeroCells
            rw [hz2]; rw [hz2, g4] at this; exact this
        · by_cases h0 : n' * k = 0
          · simp [h0]
          · simp [h0, hz1]
    obtain ⟨new', hn2, IN, NEW⟩ := spec
    have hzs : ∀ q, (Builtin.zeroCells z'.cells q).size = q * k := fun q => by rw [zeroCells_size, hz2]
    cases s with
    | nilsl =>
      cases hs
      have e : appNilA el k by_ n new nid h = some (v, h') := e
      unfold appNilA at e
      by_cases h0 : n = 0
      · subst h0
        have e : some (V.nilsl, h) = some (v, h') := e
        injection e with e; injection e with e1 e2; subst e1; subst e2
        exact ⟨m, w, .slice none 0 0, Ext.refl m _, R.same, .nilsl, IN (by omega) g6 rfl⟩
      · rw [beqf h0] at e
        replace e := grd_some.1 (show grd _ _ = some (v, h') from e); obtain ⟨e0, e⟩ := e
        injection e with e; injection e with e1 e2; subst e1; subst e2
        obtain ⟨cap, hc, hrun⟩ := NEW (len := 0) (c := 0) (base := none) (by omega) (old' := #[]) (fun w' _ => by simp [Builtin.firstCells]) (by rw [Nat.zero_add]; exact Nat.le_of_ble_eq_true e0)
        obtain ⟨m', p1, p2, p3⟩ := push_world R hf hn' (el := el) (k := k) (need := n) (cap := cap) (cs := new) (old := #[]) (new := new') (z := Builtin.zeroCells z'.cells (cap - (0 + n))) (by simpa using hn2) g5 (by omega) (by rw [hzs, Nat.zero_add])
        exact ⟨m', _, _, p1, p2, p3, by rw [hrun, Nat.zero_add]⟩
    | sl id off len cap =>
      have e : appSlA el k by_ (.sl id off len cap) id off len cap n new nid h = some (v, h') := e
      obtain ⟨L, c, hm, rfl, hcap⟩ := sl_inv hs
      have hin : ∀ h1, putCells h id (off + len * k) new = some h1 → len + n ≤ c → ∃ w', Good NG N0 w0 m h w m h1 w' ∧ (Builtin.append_ ats ty #[.slice (some ⟨L.b, L.d + off, none⟩) len c, x']).run P w = .ok (.slice (some ⟨L.b, L.d + off, none⟩) (len + n) c) w' := by
        intro h1 hp hle
        obtain ⟨w', q1, q2⟩ := putCells_ok (P := P) R hp hn2 hm
        refine ⟨w', q2, IN hle g6 ?_⟩
        show (storeCells ((⟨L.b, L.d + off, none⟩ : Addr).add (len * k)) new'.toList).run P w = .ok () w'
        rw [addr_add, Nat.add_assoc]; exact q1
      have hgrow : ∀ old, firstA k len (.sl id off len cap) h = some old → old.length = len * k → (len + n) * by_ ≤ 1099511627776 → ¬ (len + n ≤ c) →
          ∃ old' : Array Value, VsRel m old old'.toList ∧ ∃ newCap, len + n ≤ newCap ∧ (Builtin.append_ ats ty #[.slice (some ⟨L.b, L.d + off, none⟩) len c, x']).run P w = .ok (.slice (some ⟨w.heap.size, 0, none⟩) (len + n) newCap)
            { w with drawn := w.drawn + 1, heap := w.heap.push (.cells (old' ++ new' ++ Builtin.zeroCells z'.cells (newCap - (len + n))) el) } := by
        intro old ho _ hr hle
        obtain ⟨old', q1, q2⟩ := first_heap (P := P) R ho hs
        exact ⟨old', q2, NEW hle q1 hr⟩
      have hfl : ∀ old, firstA k len (.sl id off len cap) h = some old → old.length = len * k := by
        intro old ho
        replace ho := bnd_some.1 (show (rowOf h id).bind _ = some _ from ho); obtain ⟨r, hr, ho⟩ := ho
        replace ho := grd_some.1 ho; obtain ⟨hl, ho⟩ := ho
        injection ho with ho; subst ho
        have := Nat.le_of_ble_eq_true hl
        simp; omega
      cases cap with
      | some c' =>
        dsimp only at hcap; subst hcap
        have e : cond (Nat.ble (len + n) c') (appInA k id off len n (some c') new h) (appGrowA el k by_ (.sl id off len (some c')) len n new nid h) = some (v, h') := e
        cases hb' : Nat.ble (len + n) c' with
        | true =>
          rw [hb'] at e
          have e : appInA k id off len n (some c') new h = some (v, h') := e
          replace e := bnd_some.1 e; obtain ⟨h1, hp, e⟩ := e
          injection e with e; injection e with e1 e2; subst e1; subst e2
          obtain ⟨w', q1, q2⟩ := hin h1 hp (Nat.le_of_ble_eq_true hb')
          exact ⟨m, w', _, Ext.refl m _, q1, .slc _ _ _ _ _ hm, q2⟩
        | false =>
          rw [hb'] at e
          have e : appGrowA el k by_ (.sl id off len (some c')) len n new nid h = some (v, h') := e
          replace e := grd_some.1 e; obtain ⟨e0, e⟩ := e
          replace e := bnd_some.1 e; obtain ⟨old, ho, e⟩ := e
          injection e with e; injection e with e1 e2; subst e1; subst e2
          obtain ⟨old', q2, cap, hc, hrun⟩ := hgrow old ho (hfl old ho) (Nat.le_of_ble_eq_true e0) (fun hle => by rw [Nat.ble_eq_true_of_le hle] at hb'; cases hb')
          have hol := hfl old ho
          obtain ⟨m', p1, p2, p3⟩ := push_world R hf hn' (el := el) (k := k) (need := len + n) (cap := cap) (cs := old ++ new) (old := old') (new := new') (z := Builtin.zeroCells z'.cells (cap - (len + n))) (by rw [Array.toList_append]; exact q2.append hn2) (by rw [List.length_append, hol, g5, Nat.add_mul]) hc (hzs _)
          exact ⟨m', _, _, p1, p2, p3, hrun⟩
      | none =>
        obtain ⟨hc1, hc2⟩ := hcap
        by_cases h0 : n = 0
        · subst h0
          have e : some (V.sl id off len none, h) = some (v, h') := e
          injection e with e; injection e with e1 e2; subst e1; subst e2
          have hn0 : new'.toList = [] := by have := hn2.length; rw [g5] at this; simpa using this
          refine ⟨m, w, .slice (some ⟨L.b, L.d + off, none⟩) len c, Ext.refl m _, R.same, .slo _ _ _ _ _ hm hc1 hc2, ?_⟩
          exact IN (len := len) (by omega) g6 (by rw [hn0]; rfl)
        · have e : cond (Nat.beq n 0) (some (V.sl id off len none, h)) ((rowOf h id).bind fun r => cond (Nat.ble (off + (len + n) * k) r.cs.length) (grd (Nat.beq r.sz k) (appInA k id off len n none new h)) (appMoveA el k by_ (.sl id off len none) id off len n r new nid h)) = some (v, h') := e
          rw [beqf h0] at e
          replace e := bnd_some.1 (show (rowOf h id).bind _ = some _ from e); obtain ⟨r, hr, e⟩ := e
          obtain ⟨hlt, hro, cc, fz, RR⟩ := row_of R hr hm
          cases hb' : Nat.ble (off + (len + n) * k) r.cs.length with
          | true =>
            rw [hb'] at e
            replace e := grd_some.1 (show grd (Nat.beq r.sz k) (appInA k id off len n none new h) = some (v, h') from e); obtain ⟨esz, e⟩ := e
            replace e := bnd_some.1 e; obtain ⟨h1, hp, e⟩ := e
            injection e with e; injection e with e1 e2; subst e1; subst e2
            have hle := Nat.le_of_ble_eq_true hb'
            have hsz : L.sz = k := by rw [RR.sz]; exact Nat.eq_of_beq_eq_true esz
            have hfit := RR.fits
            have hcle : len + n ≤ c := by
              rw [hsz] at hc1
              have : (len + n) * k ≤ c * k := by omega
              exact Nat.le_of_mul_le_mul_right this (by omega)
            obtain ⟨w', q1, q2⟩ := hin h1 hp hcle
            exact ⟨m, w', _, Ext.refl m _, q1, .slo _ _ _ _ _ hm hc1 hcle, q2⟩
          | false =>
            rw [hb'] at e
            have e : appMoveA el k by_ (.sl id off len none) id off len n r new nid h = some (v, h') := e
            replace e := grd_some.1 e; obtain ⟨eg, e⟩ := e
            replace e := bnd_some.1 e; obtain ⟨old, ho, e⟩ := e
            injection e with e; injection e with e1 e2; subst e1; subst e2
            simp only [Bool.and_eq_true, Bool.not_eq_true', Bool.or_eq_true] at eg
            obtain ⟨⟨⟨⟨⟨⟨k1, k2⟩, k3⟩, k4⟩, k5⟩, k6⟩, k7⟩ := eg
            have k3 := Nat.eq_of_beq_eq_true k3
            have k4 := Nat.eq_of_beq_eq_true k4
            have k5 : off = 0 ∨ r.frz = 0 := k5.imp Nat.eq_of_beq_eq_true Nat.eq_of_beq_eq_true
            have k6 := Nat.le_of_ble_eq_true k6
            have k7 := Nat.le_of_ble_eq_true k7
            have hol := hfl old ho
            have hsz : L.sz = k := by rw [RR.sz]; exact k3
            by_cases hle : len + n ≤ c
            · -- in place: the block goes on as another object
              have hfit := RR.fits
              have hend := RR.ends
              have hreach : L.d + (off + len * k) + new.length ≤ L.e := by
                rw [g5, ← hc1, hsz]
                have : (len + n) * k ≤ c * k := Nat.mul_le_mul_right _ hle
                rw [Nat.add_mul] at this
                omega
              obtain ⟨w', c', e1, e2, e3, e4, e5⟩ := RR.stores (P := P) (off + len * k) hn2 g1 k6 hreach
              have hN0 := hro k1
              have RK := R.kill id
              have hnl := hn2.length
              have hlr : off + len * k ≤ r.cs.length := by
                replace ho := bnd_some.1 (show (rowOf h id).bind _ = some _ from ho); obtain ⟨r', hr', ho⟩ := ho
                rw [hr] at hr'; injection hr' with hr'; subst hr'
                replace ho := grd_some.1 ho; obtain ⟨hl, ho⟩ := ho
                exact Nat.le_of_ble_eq_true hl
              have hoe : old = (r.cs.drop off).take (len * k) := by
                replace ho := bnd_some.1 (show (rowOf h id).bind _ = some _ from ho); obtain ⟨r', hr', ho⟩ := ho
                rw [hr] at hr'; injection hr' with hr'; subst hr'
                replace ho := grd_some.1 ho; obtain ⟨hl, ho⟩ := ho
                injection ho with ho; exact ho.symm
              have hvals : VsRel m (old ++ new) ((c'.toList.drop (L.d + off)).take (old ++ new).length) := by
                have : (c'.toList.drop (L.d + off)).take (old ++ new).length = (((cc.toList.drop L.d).take r.cs.length).drop off).take (len * k) ++ new'.toList := by
                  rw [e4, List.length_append, hol]
                  have hlt' : L.d + off ≤ (cc.toList.take (L.d + (off + len * k))).length := by simp; omega
                  rw [List.drop_append_of_le_length hlt', List.drop_take]
                  have hsz' : ((cc.toList.drop (L.d + off)).take (L.d + (off + len * k) - (L.d + off))).length = len * k := by simp; omega
                  have hq : L.d + (off + len * k) - (L.d + off) = len * k := by omega
                  rw [mid_take _ _ _ _ _ hlr, List.take_append, hsz', List.take_of_length_le (by rw [hsz']; omega), take_app _ _ _ (by omega), hq]
                rw [this, hoe]
                exact ((RR.vals.drop off).take (len * k)).append hn2
              obtain ⟨p1, p2⟩ := RK.put0 hf hn' (o := .row ⟨old ++ new, el, k, r.frz, false, false, false⟩) (L := ⟨L.b, L.d + off, L.e, L.sz⟩) (w' := w') (e2.below hN0) hN0 (by rw [e2.size]; exact hlt) (fun j oj Lj hj ej => by
                  have hjid : j ≠ id := by
                    intro hji; subst hji
                    have := T.put_get_same _ _ _ _ hj; cases this
                  have hj' : h.get j = some oj := by rw [← hj]; exact (T.put_get_other _ _ _ _ (Ne.symm hjid)).symm
                  have hne : Lj.b ≠ L.b := fun hb => hjid (R.inj j id oj _ Lj L hj' (rowOf_some hr) ej hm hb)
                  exact ⟨hne, e2.rest _ hne⟩)
                ⟨c', fz, { at_ := by rw [← k4]; exact e3, sz := hsz, fits := by
                              show L.d + off + (old ++ new).length ≤ L.e
                              rw [List.length_append, hol]; omega
                           ends := by rw [e5]; exact hend
                           vals := hvals.mono (Mu.le_upd hf)
                           frz := by
                              rw [e5]
                              rcases RR.frz with ⟨a1, a3 | ⟨q, a2, a3⟩⟩ | ⟨a1, a2, a3⟩
                              · exact .inl ⟨rfl, .inl a3⟩
                              · refine .inl ⟨rfl, ?_⟩
                                rcases k5 with h | h
                                · subst h; exact .inr ⟨q, a2, a3⟩
                                · rw [h] at a2
                                  have : q = 0 := by omega
                                  subst this; subst a3; exact .inl rfl
                              · rw [k2] at a1; cases a1
                           ex := fun h => by cases h }⟩
              have pf : Good NG N0 w0 m h w (m.upd nid ⟨L.b, L.d + off, L.e, L.sz⟩) ((h.set id none).set nid (some (.row ⟨old ++ new, el, k, r.frz, false, false, false⟩))) w' :=
                ⟨p2, fun b hb hn => by
                  have hLb : L.b ≠ b := hn id _ L (rowOf_some hr) hm
                  refine ⟨e2.rest b (Ne.symm hLb), fun j oj Lj hj ej => ?_⟩
                  by_cases hjn : j = nid
                  · subst hjn
                    rw [Mu.upd_at] at ej
                    injection ej with ej; subst ej
                    exact hLb
                  · rw [Mu.upd_ne _ _ hjn] at ej
                    have hj' : (h.set id none).get j = some oj := by rw [← hj]; exact (T.put_get_other _ _ _ _ (Ne.symm hjn)).symm
                    have hjid : j ≠ id := by
                      intro hji; subst hji
                      have := T.put_get_same _ _ _ _ hj'; cases this
                    exact hn j oj Lj (by rw [← hj']; exact (T.put_get_other _ _ _ _ (Ne.symm hjid)).symm) ej, by rw [e2.size]; exact Nat.le_refl _⟩
              refine ⟨_, w', .slice (some ⟨L.b, L.d + off, none⟩) (len + n) c, p1, pf, ?_, ?_⟩
              · exact VRel.slo nid 0 (len + n) c ⟨L.b, L.d + off, L.e, L.sz⟩ (Mu.upd_at _ _ _) (by show L.d + off + 0 + c * L.sz = L.e; omega) hle
              · refine IN hle g6 ?_
                show (storeCells ((⟨L.b, L.d + off, none⟩ : Addr).add (len * k)) new'.toList).run P w = .ok () w'
                rw [addr_add, Nat.add_assoc]; exact e1
            · obtain ⟨old', q2, cap, hc, hrun⟩ := hgrow old ho hol k7 hle
              obtain ⟨m', p1, p2, p3⟩ := push_world (R.kill id) hf hn' (frz := r.frz) (el := el) (k := k) (need := len + n) (cap := cap) (cs := old ++ new) (old := old') (new := new') (z := Builtin.zeroCells z'.cells (cap - (len + n))) (by rw [Array.toList_append]; exact q2.append hn2) (by rw [List.length_append, hol, g5, Nat.add_mul]) hc (hzs _)
              exact ⟨m', _, _, p1, (R.killed id).trans p2, p3, hrun⟩
    | _ => simp at e
end
end Go.Proofs.YtkhgfdlinobabaaGreatDoor.AM
