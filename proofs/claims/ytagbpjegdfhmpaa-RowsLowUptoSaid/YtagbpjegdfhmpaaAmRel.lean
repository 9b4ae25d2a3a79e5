/- How a state of the smaller machine stands to a world, and what keeps it so. -/
import Derived.Test.YtagbpjegdfhmpaaAmOps
import Derived.Laws.IdiomCopy
import Derived.Laws.Rows
import Derived.Below
set_option linter.unusedSimpArgs false
set_option linter.unusedVariables false
namespace Go.Proofs.Ytagbpjegdfhmpaa.AM
open Go.RowKit (Below)

def FrzOk (r : Row) (d : Nat) (fz : Nat × Nat) (size : Nat) : Prop :=
  (r.st = false ∧ (fz.1 = fz.2 ∨ ∃ q, q ≤ r.frz ∧ fz = (d, d + q))) ∨ (r.st = true ∧ r.frz = 0 ∧ size ≤ fz.1)
theorem FrzOk.free {r : Row} {d : Nat} {fz : Nat × Nat} {size j : Nat} (h : FrzOk r d fz size) (hj : d + r.frz ≤ j) (hs : j < size) : (fz.1 ≤ j && j < fz.2) = false := by
  rcases h with ⟨_, h2 | ⟨q, h1, rfl⟩⟩ | ⟨_, h1, h2⟩ <;> simp <;> omega

structure RowRel (m : Mu) (w : World) (L : Loc) (r : Row) (c : Array Value) (fz : Nat × Nat) : Prop where
  at_ : w.heap[L.b]? = some (.cells c r.elem fz)
  sz : L.sz = r.sz
  fits : L.d + r.cs.length ≤ L.e
  ends : L.e ≤ c.size
  vals : VsRel m r.cs ((c.toList.drop L.d).take r.cs.length)
  frz : FrzOk r L.d fz c.size
  ex : r.ex = true → L.d = 0 ∧ c.size = r.cs.length

inductive EsRel (m : Mu) : List (V × V × Nat) → List MapEntry → Prop where
  | nil : EsRel m [] []
  | cons (k v : V) (n : Nat) (k' v' : Value) (es : List (V × V × Nat)) (es' : List MapEntry) : VRel m k k' → VRel m v v' → EsRel m es es' → EsRel m ((k, v, n) :: es) (⟨k', v', n⟩ :: es')
theorem EsRel.mono {m m' : Mu} (h : m.le m') {es : List (V × V × Nat)} {es' : List MapEntry} (k : EsRel m es es') : EsRel m' es es' := by
  induction k with
  | nil => exact .nil
  | cons k v n k' v' es es' hk hv _ ih => exact .cons _ _ _ _ _ _ _ (hk.mono h) (hv.mono h) ih

def O.ro : O → Bool
  | .row r => r.ro
  | _ => false
def ORel (m : Mu) (w : World) (L : Loc) : O → Prop
  | .row r => ∃ c fz, RowRel m w L r c fz
  | .map es clock => ∃ es' : Array MapEntry, w.heap[L.b]? = some (.map es' clock) ∧ EsRel m es es'.toList
  | .siter s pos => w.heap[L.b]? = some (.stringIter ⟨s.toArray⟩ pos)
  | .miter mp since seen last => ∃ mp' : Option Nat, w.heap[L.b]? = some (.mapIter mp' since seen.toArray last) ∧
      (match mp with | none => mp' = none | some id => ∃ L', m id = some L' ∧ mp' = some L'.b)
theorem ORel.mono {m m' : Mu} (h : m.le m') {w : World} {L : Loc} {o : O} (k : ORel m w L o) : ORel m' w L o := by
  cases o with
  | row r => obtain ⟨c, fz, k⟩ := k; exact ⟨c, fz, { k with vals := k.vals.mono h }⟩
  | map es clock => obtain ⟨es', h1, h2⟩ := k; exact ⟨es', h1, h2.mono h⟩
  | siter s pos => exact k
  | miter mp since seen last =>
    obtain ⟨mp', h1, h2⟩ := k
    refine ⟨mp', h1, ?_⟩
    cases mp with
    | none => exact h2
    | some id => obtain ⟨L', e, e'⟩ := h2; exact ⟨L', h _ _ e, e'⟩
theorem ORel.heap {m : Mu} {w w' : World} {L : Loc} {o : O} (k : ORel m w L o) (h : w'.heap[L.b]? = w.heap[L.b]?) : ORel m w' L o := by
  cases o with
  | row r => obtain ⟨c, fz, k⟩ := k; exact ⟨c, fz, { k with at_ := h ▸ k.at_ }⟩
  | map es clock => obtain ⟨es', h1, h2⟩ := k; exact ⟨es', h ▸ h1, h2⟩
  | siter s pos => exact (show w'.heap[L.b]? = _ from h ▸ k)
  | miter mp since seen last => obtain ⟨mp', h1, h2⟩ := k; exact ⟨mp', h ▸ h1, h2⟩

/-- NG: so many package variables lie at the begin of memory. N0: below this block nothing is written. w0: the world at the begin. -/
structure HRel (NG N0 : Nat) (w0 : World) (m : Mu) (h : H) (w : World) : Prop where
  below : Below N0 w0 w
  n0 : N0 ≤ w.heap.size
  dom : ∀ id, h.next ≤ id → m id = none
  objs : ∀ id o, h.get id = some o → ∃ L, m id = some L ∧ L.b < w.heap.size ∧ (o.ro = false → N0 ≤ L.b) ∧ ORel m w L o
  inj : ∀ i j oi oj Li Lj, h.get i = some oi → h.get j = some oj → m i = some Li → m j = some Lj → Li.b = Lj.b → i = j
  glob : ∀ g, g < NG → ∃ L, m g = some L ∧ L.b = g ∧ L.d = 0

/-- w' is w but for the block b (and for the count of draws). -/
structure Same1 (b : Nat) (w w' : World) : Prop where
  os : w'.os = w.os
  tape : w'.tape = w.tape
  output : w'.output = w.output
  size : w'.heap.size = w.heap.size
  rest : ∀ k, k ≠ b → w'.heap[k]? = w.heap[k]?
theorem Same1.below {b N0 : Nat} {w w' : World} (h : Same1 b w w') (hb : N0 ≤ b) : Below N0 w w' :=
  ⟨h.os, h.tape, h.output, by rw [h.size]; exact Nat.le_refl _, fun k hk => h.rest k (by omega)⟩

section
variable {NG N0 : Nat} {w0 : World} {m : Mu} {h : H} {w : World}
theorem HRel.loc (R : HRel NG N0 w0 m h w) {id : Nat} {o : O} (hg : h.get id = some o) : ∃ L, m id = some L ∧ L.b < w.heap.size ∧ (o.ro = false → N0 ≤ L.b) ∧ ORel m w L o := R.objs id o hg
/-- The same memory: only draws lie between. -/
theorem HRel.drawn (R : HRel NG N0 w0 m h w) {w' : World} (hh : w'.heap = w.heap) (h1 : w'.os = w.os) (h2 : w'.tape = w.tape) (h3 : w'.output = w.output) : HRel NG N0 w0 m h w' where
  below := R.below.trans ⟨h1, h2, h3, by rw [hh]; exact Nat.le_refl _, fun k _ => by rw [hh]⟩
  n0 := by rw [hh]; exact R.n0
  dom := R.dom
  objs := fun id o hg => by obtain ⟨L, e1, e2, e3, e4⟩ := R.objs id o hg; exact ⟨L, e1, by rw [hh]; exact e2, e3, e4.heap (by rw [hh])⟩
  inj := R.inj
  glob := R.glob
/-- What stands in a block that no object had stays there, and no object takes that block. -/
def Frm (m : Mu) (h : H) (w : World) (m' : Mu) (h' : H) (w' : World) : Prop :=
  ∀ b, b < w.heap.size → (∀ id o L, h.get id = some o → m id = some L → L.b ≠ b) → w'.heap[b]? = w.heap[b]? ∧ (∀ id o L, h'.get id = some o → m' id = some L → L.b ≠ b)
theorem Frm.refl (m : Mu) (h : H) (w : World) : Frm m h w m h w := fun _ _ hb => ⟨rfl, hb⟩
structure Good (NG N0 : Nat) (w0 : World) (m : Mu) (h : H) (w : World) (m' : Mu) (h' : H) (w' : World) : Prop where
  rel : HRel NG N0 w0 m' h' w'
  frm : Frm m h w m' h' w'
  size : w.heap.size ≤ w'.heap.size
theorem HRel.same (R : HRel NG N0 w0 m h w) : Good NG N0 w0 m h w m h w := ⟨R, Frm.refl _ _ _, Nat.le_refl _⟩
theorem Good.trans {m1 m2 m3 : Mu} {h1 h2 h3 : H} {w1 w2 w3 : World} (a : Good NG N0 w0 m1 h1 w1 m2 h2 w2) (b : Good NG N0 w0 m2 h2 w2 m3 h3 w3) : Good NG N0 w0 m1 h1 w1 m3 h3 w3 where
  rel := b.rel
  frm := fun k hk hb => by
    obtain ⟨e1, e2⟩ := a.frm k hk hb
    obtain ⟨e3, e4⟩ := b.frm k (Nat.lt_of_lt_of_le hk a.size) e2
    exact ⟨e3.trans e1, e4⟩
  size := Nat.le_trans a.size b.size
theorem HRel.set (R : HRel NG N0 w0 m h w) {id : Nat} {o o' : O} {L : Loc} (hg : h.get id = some o) (hm : m id = some L) (ho : o.ro = false) {w' : World} (hS : Same1 L.b w w')
    (hO : ORel m w' L o') : Good NG N0 w0 m h w m (h.set id (some o')) w' := by
  have hb : N0 ≤ L.b := by
    obtain ⟨L', e1, _, e3, _⟩ := R.objs id o hg
    rw [hm] at e1; injection e1 with e1; subst e1; exact e3 ho
  have old : ∀ j, j ≠ id → (h.set id (some o')).get j = h.get j := fun j hj => T.put_get_other _ _ _ _ (Ne.symm hj)
  have own : ∀ y, (h.set id (some o')).get id = some y → y = o' := fun y hy => (Option.some.inj (T.put_get_same _ _ _ _ hy)).symm
  refine ⟨⟨R.below.trans (hS.below hb), by rw [hS.size]; exact R.n0, R.dom, fun j oj hj => ?_, fun i j oi oj Li Lj hi hj => ?_, R.glob⟩, fun b' hb' hn => ⟨hS.rest _ (fun e => hn id o L hg hm e.symm), fun i oi Li hi hmi => ?_⟩, by rw [hS.size]; exact Nat.le_refl _⟩
  · by_cases hij : j = id
    · subst hij
      obtain rfl := own _ hj
      obtain ⟨L', e1, e2, _, _⟩ := R.objs j o hg
      rw [hm] at e1; injection e1 with e1; subst e1
      exact ⟨L, hm, by rw [hS.size]; exact e2, fun _ => hb, hO⟩
    · rw [old j hij] at hj
      obtain ⟨L', e1, e2, e3, e4⟩ := R.objs j oj hj
      refine ⟨L', e1, by rw [hS.size]; exact e2, e3, e4.heap (hS.rest _ ?_)⟩
      intro e
      exact hij (R.inj j id oj o L' L hj hg e1 hm e)
  · have hi' : ∃ x, h.get i = some x := by
      by_cases e : i = id
      · subst e; exact ⟨o, hg⟩
      · rw [old i e] at hi; exact ⟨oi, hi⟩
    have hj' : ∃ x, h.get j = some x := by
      by_cases e : j = id
      · subst e; exact ⟨o, hg⟩
      · rw [old j e] at hj; exact ⟨oj, hj⟩
    obtain ⟨x, hx⟩ := hi'
    obtain ⟨y, hy⟩ := hj'
    exact fun a b c => R.inj i j x y Li Lj hx hy a b c
  · by_cases e : i = id
    · subst e; exact hn i o Li hg hmi
    · rw [old i e] at hi; exact hn i oi Li hi hmi
theorem HRel.kill (R : HRel NG N0 w0 m h w) (id : Nat) : HRel NG N0 w0 m (h.set id none) w := by
  have old : ∀ j, j ≠ id → (h.set id none).get j = h.get j := fun j hj => T.put_get_other _ _ _ _ (Ne.symm hj)
  have own : ∀ y, (h.set id none).get id ≠ some y := fun y hy => by have := T.put_get_same _ _ _ _ hy; cases this
  refine ⟨R.below, R.n0, R.dom, fun j oj hj => ?_, fun i j oi oj Li Lj hi hj => ?_, R.glob⟩
  · have e : j ≠ id := fun e => own oj (e ▸ hj)
    exact R.objs j oj (old j e ▸ hj)
  · have e : j ≠ id := fun e => own oj (e ▸ hj)
    have e' : i ≠ id := fun e => own oi (e ▸ hi)
    exact R.inj i j oi oj Li Lj (old i e' ▸ hi) (old j e ▸ hj)

def Mu.upd (m : Mu) (i : Nat) (L : Loc) : Mu := fun j => if j = i then some L else m j
theorem Mu.le_upd {m : Mu} {i : Nat} {L : Loc} (h : m i = none) : m.le (m.upd i L) := fun j L' e => by
  unfold Mu.upd
  by_cases hj : j = i
  · subst hj; rw [h] at e; cases e
  · rw [if_neg hj]; exact e
theorem Mu.upd_at (m : Mu) (i : Nat) (L : Loc) : m.upd i L i = some L := by simp [Mu.upd]
theorem Mu.upd_ne (m : Mu) {i j : Nat} (L : Loc) (h : j ≠ i) : m.upd i L j = m j := by simp [Mu.upd, h]

/-- m' is m but for what stands at nid. -/
structure Ext (m m' : Mu) (nid : Nat) : Prop where
  le : m.le m'
  rest : ∀ id, id ≠ nid → m' id = m id
theorem Ext.refl (m : Mu) (nid : Nat) : Ext m m nid := ⟨Mu.le.refl m, fun _ _ => rfl⟩
theorem Ext.upd {m : Mu} {nid : Nat} {L : Loc} (h : m nid = none) : Ext m (m.upd nid L) nid := ⟨Mu.le_upd h, fun _ e => Mu.upd_ne _ _ e⟩

/-- A new object at a block that no other object has. -/
theorem HRel.put0 (R : HRel NG N0 w0 m h w) {o : O} {L : Loc} {nid : Nat} (hf : m nid = none) (hn : nid < h.next) {w' : World} (hB : Below N0 w w') (hb : N0 ≤ L.b) (hlt : L.b < w'.heap.size)
    (hold : ∀ j oj Lj, h.get j = some oj → m j = some Lj → Lj.b ≠ L.b ∧ w'.heap[Lj.b]? = w.heap[Lj.b]?) (hO : ORel (m.upd nid L) w' L o) :
    Ext m (m.upd nid L) nid ∧ HRel NG N0 w0 (m.upd nid L) (h.set nid (some o)) w' := by
  have hle : m.le (m.upd nid L) := Mu.le_upd hf
  have old : ∀ j, j ≠ nid → (h.set nid (some o)).get j = h.get j := fun j hj => T.put_get_other _ _ _ _ (Ne.symm hj)
  have own : ∀ y, (h.set nid (some o)).get nid = some y → y = o := fun y hy => (Option.some.inj (T.put_get_same _ _ _ _ hy)).symm
  refine ⟨Ext.upd hf, R.below.trans hB, Nat.le_trans R.n0 hB.size, fun id hid => ?_, fun j oj hj => ?_, fun i j oi oj Li Lj hi hj ei ej eb => ?_, fun g hg => ?_⟩
  · have hid' : h.next ≤ id := hid
    rw [Mu.upd_ne _ _ (by omega)]; exact R.dom _ hid'
  · by_cases hij : j = nid
    · subst hij
      obtain rfl := own _ hj
      exact ⟨L, Mu.upd_at _ _ _, hlt, fun _ => hb, hO⟩
    · rw [old j hij] at hj
      obtain ⟨L', e1, e2, e3, e4⟩ := R.objs j oj hj
      exact ⟨L', hle _ _ e1, Nat.lt_of_lt_of_le e2 hB.size, e3, (e4.mono hle).heap (hold j oj L' hj e1).2⟩
  · by_cases hi0 : i = nid
    · by_cases hj0 : j = nid
      · rw [hi0, hj0]
      · subst hi0
        rw [old j hj0] at hj
        rw [Mu.upd_ne _ _ hj0] at ej
        rw [Mu.upd_at] at ei
        injection ei with ei; subst ei
        exact absurd eb.symm (hold j oj Lj hj ej).1
    · rw [old i hi0] at hi
      rw [Mu.upd_ne _ _ hi0] at ei
      by_cases hj0 : j = nid
      · subst hj0
        rw [Mu.upd_at] at ej
        injection ej with ej; subst ej
        exact absurd eb (hold i oi Li hi ei).1
      · rw [old j hj0] at hj
        rw [Mu.upd_ne _ _ hj0] at ej
        exact R.inj i j oi oj Li Lj hi hj ei ej eb
  · obtain ⟨L', e1, e2⟩ := R.glob g hg
    exact ⟨L', hle _ _ e1, e2⟩
theorem HRel.put (R : HRel NG N0 w0 m h w) {o : O} {L : Loc} {nid : Nat} (hf : m nid = none) (hn : nid < h.next) {w' : World} (hB : Below N0 w w') (hb : N0 ≤ L.b) (hlt : L.b < w'.heap.size)
    (hold : ∀ j oj Lj, h.get j = some oj → m j = some Lj → Lj.b ≠ L.b ∧ w'.heap[Lj.b]? = w.heap[Lj.b]?) (hO : ORel (m.upd nid L) w' L o)
    (hfr : ∀ b, b < w.heap.size → (∀ id o L, h.get id = some o → m id = some L → L.b ≠ b) → w'.heap[b]? = w.heap[b]? ∧ L.b ≠ b) :
    Ext m (m.upd nid L) nid ∧ Good NG N0 w0 m h w (m.upd nid L) (h.set nid (some o)) w' := by
  obtain ⟨p1, p2⟩ := R.put0 hf hn hB hb hlt hold hO
  refine ⟨p1, p2, fun b hbk hnb => ⟨(hfr b hbk hnb).1, fun i oi Li hi hmi => ?_⟩, hB.size⟩
  by_cases e : i = nid
  · subst e
    rw [Mu.upd_at] at hmi
    injection hmi with hmi; subst hmi
    exact (hfr b hbk hnb).2
  · rw [show (h.set nid (some o)).get i = h.get i from T.put_get_other _ _ _ _ (Ne.symm e)] at hi
    rw [Mu.upd_ne _ _ e] at hmi
    exact hnb i oi Li hi hmi
theorem HRel.killed (R : HRel NG N0 w0 m h w) (id : Nat) : Good NG N0 w0 m h w m (h.set id none) w :=
  ⟨R.kill id, fun b hb hn => ⟨rfl, fun j oj Lj hj ej => by
    have e : j ≠ id := fun e => by subst e; have := T.put_get_same _ _ _ _ hj; cases this
    rw [show (h.set id none).get j = h.get j from T.put_get_other _ _ _ _ (Ne.symm e)] at hj
    exact hn j oj Lj hj ej⟩, Nat.le_refl _⟩
/-- An object in a new block. -/
theorem HRel.alloc (R : HRel NG N0 w0 m h w) {o : O} {L : Loc} {nid : Nat} (hf : m nid = none) (hn : nid < h.next) (x : Obj) {w' : World} (hw : w'.heap = w.heap.push x) (h1 : w'.os = w.os) (h2 : w'.tape = w.tape) (h3 : w'.output = w.output) (hb : L.b = w.heap.size)
    (hO : ORel (m.upd nid L) w' L o) : Ext m (m.upd nid L) nid ∧ Good NG N0 w0 m h w (m.upd nid L) (h.set nid (some o)) w' := by
  have hk : ∀ k, k < w.heap.size → w'.heap[k]? = w.heap[k]? := fun k hk => by rw [hw, Array.getElem?_push, if_neg (by omega)]
  refine R.put hf hn ⟨h1, h2, h3, by rw [hw]; simp, fun k hk' => hk k (by have := R.n0; omega)⟩ (by rw [hb]; exact R.n0) (by rw [hw, hb]; simp) (fun j oj Lj hj ej => ?_) hO (fun b hb' _ => ⟨hk b hb', by rw [hb]; omega⟩)
  obtain ⟨L', e1, e2, _, _⟩ := R.objs j oj hj
  rw [ej] at e1; injection e1 with e1; subst e1
  exact ⟨by omega, hk _ e2⟩
end

theorem rowOf_some {h : H} {id : Nat} {r : Row} (e : rowOf h id = some r) : h.get id = some (.row r) := by
  unfold rowOf at e
  obtain ⟨o, h1, h2⟩ := bnd_some.1 e
  cases o <;> simp at h2
  subst h2; exact h1

/-! ### Cells -/
theorem addr_add (b o j : Nat) : (⟨b, o, none⟩ : Addr).add j = ⟨b, o + j, none⟩ := by unfold Addr.add; split <;> simp_all

theorem set_take {α : Type} (l r : List α) (o n : Nat) (v : α) (h : o < l.length) : (l.set o v).take (o + 1) ++ (r ++ (l.set o v).drop (o + 1 + n)) = l.take o ++ ((v :: r) ++ l.drop (o + (n + 1))) := by
  have e1 : (l.set o v).take (o + 1) = l.take o ++ [v] := by
    rw [List.take_add_one, List.take_set, List.set_eq_of_length_le (by simp; omega)]
    simp [List.getElem?_set, h]
  have e2 : (l.set o v).drop (o + 1 + n) = l.drop (o + (n + 1)) := by
    rw [List.drop_set_of_lt (by omega)]
    congr 1; omega
  rw [e1, e2]
  simp
theorem modify_at {α : Type} (a : Array α) (i : Nat) (f : α → α) (x : α) (h : a[i]? = some x) : (a.modify i f)[i]? = some (f x) := by simp [Array.getElem?_modify, h]
theorem modify_other {α : Type} (a : Array α) (i k : Nat) (f : α → α) (h : k ≠ i) : (a.modify i f)[k]? = a[k]? := by
  rw [Array.getElem?_modify, if_neg (Ne.symm h)]
theorem setCell_heap (w : World) (b o : Nat) (v : Value) (c : Array Value) (t : TypeId) (fz : Nat × Nat) (h : w.heap[b]? = some (.cells c t fz)) :
    (w.setCell ⟨b, o, none⟩ v).heap[b]? = some (.cells (c.setIfInBounds o v) t fz) :=
  modify_at _ _ _ _ h
theorem setCells_same (b : Nat) : ∀ (vs : List Value) (o : Nat) (w : World), Same1 b w (w.setCells b o vs)
  | [], _, _ => ⟨rfl, rfl, rfl, rfl, fun _ _ => rfl⟩
  | v :: r, o, w => by
    have ih := setCells_same b r (o + 1) (w.setCell ⟨b, o, none⟩ v)
    have h0 : Same1 b w (w.setCell ⟨b, o, none⟩ v) := ⟨rfl, rfl, rfl, by simp [World.setCell], fun k hk => modify_other _ _ _ _ hk⟩
    rw [World.setCells]
    exact ⟨ih.os.trans h0.os, ih.tape.trans h0.tape, ih.output.trans h0.output, ih.size.trans h0.size, fun k hk => (ih.rest k hk).trans (h0.rest k hk)⟩
theorem setCells_heap (b : Nat) (t : TypeId) (fz : Nat × Nat) : ∀ (vs : List Value) (o : Nat) (w : World) (c : Array Value), w.heap[b]? = some (.cells c t fz) → o + vs.length ≤ c.size →
    ∃ c', (w.setCells b o vs).heap[b]? = some (.cells c' t fz) ∧ c'.toList = c.toList.take o ++ (vs ++ c.toList.drop (o + vs.length))
  | [], o, w, c, h, _ => ⟨c, h, by simp⟩
  | v :: r, o, w, c, h, hl => by
    simp only [List.length_cons] at hl
    obtain ⟨c', h1, h2⟩ := setCells_heap b t fz r (o + 1) (w.setCell ⟨b, o, none⟩ v) _ (setCell_heap w b o v c t fz h) (by simp; omega)
    refine ⟨c', by rw [World.setCells]; exact h1, ?_⟩
    rw [h2, Array.toList_setIfInBounds, List.length_cons, set_take _ _ _ _ _ (by simp; omega)]
theorem RowRel.cellAt {m : Mu} {w : World} {L : Loc} {r : Row} {c : Array Value} {fz : Nat × Nat} (R : RowRel m w L r c fz) (j : Nat) : w.cell? ⟨L.b, L.d + j, none⟩ = (c.toList.drop L.d)[j]? := by
  simp [World.cell?, R.at_]
theorem RowRel.load {m : Mu} {w : World} {L : Loc} {r : Row} {c : Array Value} {fz : Nat × Nat} (R : RowRel m w L r c fz) {i : Nat} {v : V} (h : r.cs[i]? = some v) :
    ∃ v', w.cell? ⟨L.b, L.d + i, none⟩ = some v' ∧ VRel m v v' := by
  obtain ⟨v', h1, h2⟩ := R.vals.get h
  refine ⟨v', ?_, h2⟩
  rw [R.cellAt]
  have hi : i < r.cs.length := (List.getElem?_eq_some_iff.1 h).1
  rw [List.getElem?_take, if_pos hi] at h1
  exact h1
theorem RowRel.loads {P : Program} {m : Mu} {w : World} {L : Loc} {r : Row} {c : Array Value} {fz : Nat × Nat} (R : RowRel m w L r c fz) (off n : Nat) (h : off + n ≤ r.cs.length) :
    ∃ vs, (loadCells ⟨L.b, L.d + off, none⟩ n).run P w = .ok vs.toArray w ∧ VsRel m ((r.cs.drop off).take n) vs := by
  have hv := (R.vals.drop off).take n
  refine ⟨_, ?_, hv⟩
  have hlen : (List.take n (List.drop off (List.take r.cs.length (List.drop L.d c.toList)))).length = n := by
    have := R.fits; have := R.ends
    simp; omega
  have := run_loadCells_list (P := P) w ⟨L.b, L.d + off, none⟩ (List.take n (List.drop off (List.take r.cs.length (List.drop L.d c.toList)))) (fun j v hj => by
    rw [addr_add, Nat.add_assoc, R.cellAt]
    have hj' : j < n := by have := (List.getElem?_eq_some_iff.1 hj).1; omega
    rw [List.getElem?_take, if_pos hj', List.getElem?_drop, List.getElem?_take, if_pos (by omega)] at hj
    exact hj)
  rw [hlen] at this
  exact this
theorem VRel.one {m : Mu} {v : V} {v' : Value} (h : VRel m v v') (h1 : v.one = true) : v'.oneCell' = true := by
  cases h <;> first | rfl | (simp [V.one] at h1)
theorem VsRel.one {m : Mu} {vs : List V} {vs' : List Value} (h : VsRel m vs vs') (h1 : vs.all V.one = true) : ∀ v ∈ vs', v.oneCell' = true := by
  induction vs generalizing vs' with
  | nil => cases h; simp
  | cons x xs ih =>
    cases h with
    | cons _ x' _ xs' e es =>
      simp only [List.all_cons, Bool.and_eq_true] at h1
      intro v hv
      cases hv with
      | head => exact e.one h1.1
      | tail _ hv => exact ih es h1.2 v hv

/-- Cells stored in a row (from 'off' on, up to the row's end, even behind what is known of it). -/
theorem RowRel.stores {P : Program} {m : Mu} {w : World} {L : Loc} {r : Row} {c : Array Value} {fz : Nat × Nat} (R : RowRel m w L r c fz) (off : Nat) {vs : List V} {vs' : List Value} (hv : VsRel m vs vs')
    (h1 : vs.all V.one = true) (hf : r.frz ≤ off) (hl : L.d + off + vs.length ≤ L.e) :
    ∃ w' c', (storeCells ⟨L.b, L.d + off, none⟩ vs').run P w = .ok () w' ∧ Same1 L.b w w' ∧ w'.heap[L.b]? = some (.cells c' r.elem fz) ∧
      c'.toList = c.toList.take (L.d + off) ++ (vs' ++ c.toList.drop (L.d + off + vs'.length)) ∧ c'.size = c.size := by
  have hlen := hv.length
  have hend := R.ends
  have hst := run_storeCells_cells (P := P) L.b (L.d + off) vs' 0 w (fun j hj => by
      rw [show L.d + off + 0 + j = L.d + (off + j) by omega, R.cellAt, List.getElem?_eq_getElem (by simp; omega)]; rfl)
    (fun j hj => by
      simp only [World.frozen?, R.at_, Nat.add_zero]
      exact R.frz.free (by omega) (by omega)) (hv.one h1)
  obtain ⟨c', e1, e2⟩ := setCells_heap L.b r.elem fz vs' (L.d + off) w c R.at_ (by omega)
  refine ⟨_, c', by simpa using hst, setCells_same _ _ _ _, by simpa using e1, e2, ?_⟩
  have := congrArg List.length e2
  simp only [List.length_append, List.length_take, List.length_drop, Array.length_toList] at this
  omega
end Go.Proofs.Ytagbpjegdfhmpaa.AM
