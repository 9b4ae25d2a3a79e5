/- Regions whose order is open: any order does what the text's does. -/
import Derived.Test.YtagbpjegdfhmpaaAmDraw2
set_option linter.unusedSimpArgs false
set_option linter.unusedVariables false
namespace Go.Proofs.Ytagbpjegdfhmpaa.AM
open Go.RowKit (Below)

section
variable {NG N0 : Nat} {w0 : World}
/-- An object that stands in the world, taken into view. -/
theorem HRel.act {m : Mu} {h : H} {w : World} (R : HRel NG N0 w0 m h w) {id : Nat} {o : O} {L : Loc} (hm : m id = some L) (hlt : L.b < w.heap.size) (hb : o.ro = false → N0 ≤ L.b) (hO : ORel m w L o)
    (hn : ∀ j oj Lj, h.get j = some oj → m j = some Lj → Lj.b ≠ L.b) : HRel NG N0 w0 m (h.set id (some o)) w := by
  have old : ∀ j, j ≠ id → (h.set id (some o)).get j = h.get j := fun j hj => T.put_get_other _ _ _ _ (Ne.symm hj)
  have own : ∀ y, (h.set id (some o)).get id = some y → y = o := fun y hy => (Option.some.inj (T.put_get_same _ _ _ _ hy)).symm
  refine ⟨R.below, R.n0, R.dom, fun j oj hj => ?_, fun i j oi oj Li Lj hi hj ei ej eb => ?_, R.glob⟩
  · by_cases hij : j = id
    · subst hij
      obtain rfl := own _ hj
      exact ⟨L, hm, hlt, hb, hO⟩
    · exact R.objs j oj (old j hij ▸ hj)
  · by_cases hi0 : i = id
    · by_cases hj0 : j = id
      · rw [hi0, hj0]
      · subst hi0
        rw [hm] at ei; injection ei with ei; subst ei
        exact absurd eb.symm (hn j oj Lj (old j hj0 ▸ hj) ej)
    · by_cases hj0 : j = id
      · subst hj0
        rw [hm] at ej; injection ej with ej; subst ej
        exact absurd eb (hn i oi Li (old i hi0 ▸ hi) ei)
      · exact R.inj i j oi oj Li Lj (old i hi0 ▸ hi) (old j hj0 ▸ hj) ei ej eb
theorem HRel.unborn {m : Mu} {h : H} {w : World} (R : HRel NG N0 w0 m h w) {id : Nat} (hf : m id = none) : ∀ o, h.get id ≠ some o := fun o ho => by
  obtain ⟨L, h1, _⟩ := R.objs id o ho
  rw [hf] at h1; cases h1
theorem get_set_other {h : H} {id j : Nat} {o : O} {x : Option O} (hj : h.get j = some o) (hne : j ≠ id) : (h.set id x).get j = some o := by
  rw [show (h.set id x).get j = h.get j from T.put_get_other _ _ _ _ (Ne.symm hne)]; exact hj
theorem get_set_own (h : H) (id : Nat) (o : O) : (h.set id (some o)).get id = some o := T.put_get _ _ _
theorem HRel.drop {m m' : Mu} {h : H} {w w' : World} (R : HRel NG N0 w0 m h w) {id : Nat} (hf : m id = none) {x : O} (R' : HRel NG N0 w0 m' (h.set id (some x)) w') : HRel NG N0 w0 m' h w' := by
  have ne : ∀ {j o}, h.get j = some o → j ≠ id := fun hj e => R.unborn hf _ (e ▸ hj)
  exact ⟨R'.below, R'.n0, R'.dom, fun j o hj => R'.objs j o (get_set_other hj (ne hj)), fun i j oi oj Li Lj hi hj => R'.inj i j oi oj Li Lj (get_set_other hi (ne hi)) (get_set_other hj (ne hj)), R'.glob⟩
end

structure Inv (P : Program) (N0 : Nat) (w0 : World) (ops : Array Oper) (s : S) (dd : Nat → D) (val : Nat → V) (ms : Mu) (ws : World) (L : Nat → Bool) (p : Nat) (m : Mu) (a : Act) (w : World) : Prop where
  closed : ∀ (i : Nat) (o : Oper), ops[i]? = some o → L i = true → ∀ e ∈ o.after, Region.binds .any e = true → L e.on = true
  srel : SRel P N0 w0 m (E s (dstOf ops) val L ops.size) s.n (dd p).hb a w
  room : s.h.next + ops.size ≤ (dd p).hb.next
  ple : p ≤ ops.size
  last : p = 0 ∨ ∃ q, p = q + 1 ∧ Hv P ops dd q ∧ L q = true
  hv1 : ∀ i, Hv P ops dd i → L i = true → i < p
  hv2 : ∀ i, Hv P ops dd i → i < p → L i = true
  free : ∀ i, i < ops.size → L i = false → m (s.h.next + i) = none
  pend : ∀ i r, L i = true → p ≤ i → Al P ops s dd val i r → ∃ Lc, m (s.h.next + i) = some Lc ∧ Lc.b < w.heap.size ∧ ((O.row r).ro = false → N0 ≤ Lc.b) ∧ ORel m w Lc (.row r) ∧ (∀ id ob Lo, (dd p).hb.get id = some ob → m id = some Lo → Lo.b ≠ Lc.b)
  apart : ∀ i j r r' Lc Lc', L i = true → p ≤ i → Al P ops s dd val i r → L j = true → p ≤ j → Al P ops s dd val j r' → i ≠ j → m (s.h.next + i) = some Lc → m (s.h.next + j) = some Lc' → Lc.b ≠ Lc'.b
  later : Later ms m s.h.next
  frm : ∀ b, b < ws.heap.size → (∀ id o L, s.h.get id = some o → ms id = some L → L.b ≠ b) → w.heap[b]? = ws.heap[b]? ∧ (∀ id o L, (dd p).hb.get id = some o → m id = some L → L.b ≠ b) ∧
    (∀ i r Lc, L i = true → p ≤ i → Al P ops s dd val i r → m (s.h.next + i) = some Lc → Lc.b ≠ b)
  grow : ws.heap.size ≤ w.heap.size

section
variable {P : Program} {N0 : Nat} {w0 : World} {call : FuncId → List V → H → Option (V × H)} {ops : Array Oper} {s : S} {d' : D} {dd : Nat → D} {val : Nat → V} {ms : Mu} {ws : World} {L : Nat → Bool} {p : Nat} {m : Mu} {a : Act} {w : World}

/-- The new objects of the operations up to j, taken into view. -/
theorem Inv.act (F : Run P call ops s d' dd val) (I : Inv P N0 w0 ops s dd val ms ws L p m a w) : ∀ k, p + k ≤ ops.size → (∀ l, p ≤ l → l < p + k → ¬ Hv P ops dd l) → (∀ l r, p ≤ l → l < p + k → Al P ops s dd val l r → L l = true) →
    HRel P.globals.size N0 w0 m (dd (p + k)).h w ∧ (dd (p + k)).h.next = (dd p).hb.next ∧ (∀ id o, (dd (p + k)).h.get id = some o → (dd p).hb.get id = some o ∨ ∃ i r, p ≤ i ∧ i < p + k ∧ Al P ops s dd val i r ∧ L i = true ∧ id = s.h.next + i) := by
  intro k
  induction k with
  | zero =>
    intro _ _ _
    have e : (dd p).h = (dd p).hb := by
      rcases I.last with h | ⟨q, h, hq, _⟩
      · rw [h, F.zero]
      · subst h
        have hq' := hq
        obtain ⟨o, ho, _⟩ := hq'
        exact ((F.next ho).2.1 hq).1
    rw [Nat.add_zero, e]
    exact ⟨I.srel.rel, rfl, fun id o h => .inl h⟩
  | succ k ih =>
    intro hn hno hal
    obtain ⟨h1, h2, h3⟩ := ih (by omega) (fun l a b => hno l a (by omega)) (fun l r a b => hal l r a (by omega))
    have ho : ops[p + k]? = some ops[p + k] := by simp
    rw [show p + (k + 1) = p + k + 1 by omega]
    rcases ((F.next ho).2.2.1 (hno _ (by omega) (by omega))).2 with ⟨r, hr, e⟩ | ⟨_, e⟩
    · have hL := hal _ r (by omega) (by omega) hr
      obtain ⟨Lc, p1, p2, p3, p4, p5⟩ := I.pend _ r hL (by omega) hr
      rw [e]
      refine ⟨h1.act p1 p2 p3 p4 fun j oj Lj hj ej => ?_, h2, fun id o hid => ?_⟩
      · rcases h3 j oj hj with hh | ⟨i, r', q1, q2, q3, q4, rfl⟩
        · exact p5 j oj Lj hh ej
        · exact I.apart i (p + k) r' r Lj Lc q4 q1 q3 hL (by omega) hr (by omega) ej p1
      · by_cases he : id = s.h.next + (p + k)
        · exact .inr ⟨p + k, r, by omega, by omega, hr, hL, he⟩
        · rw [show ((dd (p + k)).h.set (s.h.next + (p + k)) (some (.row r))).get id = (dd (p + k)).h.get id from T.put_get_other _ _ _ _ (Ne.symm he)] at hid
          rcases h3 id o hid with hh | ⟨i, r', q1, q2, q3⟩
          · exact .inl hh
          · exact .inr ⟨i, r', q1, by omega, q3⟩
    · rw [e]
      refine ⟨h1, h2, fun id o hid => ?_⟩
      rcases h3 id o hid with hh | ⟨i, r', q1, q2, q3⟩
      · exact .inl hh
      · exact .inr ⟨i, r', q1, by omega, q3⟩

/-- All operations are done. -/
theorem Inv.done (F : Run P call ops s d' dd val) (I : Inv P N0 w0 ops s dd val ms ws L p m a w) (hall : ∀ i, i < ops.size → L i = true) :
    SRel P N0 w0 m d'.env s.n d'.h a w ∧ Went P N0 w0 ms s.h ws m d'.h w := by
  obtain ⟨h1, h2, h3⟩ := I.act F (ops.size - p) (by have := I.ple; omega) (fun l a b hv => by have := I.hv1 l hv (hall l hv.lt); omega) (fun l r a b hr => hall l hr.lt)
  have e : p + (ops.size - p) = ops.size := by have := I.ple; omega
  rw [e] at h1 h2 h3
  rw [F.last] at h1 h2 h3
  refine ⟨⟨I.srel.defers, I.srel.size, fun t v hv => I.srel.vals t v ?_, h1⟩, I.later, by have := I.room; omega, h1, fun b hb hnb => ?_, I.grow⟩
  · rw [E_congr L (fun _ => true) ops.size hall, ← F.env ops.size (Nat.le_refl _), F.last]; exact hv
  · obtain ⟨q1, q2, q3⟩ := I.frm b hb hnb
    refine ⟨q1, fun id o Lo hid em => ?_⟩
    rcases h3 id o hid with hh | ⟨i, r, k1, k2, k3, k4, rfl⟩
    · exact q2 id o Lo hh em
    · exact q3 i r Lo k4 k1 k3 em

/-- What is known of an operation that is ready. -/
structure Rdy (ops : Array Oper) (L : Nat → Bool) (j : Nat) (oj : Oper) (mj : Nat) : Prop where
  op : ops[j]? = some oj
  mask : (masksOf ops.toList [])[j]? = some mj
  out : L j = false
  edges : ∀ e ∈ oj.after, Region.binds .any e = true → L e.on = true
  anc : ∀ l, Nat.testBit mj l = true → L l = true
  up : ∀ (i mi : Nat), (masksOf ops.toList [])[i]? = some mi → L i = true → Nat.testBit mi j = true → L j = true
theorem Inv.rdy (I : Inv P N0 w0 ops s dd val ms ws L p m a w) {j : Nat} {oj : Oper} (ho : ops[j]? = some oj) (hout : L j = false) (he : ∀ e ∈ oj.after, Region.binds .any e = true → L e.on = true) : ∃ mj, Rdy ops L j oj mj := by
  obtain ⟨mj, hmj⟩ := mask_of ho
  refine ⟨mj, ho, hmj, hout, he, mask_listed (L := fun i => L i = true) I.closed j oj mj ho hmj he, fun i mi hmi hi hb => ?_⟩
  have hlt : i < ops.size := by
    have := (List.getElem?_eq_some_iff.1 hmi).1
    rw [masksOf_len] at this
    simpa using this
  have hoi : ops[i]? = some ops[i] := by simp
  exact mask_listed (L := fun i => L i = true) I.closed i _ mi hoi hmi (I.closed i _ hoi hi) j hb

structure More (L L' : Nat → Bool) (j : Nat) : Prop where
  at_ : L' j = true
  rest : ∀ i, i ≠ j → L' i = L i
theorem More.mono {j : Nat} {L' : Nat → Bool} (M : More L L' j) {i : Nat} (h : L i = true) : L' i = true := by
  by_cases e : i = j
  · subst e; exact M.at_
  · rw [M.rest i e]; exact h
theorem More.old {j : Nat} {L' : Nat → Bool} (M : More L L' j) {i : Nat} (h : L' i = true) (hne : i ≠ j) : L i = true := by rw [← M.rest i hne]; exact h
theorem More.un {j : Nat} {L' : Nat → Bool} (M : More L L' j) {i : Nat} (h : L' i = false) : i ≠ j ∧ L i = false := by
  have e : i ≠ j := fun e => by subst e; rw [M.at_] at h; cases h
  exact ⟨e, by rw [← M.rest i e]; exact h⟩
theorem Inv.closed' (I : Inv P N0 w0 ops s dd val ms ws L p m a w) {L' : Nat → Bool} {j : Nat} {oj : Oper} {mj : Nat} (Y : Rdy ops L j oj mj) (M : More L L' j) :
    ∀ (i : Nat) (o : Oper), ops[i]? = some o → L' i = true → ∀ e ∈ o.after, Region.binds .any e = true → L' e.on = true := by
  intro i o ho hi e he hb
  by_cases hij : i = j
  · subst hij
    rw [Y.op] at ho; injection ho with ho; subst ho
    exact M.mono (Y.edges e he hb)
  · exact M.mono (I.closed i o ho (M.old hi hij) e he hb)
theorem Inv.vals' (F : Run P call ops s d' dd val) (I : Inv P N0 w0 ops s dd val ms ws L p m a w) {L' : Nat → Bool} {j : Nat} {oj : Oper} {mj : Nat} (Y : Rdy ops L j oj mj) (M : More L L' j) {m' : Mu} {v' : Value} (hle : m.le m') (hv : VRel m' (val j) v') {h' : H} {w' : World}
    (R : HRel P.globals.size N0 w0 m' h' w') : SRel P N0 w0 m' (E s (dstOf ops) val L' ops.size) s.n h' (a.put oj.dst v') w' := by
  obtain ⟨p1, p2⟩ := put_vals (dst := oj.dst) I.srel.size I.srel.vals hle hv
  refine ⟨by rw [put_defers']; exact I.srel.defers, p1, fun t u hu => p2 t u ?_, R⟩
  rw [← F.put Y.op Y.out M.at_ M.rest Y.up t]; exact hu
theorem Inv.ev' (F : Run P call ops s d' dd val) (I : Inv P N0 w0 ops s dd val ms ws L p m a w) {j : Nat} {oj : Oper} {mj : Nat} (Y : Rdy ops L j oj mj) : ∀ x ∈ oj.op.operands, evT P (dd j).env x = evT P (E s (dstOf ops) val L ops.size) x := by
  intro x hx
  cases x with
  | tmp t => exact (F.looks Y.op Y.mask Y.out Y.anc Y.up (List.mem_append_left _ (List.mem_filterMap.2 ⟨.tmp t, by simpa using hx, rfl⟩))).symm
  | _ => rfl
theorem Inv.want' (F : Run P call ops s d' dd val) (I : Inv P N0 w0 ops s dd val ms ws L p m a w) {j : Nat} {oj : Oper} {mj : Nat} (Y : Rdy ops L j oj mj) : wantA (dstOf ops) (E s (dstOf ops) val L ops.size) oj = wantA (dstOf ops) (dd j).env oj := by
  unfold wantA
  cases hg : oj.guard with
  | none => rfl
  | some g =>
    show ((dstOf ops g.1).bind fun t => _) = ((dstOf ops g.1).bind fun t => _)
    cases hd : dstOf ops g.1 with
    | none => rfl
    | some t =>
      have := F.looks Y.op Y.mask Y.out Y.anc Y.up (t := t) (List.mem_append_right _ (by
        obtain ⟨g1, g2⟩ := g
        rw [hg]
        have hd : (ops[g1]?).bind (·.dst) = some t := hd
        simp [hd]))
      show ((E s (dstOf ops) val L ops.size).get t).bind _ = ((dd j).env.get t).bind _
      rw [this]

/-- An operation that leaves memory. -/
theorem Inv.quiet (F : Run P call ops s d' dd val) (I : Inv P N0 w0 ops s dd val ms ws L p m a w) {L' : Nat → Bool} {j : Nat} {oj : Oper} {mj : Nat} (Y : Rdy ops L j oj mj) (M : More L L' j) (h1 : ¬ Hv P ops dd j) (h2 : ∀ r, ¬ Al P ops s dd val j r) {v' : Value} (hv : VRel m (val j) v') :
    Inv P N0 w0 ops s dd val ms ws L' p m (a.put oj.dst v') w where
  closed := I.closed' Y M
  srel := I.vals' F Y M (Mu.le.refl m) hv I.srel.rel
  room := I.room
  ple := I.ple
  last := I.last.imp_right fun ⟨q, e1, e2, e3⟩ => ⟨q, e1, e2, M.mono e3⟩
  hv1 := fun i hi hL => I.hv1 i hi (M.old hL fun e => h1 (e ▸ hi))
  hv2 := fun i hi hp => M.mono (I.hv2 i hi hp)
  free := fun i hi hL => I.free i hi (M.un hL).2
  pend := fun i r hL hp hr => I.pend i r (M.old hL fun e => h2 r (e ▸ hr)) hp hr
  apart := fun i k r r' Lc Lc' e1 e2 e3 e4 e5 e6 => I.apart i k r r' Lc Lc' (M.old e1 fun e => h2 r (e ▸ e3)) e2 e3 (M.old e4 fun e => h2 r' (e ▸ e6)) e5 e6
  later := I.later
  frm := fun b hb hn => by
    obtain ⟨q1, q2, q3⟩ := I.frm b hb hn
    exact ⟨q1, q2, fun i r Lc hL hp hr => q3 i r Lc (M.old hL fun e => h2 r (e ▸ hr)) hp hr⟩
  grow := I.grow

/-- An operation that makes a row. -/
theorem Inv.born (F : Run P call ops s d' dd val) (I : Inv P N0 w0 ops s dd val ms ws L p m a w) {L' : Nat → Bool} {j : Nat} {oj : Oper} {mj : Nat} (Y : Rdy ops L j oj mj) (M : More L L' j) (h1 : ¬ Hv P ops dd j) {r : Row} (hr : Al P ops s dd val j r) (hp : p ≤ j) {m' : Mu} {v' : Value} {w' : World}
    (hv : VRel m' (val j) v') (hE : Ext m m' (s.h.next + j)) (hG : Good P.globals.size N0 w0 m (dd p).hb w m' ((dd p).hb.set (s.h.next + j) (some (.row r))) w') :
    Inv P N0 w0 ops s dd val ms ws L' p m' (a.put oj.dst v') w' := by
  have hf := I.free j hr.lt Y.out
  have unb := I.srel.rel.unborn hf
  have mold : ∀ i, i ≠ j → m' (s.h.next + i) = m (s.h.next + i) := fun i hi => hE.rest _ (by omega)
  have into : ∀ {id ob}, (dd p).hb.get id = some ob → id ≠ s.h.next + j := fun h e => unb _ (e ▸ h)
  obtain ⟨Lj, j1, j2, j3, j4⟩ := hG.rel.objs (s.h.next + j) _ (get_set_own _ _ _)
  exact
  { closed := I.closed' Y M
    srel := I.vals' F Y M hE.le hv (I.srel.rel.drop hf hG.rel)
    room := I.room
    ple := I.ple
    last := I.last.imp_right fun ⟨q, e1, e2, e3⟩ => ⟨q, e1, e2, M.mono e3⟩
    hv1 := fun i hi hL => I.hv1 i hi (M.old hL fun e => h1 (e ▸ hi))
    hv2 := fun i hi hp => M.mono (I.hv2 i hi hp)
    free := fun i hi hL => by
      obtain ⟨e, hL⟩ := M.un hL
      rw [mold i e]; exact I.free i hi hL
    pend := fun i r' hL hpi hri => by
      by_cases e : i = j
      · subst e
        obtain rfl := hr.same hri
        refine ⟨Lj, j1, j2, j3, j4, fun id ob Lo hid em eb => into hid (hG.rel.inj id _ ob _ Lo Lj (get_set_other hid (into hid)) (get_set_own _ _ _) em j1 eb)⟩
      · obtain ⟨Lc, q1, q2, q3, q4, q5⟩ := I.pend i r' (M.old hL e) hpi hri
        obtain ⟨k1, k2⟩ := hG.frm Lc.b q2 q5
        exact ⟨Lc, (mold i e).trans q1, Nat.lt_of_lt_of_le q2 hG.size, q3, (q4.mono hE.le).heap k1, fun id ob Lo hid em => k2 id ob Lo (get_set_other hid (into hid)) em⟩
    apart := fun i k ri rk Lc Lc' e1 e2 e3 e4 e5 e6 hne mi mk => by
      have one : ∀ i ri Lc, L' i = true → p ≤ i → Al P ops s dd val i ri → i ≠ j → m' (s.h.next + i) = some Lc → Lj.b ≠ Lc.b := fun i ri Lc e1 e2 e3 e mi => by
        obtain ⟨Lx, q1, q2, q3, q4, q5⟩ := I.pend i ri (M.old e1 e) e2 e3
        rw [mold i e, q1] at mi
        injection mi with mi; subst mi
        exact (hG.frm Lx.b q2 q5).2 _ _ _ (get_set_own _ _ _) j1
      by_cases ei : i = j
      · subst ei
        rw [j1] at mi; injection mi with mi; subst mi
        exact one k rk Lc' e4 e5 e6 (Ne.symm hne) mk
      · by_cases ek : k = j
        · subst ek
          rw [j1] at mk; injection mk with mk; subst mk
          exact (one i ri Lc e1 e2 e3 ei mi).symm
        · rw [mold i ei] at mi
          rw [mold k ek] at mk
          exact I.apart i k ri rk Lc Lc' (M.old e1 ei) e2 e3 (M.old e4 ek) e5 e6 hne mi mk
    later := ⟨I.later.1.trans hE.le, fun id hid => (hE.rest id (by omega)).trans (I.later.2 id hid)⟩
    frm := fun b hb hn => by
      obtain ⟨q1, q2, q3⟩ := I.frm b hb hn
      obtain ⟨k1, k2⟩ := hG.frm b (Nat.lt_of_lt_of_le hb I.grow) q2
      refine ⟨k1.trans q1, fun id ob Lo hid em => k2 id ob Lo (get_set_other hid (into hid)) em, fun i ri Lc e1 e2 e3 em => ?_⟩
      by_cases e : i = j
      · subst e
        exact k2 _ _ _ (get_set_own _ _ _) em
      · rw [mold i e] at em
        exact q3 i ri Lc (M.old e1 e) e2 e3 em
    grow := Nat.le_trans I.grow hG.size }

/-- An operation that changes memory. -/
theorem Inv.loud (F : Run P call ops s d' dd val) (I : Inv P N0 w0 ops s dd val ms ws L p m a w) {L' : Nat → Bool} {j : Nat} {oj : Oper} {mj : Nat} (Y : Rdy ops L j oj mj) (M : More L L' j) (hj : Hv P ops dd j) (hp : p ≤ j) (hall : ∀ i, Hv P ops dd i → i < j → L i = true)
    (hlive : ∀ id o, (dd j).h.get id = some o → (dd p).hb.get id = some o ∨ ∃ i r, p ≤ i ∧ i < j ∧ Al P ops s dd val i r ∧ L i = true ∧ id = s.h.next + i) (hnx : (dd j).h.next = (dd p).hb.next) {m' : Mu} {v' : Value} {w' : World} {h' : H} (hh : (dd (j + 1)).hb = h')
    (hv : VRel m' (val j) v') (hle : m.le m') (hrest : ∀ id, id < (dd j).h.next → id ≠ s.h.next + j → m' id = m id) (hnext : (dd j).h.next ≤ h'.next) (hG : Good P.globals.size N0 w0 m (dd j).h w m' h' w') :
    Inv P N0 w0 ops s dd val ms ws L' (j + 1) m' (a.put oj.dst v') w' := by
  have room := I.room
  have mold : ∀ i, i < ops.size → i ≠ j → m' (s.h.next + i) = m (s.h.next + i) := fun i hi hne => hrest _ (by omega) (by omega)
  have notlive : ∀ b, (∀ id ob Lo, (dd p).hb.get id = some ob → m id = some Lo → Lo.b ≠ b) → (∀ i r Lc, L i = true → p ≤ i → i < j → Al P ops s dd val i r → m (s.h.next + i) = some Lc → Lc.b ≠ b) → ∀ id o Lo, (dd j).h.get id = some o → m id = some Lo → Lo.b ≠ b := fun b h1 h2 id o Lo hid em => by
    rcases hlive id o hid with hh | ⟨i, r, k1, k2, k3, k4, rfl⟩
    · exact h1 id o Lo hh em
    · exact h2 i r Lo k4 k1 k2 k3 em
  subst hh
  exact
  { closed := I.closed' Y M
    srel := I.vals' F Y M hle hv hG.rel
    room := by omega
    ple := hj.lt
    last := .inr ⟨j, rfl, hj, M.at_⟩
    hv1 := fun i hi hL => by
      by_cases e : i = j
      · omega
      · have := I.hv1 i hi (M.old hL e); omega
    hv2 := fun i hi hlt => by
      by_cases e : i = j
      · subst e; exact M.at_
      · exact M.mono (hall i hi (by omega))
    free := fun i hi hL => by
      obtain ⟨e, hL⟩ := M.un hL
      rw [mold i hi e]; exact I.free i hi hL
    pend := fun i r hL hpi hr => by
      have e : i ≠ j := by omega
      obtain ⟨Lc, q1, q2, q3, q4, q5⟩ := I.pend i r (M.old hL e) (by omega) hr
      obtain ⟨k1, k2⟩ := hG.frm Lc.b q2 (notlive Lc.b q5 fun i' r' Lc' e1 e2 e3 e4 em => I.apart i' i r' r Lc' Lc e1 e2 e4 (M.old hL e) (by omega) hr (by omega) em q1)
      exact ⟨Lc, (mold i hr.lt e).trans q1, Nat.lt_of_lt_of_le q2 hG.size, q3, (q4.mono hle).heap k1, k2⟩
    apart := fun i k ri rk Lc Lc' e1 e2 e3 e4 e5 e6 hne mi mk => by
      have ei : i ≠ j := by omega
      have ek : k ≠ j := by omega
      rw [mold i e3.lt ei] at mi
      rw [mold k e6.lt ek] at mk
      exact I.apart i k ri rk Lc Lc' (M.old e1 ei) (by omega) e3 (M.old e4 ek) (by omega) e6 hne mi mk
    later := ⟨I.later.1.trans hle, fun id hid => (hrest id (by omega) (by omega)).trans (I.later.2 id hid)⟩
    frm := fun b hb hn => by
      obtain ⟨q1, q2, q3⟩ := I.frm b hb hn
      obtain ⟨k1, k2⟩ := hG.frm b (Nat.lt_of_lt_of_le hb I.grow) (notlive b q2 fun i r Lc e1 e2 _ e4 em => q3 i r Lc e1 e2 e4 em)
      refine ⟨k1.trans q1, k2, fun i ri Lc e1 e2 e3 em => ?_⟩
      have e : i ≠ j := by omega
      rw [mold i e3.lt e] at em
      exact q3 i ri Lc (M.old e1 e) (by omega) e3 em
    grow := Nat.le_trans I.grow hG.size }

/-- One operation that is ready. -/
theorem Inv.step (hcall : CallOK P N0 w0 call) (F : Run P call ops s d' dd val) (I : Inv P N0 w0 ops s dd val ms ws L p m a w) {L' : Nat → Bool} {j : Nat} {oj : Oper} {mj : Nat} (Y : Rdy ops L j oj mj) (M : More L L' j) {K : Act → World → Prop} {Q : Exit → Act → World → Prop}
    (hK : ∀ p' m' a' w', Inv P N0 w0 ops s dd val ms ws L' p' m' a' w' → K a' w') : wpOp P ops Q j K a w := by
  unfold wpOp
  rw [Y.op]
  dsimp only
  have hjn : j < ops.size := (Array.getElem?_eq_some_iff.1 Y.op).1
  have hsel : ∀ cs b, oj.op ≠ .select cs b := fun cs b => by
    have := F.ok
    simp only [regOK, Bool.and_eq_true] at this
    exact Region.noSelect_spec this.1 j oj cs b Y.op
  have hev := I.srel.ev
  have hops := I.ev' F Y
  have hwant := I.want' F Y
  have nohv : isHeavy (kindOf P oj) = false → ¬ Hv P ops dd j := fun h ⟨o', h1, h2, _⟩ => by
    rw [Y.op] at h1; injection h1 with h1; subst h1; rw [h] at h2; cases h2
  have nohw : wantA (dstOf ops) (dd j).env oj = some false → ¬ Hv P ops dd j := fun h ⟨o', h1, _, h2⟩ => by
    rw [Y.op] at h1; injection h1 with h1; subst h1; rw [h] at h2; cases h2
  have noal : kindOf P oj ≠ .alloc → ∀ r, ¬ Al P ops s dd val j r := fun h r ⟨o', h1, h2, _⟩ => by
    rw [Y.op] at h1; injection h1 with h1; subst h1; exact h h2
  have noaw : wantA (dstOf ops) (dd j).env oj = some false → ∀ r, ¬ Al P ops s dd val j r := fun h r ⟨o', h1, _, h2, _⟩ => by
    rw [Y.op] at h1; injection h1 with h1; subst h1; rw [h] at h2; cases h2
  have wanted : ∀ b, wantA (dstOf ops) (dd j).env oj = some b → Region.wanted oj (yielded ops a.tmps) = b := fun b hb => wanted_ok I.srel.vals (by rw [hwant]; exact hb)
  -- the last operation that changed memory stands before j, if j must stand before such ones
  have hpj : (∀ k, isHeavy k = true → pairOK (kindOf P oj) k = false) → (isHeavy (kindOf P oj) = true ∨ ¬ Hv P ops dd j) → p ≤ j := fun hpair hor => by
    rcases I.last with h | ⟨q, h, hq, hLq⟩
    · omega
    · rcases Nat.lt_trichotomy q j with h1 | h1 | h1
      · omega
      · subst h1; rw [Y.out] at hLq; cases hLq
      · obtain ⟨oq, hoq, hkq, hwq⟩ := hq
        obtain ⟨mq, hmq⟩ := mask_of hoq
        rcases regOK_pair F.ok h1 Y.op hoq hmq with hh | ⟨hh, _⟩
        · have := Y.up q mq hmq hLq hh
          rw [Y.out] at this; cases this
        · rw [hpair _ hkq] at hh; cases hh
  cases F.fact j oj mj Y.op Y.mask with
  | skip hw hv hd =>
    rw [wanted false hw]
    exact hK p m _ w (I.quiet F Y M (nohw hw) (noaw hw) (by rw [hv]; exact .undef))
  | pure hw hk hv hd =>
    rw [wanted true hw]
    rw [pureA_congr hsel hops] at hv
    exact .inl (val_wp (pure_ok (m := m) (w := w) hev hv) fun v' hv' => hK p m _ w (I.quiet F Y M (nohv (by rw [hk]; rfl)) (noal (by rw [hk]; intro h; cases h)) hv'))
  | load hw hk hv hb hd =>
    rw [wanted true hw]
    have hl := F.loads Y.op Y.mask hk hw p I.ple (I.last.imp_right fun ⟨q, e1, e2, _⟩ => ⟨q, e1, e2⟩) (fun l hl h1 h2 => by
      cases hb : Nat.testBit mj l with
      | false => rfl
      | true => have := I.hv1 l hl (Y.anc l hb); omega) (fun l mk' h1 h2 hl hmk' => by
      cases hb : Nat.testBit mk' j with
      | false => rfl
      | true =>
        have := Y.up l mk' hmk' (I.hv2 l hl h2) hb
        rw [Y.out] at this; cases this)
    rw [loadA_congr hops] at hl
    exact .inl (val_wp (load_ok I.srel.rel hev hl) fun v' hv' => hK p m _ w (I.quiet F Y M (nohv (by rw [hk]; rfl)) (noal (by rw [hk]; intro h; cases h)) hv'))
  | alloc r hw hk hv hd =>
    rw [wanted true hw]
    have hr : Al P ops s dd val j r := ⟨oj, Y.op, hk, hw, hv⟩
    have nh := nohv (by rw [hk]; rfl)
    have hp := hpj (fun k hk' => by rw [hk]; cases k <;> first | (cases hk'; done) | rfl) (.inr nh)
    rw [allocA_congr hops] at hv
    exact .inl (alloc_wp I.srel.rel (I.free j hjn Y.out) (by have := I.room; omega) hev hv fun m' v' w' hv' hE hG => hK p m' _ w' (I.born F Y M nh hr hp hv' hE hG))
  | heavy h' hw hk hv hg hd =>
    rw [wanted true hw]
    have hj : Hv P ops dd j := ⟨oj, Y.op, hk, hw⟩
    have hp := hpj (fun k hk' => by cases hkj : kindOf P oj <;> rw [hkj] at hk <;> first | (cases hk; done) | (cases k <;> first | (cases hk'; done) | rfl)) (.inl hk)
    have before : ∀ i oi, i < j → ops[i]? = some oi → pairOK (kindOf P oi) (kindOf P oj) = false → L i = true := fun i oi hi hoi hpr => by
      rcases regOK_pair F.ok hi hoi Y.op Y.mask with hh | ⟨hh, _⟩
      · exact Y.anc i hh
      · rw [hpr] at hh; cases hh
    have hvs : ∀ i, Hv P ops dd i → i < j → L i = true := fun i ⟨oi, hoi, hki, _⟩ hi => before i oi hi hoi (by
      cases hkj : kindOf P oj <;> rw [hkj] at hk <;> first | (cases hk; done) | (cases hki' : kindOf P oi <;> rw [hki'] at hki <;> first | (cases hki; done) | rfl))
    have als : ∀ i r, Al P ops s dd val i r → i < j → L i = true := fun i r ⟨oi, hoi, hki, _⟩ hi => before i oi hi hoi (by
      rw [hki]
      cases hkj : kindOf P oj <;> rw [hkj] at hk <;> first | (cases hk; done) | rfl)
    obtain ⟨h1, h2, h3⟩ := I.act F (j - p) (by omega) (fun l a b hl => by have := I.hv1 l hl (hvs l hl (by omega)); omega) (fun l r a b hr => als l r hr (by omega))
    rw [show p + (j - p) = j by omega] at h1 h2 h3
    rw [(heavyA_congr (call := call) (P := P) hops).2] at hv
    have hh : (dd (j + 1)).hb = h' := by rw [hd]
    exact .inl (heavy_wp hcall h1 (I.free j hjn Y.out) (by have := I.room; omega) hev hv fun m' v' w' hv' hle hrest hnext hG => hK (j + 1) m' _ w' (I.loud F Y M hj hp hvs h3 h2 hh hv' hle hrest hnext hG))

theorem getD_out {listed : Array Bool} {j : Nat} (hs : j < listed.size) (h : listed.getD j true = false) : listed.getD j false = false := by
  simpa [hs] using h
theorem getD_in {listed : Array Bool} {j : Nat} (hs : j < listed.size) (h : listed.getD j false = false) : listed.getD j true = false := by
  simpa [hs] using h

theorem Inv.any (hcall : CallOK P N0 w0 call) (F : Run P call ops s d' dd val) {Q : Exit → Act → World → Prop} (hQ : ∀ m' a' w', SRel P N0 w0 m' d'.env s.n d'.h a' w' → Went P N0 w0 ms s.h ws m' d'.h w' → Q .normal a' w') :
    ∀ (fuel : Nat) (us : List Nat) (listed : Array Bool) (p : Nat) (m : Mu) (a : Act) (w : World), listed.size = ops.size → us.length ≤ fuel → (∀ i, i < ops.size → listed.getD i false = false → i ∈ us) → Inv P N0 w0 ops s dd val ms ws (fun i => listed.getD i false) p m a w →
      wpAny P .any ops Q fuel listed a w := by
  intro fuel
  induction fuel with
  | zero =>
    intro us listed p m a w hs hl hus I
    have hnil : us = [] := List.eq_nil_of_length_eq_zero (by omega)
    subst hnil
    have hall : ∀ i, i < ops.size → listed.getD i false = true := fun i hi => by
      cases hb : listed.getD i false with
      | true => rfl
      | false => exact absurd (hus i hi hb) (by simp)
    obtain ⟨h1, h2⟩ := I.done F hall
    refine ⟨List.eq_nil_iff_forall_not_mem.2 fun j hj => ?_, hQ m a w h1 h2⟩
    obtain ⟨h3, o, ho, _⟩ := mem_ready.1 hj
    have hjn : j < ops.size := (Array.getElem?_eq_some_iff.1 ho).1
    have := hall j hjn
    rw [getD_out (by omega) h3] at this; cases this
  | succ fuel ih =>
    intro us listed p m a w hs hl hus I
    refine ⟨fun hnil => ?_, fun j hj => ?_⟩
    · have hall : ∀ i, i < ops.size → listed.getD i false = true := by
        intro i
        induction i using Nat.strongRecOn with
        | _ i ihi =>
          intro hi
          cases hb : listed.getD i false with
          | true => rfl
          | false =>
            have ho : ops[i]? = some ops[i] := by simp
            have : i ∈ Region.ready .any ops listed := mem_ready.2 ⟨getD_in (by omega) hb, _, ho, fun e he hbe => by
              have hlt := regOK_back F.ok ho e he hbe
              exact ihi e.on hlt (by omega)⟩
            rw [hnil] at this; cases this
      obtain ⟨h1, h2⟩ := I.done F hall
      exact hQ m a w h1 h2
    · obtain ⟨h3, o, ho, he⟩ := mem_ready.1 hj
      have hjn : j < ops.size := (Array.getElem?_eq_some_iff.1 ho).1
      have hout := getD_out (by omega) h3
      obtain ⟨mj, Y⟩ := I.rdy ho hout he
      have M : More (fun i => listed.getD i false) (fun i => (listed.setIfInBounds j true).getD i false) j :=
        ⟨by simp [hs, hjn], fun i hi => getD_set_ne false (Ne.symm hi)⟩
      have hmem := hus j hjn hout
      refine I.step hcall F Y M fun p' m' a' w' I' => ih (us.erase j) _ p' m' a' w' (by simp [hs]) (by rw [List.length_erase_of_mem hmem]; omega) (fun i hi hb => ?_) I'
      have hne : i ≠ j := fun e => by subst e; rw [M.at_] at hb; cases hb
      rw [getD_set_ne false (Ne.symm hne)] at hb
      exact (List.mem_erase_of_ne hne).2 (hus i hi hb)
end

/-- A region whose order is open. -/
theorem draw_ok {P : Program} {N0 : Nat} {w0 : World} (hm : P.follows .mixedOrders = true) : DrawOK P N0 w0 := by
  intro call hcall id ops m s s' a w Q R e hQ
  obtain ⟨d', dd, val, F, rfl⟩ := drawA_run e
  refine wp_region_any hm ?_
  refine Inv.any hcall F (ms := m) (ws := w) (fun m' a' w' h1 h2 => hQ m' a' w' h1 h2 rfl) ops.size (List.range ops.size) _ 0 m a _ (by simp) (by simp) (fun i hi _ => by simpa using hi) ?_
  have hL : (fun i => (Array.replicate ops.size false).getD i false) = fun _ => false := by
    funext i
    by_cases hi : i < ops.size <;> simp [hi]
  rw [hL]
  have hE : ∀ k, E s (dstOf ops) val (fun _ => false) k = s.env := by
    intro k
    induction k with
    | zero => rfl
    | succ k ih => exact ih
  have hhb : (dd 0).hb = s.h.bump ops.size := by rw [F.zero]
  have R1 : HRel P.globals.size N0 w0 m s.h { w with drawn := w.drawn + 1 } := R.rel.drawn rfl rfl rfl rfl
  have R2 : HRel P.globals.size N0 w0 m (dd 0).hb { w with drawn := w.drawn + 1 } := by rw [hhb]; exact bump_rel R1 _
  exact
  { closed := fun i o _ h => by cases h
    srel := ⟨R.defers, R.size, fun t v hv => R.vals t v (by rw [hE] at hv; exact hv), R2⟩
    room := by rw [hhb]; exact Nat.le_refl _
    ple := Nat.zero_le _
    last := .inl rfl
    hv1 := fun i _ h => by cases h
    hv2 := fun i _ h => by omega
    free := fun i hi _ => R.rel.dom _ (by omega)
    pend := fun i r h => by cases h
    apart := fun i j r r' Lc Lc' h => by cases h
    later := .refl _ _
    frm := fun b hb hn => ⟨rfl, fun id o Lo hid em => hn id o Lo (by rw [hhb] at hid; exact hid) em, fun i r Lc h => by cases h⟩
    grow := Nat.le_refl _ }
end Go.Proofs.Ytagbpjegdfhmpaa.AM
