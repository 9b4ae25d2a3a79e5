/- The smaller machine's operations: those that make a row, and those that change memory. -/
import Derived.Test.YtagbpjegdfhmpaaAmSound9
set_option linter.unusedSimpArgs false
set_option linter.unusedVariables false
namespace Go.Proofs.Ytagbpjegdfhmpaa.AM
open Go.RowKit (Below)

section
variable {P : Program} {NG N0 : Nat} {w0 : World} {m : Mu} {h : H} {w : World} {nid : Nat} {ev : Operand → Option V} {ρ : Operand → Value}

theorem mks_of' {s : Sem Value} {s' : Sem Next} {v : V} {h' : H} (hx : s' = (do pure (.value (← s)))) (k : Yld P NG N0 w0 m h w nid s v h') : Mks P NG N0 w0 m h w nid s' v h' := by rw [hx]; exact mks_of k
theorem alloc_op (R : HRel NG N0 w0 m h w) (hf : m nid = none) (hn : nid < h.next) (hev : ∀ x v, ev x = some v → VRel m v (ρ x)) {o : Oper} {v : V} {r : Row} (e : allocA P ev o nid = some (v, r)) :
    Mks P NG N0 w0 m h w nid (execOp ρ o) v (h.set nid (some (.row r))) := by
  obtain ⟨dst, op, type, pos, after, guard⟩ := o
  cases op <;> simp only [allocA] at e <;> first | (cases e; done) | skip
  case alloc t =>
    replace e := bnd_some.1 e; obtain ⟨z, h1, e⟩ := e
    injection e with e
    have := alloc_ok (P := P) R hf hn h1
    rw [e] at this
    exact mks_of this
  case box t x =>
    replace e := bnd_some.1 e; obtain ⟨a, h1, e⟩ := e
    injection e with e
    have := box_ok (P := P) R hf hn (t := t) (hev _ _ h1)
    rw [e] at this
    exact mks_of this
  case buildSlice t len ps =>
    replace e := bnd_some.1 e; obtain ⟨vs, h1, e⟩ := e
    have hp := partsOf_ok hev h1
    have hp' : PsRel m vs (ps.map fun (i, x) => (i, ρ x)).toList := by rw [Array.toList_map]; exact hp
    have k := buildSlice_ok (P := P) R hf hn e hp'
    exact mks_of' rfl k
  case makeSlice t l c =>
    replace e := bnd_some.1 e; obtain ⟨a, h1, e⟩ := e
    replace e := bnd_some.1 e; obtain ⟨b, h2, e⟩ := e
    exact mks_of' (s := Instr.makeSlice t (ρ l) (ρ c)) rfl (makeSlice_ok R hf hn e (hev _ _ h1) (hev _ _ h2))
  case convert s d x =>
    replace e := bnd_some.1 e; obtain ⟨a, h1, e⟩ := e
    exact mks_of' (s := Go.convert s d (ρ x)) rfl (strBytes_ok R hf hn e (hev _ _ h1))

/-- The operation changes memory: behind it stands h', and v is given. -/
def Chg (P : Program) (NG N0 : Nat) (w0 : World) (m : Mu) (h : H) (w : World) (nid : Nat) (s : Sem Next) (v : V) (h' : H) : Prop :=
  ∃ m' w' v', Ext m m' nid ∧ Good NG N0 w0 m h w m' h' w' ∧ VRel m' v v' ∧ (s.run P w = .ok (.value v') w' ∨ (s.run P w = .ok .skip w' ∧ v' = undef))
theorem chg_of {s : Sem Value} {v : V} {h' : H} (k : Yld P NG N0 w0 m h w nid s v h') : Chg P NG N0 w0 m h w nid (do pure (.value (← s))) v h' := by
  obtain ⟨m', w', v', h1, h2, h3, h4⟩ := k
  exact ⟨m', w', v', h1, h2, h3, .inl (by simp [h4])⟩

theorem copy_ok (R : HRel NG N0 w0 m h w) {dt : TypeId} {d x v : V} {d' x' : Value} {h' : H} {ats : Array TypeId} {ty : TypeId} (ha : ats[0]? = some dt)
    (e : copyA P dt d x h = some (v, h')) (hd : VRel m d d') (hx : VRel m x x') : Yld P NG N0 w0 m h w nid (Builtin.copy_ ats ty #[d', x']) v h' := by
  replace e := bnd_some.1 e; obtain ⟨td, hu, e⟩ := e
  split at e
  case h_2 => cases e
  case h_1 el =>
    replace e := bnd_some.1 e; obtain ⟨k, hk, e⟩ := e
    replace e := bnd_some.1 e; obtain ⟨n, hn, e⟩ := e
    replace e := bnd_some.1 e; obtain ⟨q, hq, e⟩ := e
    replace e := bnd_some.1 e; obtain ⟨new, hnew, e⟩ := e
    have hlen := len_ok (P := P) (w := w) hn hx
    obtain ⟨new', h1, h2⟩ := first_ok (P := P) R hnew hx
    cases d <;> first | (cases e; done) | skip
    case nilsl =>
      cases hd
      injection hq with hq; subst hq
      injection e with e; injection e with e1 e2; subst e1; subst e2
      refine ⟨m, w, _, Ext.refl m _, R.same, .int _ _, ?_⟩
      have h1' : (Builtin.firstCells k 0 x').run P w = .ok new' w := by simpa using h1
      simp [Builtin.copy_, ha, run_underlying hu, hlen, run_sizeOf hk, h1', goInt]
    case sl id off len cap =>
      obtain ⟨L, c, hm, rfl, _⟩ := sl_inv hd
      injection hq with hq; subst hq
      replace e := bnd_some.1 e; obtain ⟨h1', hp, e⟩ := e
      injection e with e; injection e with e1 e2; subst e1; subst e2
      obtain ⟨w', q1, q2⟩ := putCells_ok (P := P) R hp h2 hm
      refine ⟨m, w', _, Ext.refl m _, q2, .int _ _, ?_⟩
      simp [Builtin.copy_, ha, run_underlying hu, hlen, run_sizeOf hk, h1, q1, goInt]

theorem clear_ok (R : HRel NG N0 w0 m h w) {t : TypeId} {s v : V} {s' : Value} {h' : H} {ats : Array TypeId} {ty : TypeId} (ha : ats[0]? = some t)
    (e : clearA P t s h = some (v, h')) (hs : VRel m s s') : Yld P NG N0 w0 m h w nid (Builtin.clear_ ats ty #[s']) v h' := by
  replace e := bnd_some.1 e; obtain ⟨td, hu, e⟩ := e
  split at e
  case h_2 => cases e
  case h_1 el =>
    replace e := bnd_some.1 e; obtain ⟨z, hz, e⟩ := e
    obtain ⟨z', h1, h2⟩ := run_zeroValue hz w
    cases s <;> first | (cases e; done) | skip
    case nilsl =>
      cases hs
      injection e with e; injection e with e1 e2; subst e1; subst e2
      exact ⟨m, w, .tuple #[], Ext.refl m _, R.same, .tup [] [] .nil, by simp [Builtin.clear_, ha, run_underlying hu]⟩
    case sl id off len cap =>
      obtain ⟨L, c, hm, rfl, _⟩ := sl_inv hs
      replace e := bnd_some.1 e; obtain ⟨h1', hp, e⟩ := e
      replace e := grd_some.1 e; obtain ⟨hg, e⟩ := e
      injection e with e; injection e with e1 e2; subst e1; subst e2
      simp only [Bool.and_eq_true, Bool.not_eq_true'] at hg
      have hl0 : len ≠ 0 := by intro h0; subst h0; cases hg.1
      have hz0 : 0 < z.cells.length := by
        rcases Nat.eq_zero_or_pos z.cells.length with h0 | h0
        · rw [h0] at hg; cases hg.2
        · exact h0
      have hr := rep_ok (m := m) (z := z.cells) (z' := z'.cells) (h2 m).cells hz0 len
      have hzl := (h2 m).cells.length
      simp only [Array.length_toList] at hzl
      obtain ⟨w', q1, q2⟩ := putCells_ok (P := P) R hp hr hm
      refine ⟨m, w', .tuple #[], Ext.refl m _, q2, .tup [] [] .nil, ?_⟩
      have e0 : (Builtin.zeroCells z'.cells len) = (Array.range (len * z.cells.length)).map (z'.cells[· % z'.cells.size]!) := by unfold Builtin.zeroCells; rw [hzl]
      cases len with
      | zero => exact absurd rfl hl0
      | succ len =>
        have q1' : (storeCells ⟨L.b, L.d + off, none⟩ (Builtin.zeroCells z'.cells (len + 1)).toList).run P w = .ok () w' := by rw [e0]; exact q1
        simp [Builtin.clear_, ha, run_underlying hu, h1, q1']

theorem mark_ok (R : HRel NG N0 w0 m h w) {s d : TypeId} {x v : V} {x' : Value} {h' : H} (e : markA P s d x h = some (v, h')) (hx : VRel m x x') :
    Yld P NG N0 w0 m h w nid (convert s d x') v h' := by
  replace e := bnd_some.1 e; obtain ⟨⟨id, off, len, cap⟩, hp, e⟩ := e
  obtain rfl := V.sl?_inv hp; dsimp only at *
  obtain ⟨L, c, hm, rfl, _⟩ := sl_inv hx
  replace e := bnd_some.1 e; obtain ⟨r, hr, e⟩ := e
  replace e := bnd_some.1 e; obtain ⟨sd, hs, e⟩ := e
  split at e
  case h_2 => cases e
  case h_1 el0 =>
    replace e := bnd_some.1 e; obtain ⟨dd, hd, e⟩ := e
    split at e
    case h_2 => cases e
    case h_1 el =>
      replace e := bnd_some.1 e; obtain ⟨ed, he, e⟩ := e
      split at e
      case h_2 => cases e
      case h_1 =>
        replace e := grd_some.1 e; obtain ⟨hg, e⟩ := e
        injection e with e; injection e with e1 e2; subst e1; subst e2
        simp only [Bool.and_eq_true, Bool.not_eq_true'] at hg
        obtain ⟨⟨⟨g1, g2⟩, g3⟩, g4⟩ := hg
        have g1 := Nat.eq_of_beq_eq_true g1
        have g3 := Nat.eq_of_beq_eq_true g3
        subst g1
        rw [hs] at hd; injection hd with hd; injection hd with hd; subst hd
        obtain ⟨hlt, hro, cc, fz, RR⟩ := row_of R hr hm
        have hsh := shape_of RR.at_
        have hfz : fz.1 = fz.2 := by
          rcases RR.frz with ⟨_, h2 | ⟨q, h1, rfl⟩⟩ | ⟨h1, _, _⟩
          · exact h2
          · rw [g3] at h1; have : q = 0 := by omega
            subst this; rfl
          · rw [g2] at h1; cases h1
        have hmk : (markStringish ⟨L.b, L.d + off, none⟩).run P w = .ok () (w.freeze { block := L.b, off := cc.size } 1) := by
          simp [markStringish, hsh]
        have hat : (w.freeze { block := L.b, off := cc.size } 1).heap[L.b]? = some (.cells cc r.elem (cc.size, cc.size + 1)) := by
          simp only [World.freeze]
          rw [if_neg (by omega)]
          show (w.heap.modify L.b _)[L.b]? = _
          rw [modify_at _ _ _ _ RR.at_]
          obtain ⟨f1, f2⟩ := fz
          dsimp only at hfz
          subst hfz
          simp
        have hS : Same1 L.b w (w.freeze { block := L.b, off := cc.size } 1) := by
          simp only [World.freeze]
          rw [if_neg (by omega)]
          exact ⟨rfl, rfl, rfl, by simp, fun k hk => modify_other _ _ _ _ hk⟩
        have hG := R.set (rowOf_some hr) hm g4 hS (o' := .row { r with st := true }) ⟨cc, (cc.size, cc.size + 1), { at_ := hat, sz := RR.sz, fits := RR.fits, ends := RR.ends, vals := RR.vals, frz := .inr ⟨rfl, g3, Nat.le_refl _⟩, ex := RR.ex }⟩
        refine ⟨m, _, _, Ext.refl m _, hG, hx, ?_⟩
        simp [convert, run_underlying hs, run_underlying he, hmk]
end
end Go.Proofs.Ytagbpjegdfhmpaa.AM
