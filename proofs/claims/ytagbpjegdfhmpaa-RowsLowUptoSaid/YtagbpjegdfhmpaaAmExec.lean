/- The smaller machine's regions and calls do what the program's do. -/
import Derived.Test.YtagbpjegdfhmpaaAmSound11
set_option linter.unusedSimpArgs false
set_option linter.unusedVariables false
namespace Go.Proofs.Ytagbpjegdfhmpaa.AM
open Go.RowKit (Below)

/-- m' says of the numbers below k what m says. -/
def Later (m m' : Mu) (k : Nat) : Prop := m.le m' ∧ ∀ id, id < k → m' id = m id
theorem Later.refl (m : Mu) (k : Nat) : Later m m k := ⟨Mu.le.refl m, fun _ _ => rfl⟩
theorem Later.trans {a b c : Mu} {k l : Nat} (h : Later a b k) (g : Later b c l) (hk : k ≤ l) : Later a c k := ⟨h.1.trans g.1, fun id hid => (g.2 id (by omega)).trans (h.2 id hid)⟩
theorem Later.mono {a b : Mu} {k l : Nat} (h : Later a b l) (hk : k ≤ l) : Later a b k := ⟨h.1, fun id hid => h.2 id (by omega)⟩
theorem Ext.later {m m' : Mu} {nid k : Nat} (h : Ext m m' nid) (hk : k ≤ nid) : Later m m' k := ⟨h.le, fun id hid => h.rest id (by omega)⟩

section
variable {P : Program} {N0 : Nat} {w0 : World}

structure SRel (P : Program) (N0 : Nat) (w0 : World) (m : Mu) (env : T V) (n : Nat) (h : H) (a : Act) (w : World) : Prop where
  defers : a.defers = []
  size : a.tmps.size = n
  vals : ∀ t v, env.get t = some v → ∃ v', a.tmps[t]? = some v' ∧ VRel m v v'
  rel : HRel P.globals.size N0 w0 m h w

theorem ev_ok {m : Mu} {env : T V} {a : Act} (hv : ∀ t v, env.get t = some v → ∃ v', a.tmps[t]? = some v' ∧ VRel m v v')
    (hg : ∀ g, g < P.globals.size → ∃ L, m g = some L ∧ L.b = g ∧ L.d = 0) : ∀ x v, evT P env x = some v → VRel m v (a.eval x) := by
  intro x v e
  cases x with
  | tmp t =>
    obtain ⟨v', h1, h2⟩ := hv t v e
    simpa [Act.eval, h1] using h2
  | const c => exact ofValue_rel e
  | global g =>
    replace e := grd_some.1 e; obtain ⟨h1, e⟩ := e
    injection e with e; subst e
    obtain ⟨L, h2, h3, h4⟩ := hg g (Nat.le_of_ble_eq_true h1)
    have := VRel.ptr (m := m) g 0 L h2
    rwa [h3, h4] at this
  | func f => injection e with e; subst e; exact VRel.func (.func f) [] [] [] [] .nil .nil
theorem SRel.ev {m : Mu} {env : T V} {n : Nat} {h : H} {a : Act} {w : World} (R : SRel P N0 w0 m env n h a w) : ∀ x v, evT P env x = some v → VRel m v (a.eval x) := ev_ok R.vals R.rel.glob

theorem put_vals {m m' : Mu} {env : T V} {n : Nat} {a : Act} {dst : Option Tmp} {v : V} {v' : Value} (hs : a.tmps.size = n) (hv : ∀ t v, env.get t = some v → ∃ v', a.tmps[t]? = some v' ∧ VRel m v v') (hle : m.le m') (hr : VRel m' v v') :
    (a.put dst v').tmps.size = n ∧ ∀ t u, (putT env n dst v).get t = some u → ∃ u', (a.put dst v').tmps[t]? = some u' ∧ VRel m' u u' := by
  have old : ∀ t u, env.get t = some u → ∃ u', a.tmps[t]? = some u' ∧ VRel m' u u' := fun t u h => by
    obtain ⟨u', h1, h2⟩ := hv t u h
    exact ⟨u', h1, h2.mono hle⟩
  cases dst with
  | none => exact ⟨hs, old⟩
  | some d =>
    refine ⟨by simp [Act.put, hs], fun t u h => ?_⟩
    simp only [putT, osel, Act.put] at h ⊢
    cases hb : Nat.blt d n with
    | false =>
      rw [hb] at h
      obtain ⟨u', h1, h2⟩ := old t u h
      refine ⟨u', ?_, h2⟩
      have hd : ¬ d < a.tmps.size := by
        intro hlt; rw [hs] at hlt
        have : Nat.blt d n = true := Nat.ble_eq_true_of_le hlt
        rw [hb] at this; cases this
      rw [Array.getElem?_setIfInBounds]
      by_cases hdt : d = t
      · subst hdt
        rw [if_pos rfl, if_neg hd]
        have : a.tmps[d]? = none := Array.getElem?_eq_none (Nat.le_of_not_lt hd)
        rw [this] at h1; cases h1
      · rw [if_neg hdt]; exact h1
    | true =>
      rw [hb] at h
      have hd : d < a.tmps.size := by rw [hs]; exact Nat.le_of_ble_eq_true hb
      by_cases hdt : t = d
      · subst hdt
        have e := T.put_get env (some v) t
        have h : (env.put t (some v)).get t = some u := h
        rw [e] at h
        injection h with h; subst h
        exact ⟨v', by simp [hd], hr⟩
      · have h : (env.put d (some v)).get t = some u := h
        rw [T.put_get_other _ _ _ _ (Ne.symm hdt)] at h
        obtain ⟨u', h1, h2⟩ := old t u h
        exact ⟨u', by rw [Array.getElem?_setIfInBounds_ne (Ne.symm hdt)]; exact h1, h2⟩

/-- What stands behind an operation, a region, a call: later numbers, and all kept. -/
structure Went (P : Program) (N0 : Nat) (w0 : World) (m : Mu) (h : H) (w : World) (m' : Mu) (h' : H) (w' : World) : Prop where
  later : Later m m' h.next
  next : h.next ≤ h'.next
  good : Good P.globals.size N0 w0 m h w m' h' w'
theorem Went.trans {m1 m2 m3 : Mu} {h1 h2 h3 : H} {w1 w2 w3 : World} (a : Went P N0 w0 m1 h1 w1 m2 h2 w2) (b : Went P N0 w0 m2 h2 w2 m3 h3 w3) : Went P N0 w0 m1 h1 w1 m3 h3 w3 :=
  ⟨a.later.trans b.later a.next, Nat.le_trans a.next b.next, a.good.trans b.good⟩

/-- What a call of a function comes to. -/
def CallOK (P : Program) (N0 : Nat) (w0 : World) (call : FuncId → List V → H → Option (V × H)) : Prop :=
  ∀ g args h v h', call g args h = some (v, h') → ∀ m w args', HRel P.globals.size N0 w0 m h w → VsRel m args args' →
    ((callFunc g args'.toArray).run P w = .ok (.enter g args'.toArray) w ∧ Calls P g args'.toArray w (fun e w' => ∃ m' v', e = .returned v' ∧ VRel m' v v' ∧ Went P N0 w0 m h w m' h' w')) ∨
    (∃ v' m' w', (callFunc g args'.toArray).run P w = .ok (.value v') w' ∧ VRel m' v v' ∧ Went P N0 w0 m h w m' h' w')

theorem bump_rel {NG : Nat} {m : Mu} {h : H} {w : World} (R : HRel NG N0 w0 m h w) (k : Nat) : HRel NG N0 w0 m (h.bump k) w :=
  ⟨R.below, R.n0, fun id hid => R.dom id (by have : h.next + k ≤ id := hid; omega), R.objs, R.inj, R.glob⟩

/-- The builtins that change memory. -/
theorem arg2_ok {m : Mu} {ev : Operand → Option V} {ρ : Operand → Value} (hev : ∀ x v, ev x = some v → VRel m v (ρ x)) {c : Call} {p : V × V} (e : arg2 ev c = some p) :
    ∃ a b, c.args.map ρ = #[a, b] ∧ VRel m p.1 a ∧ VRel m p.2 b := by
  replace e := grd_some.1 e; obtain ⟨hsz, e⟩ := e
  have hsz := Nat.eq_of_beq_eq_true hsz
  replace e := bnd_some.1 e; obtain ⟨x, hx, e⟩ := e
  replace e := bnd_some.1 e; obtain ⟨y, hy, e⟩ := e
  replace e := bnd_some.1 e; obtain ⟨u, hu, e⟩ := e
  replace e := bnd_some.1 e; obtain ⟨v, hv, e⟩ := e
  injection e with e; subst e
  refine ⟨ρ x, ρ y, ?_, hev _ _ hu, hev _ _ hv⟩
  apply Array.ext
  · simp [hsz]
  · intro i h1 h2
    have h2' : i < 2 := by simpa using h2
    rcases Nat.lt_or_ge i 1 with hi | hi
    · have : i = 0 := by omega
      subst this
      have q := getElem?_map (ρ := ρ) hx
      rw [Array.getElem?_eq_getElem h1] at q
      injection q
    · have : i = 1 := by omega
      subst this
      have q := getElem?_map (ρ := ρ) hy
      rw [Array.getElem?_eq_getElem h1] at q
      injection q
theorem arg1_eq {ρ : Operand → Value} {c : Call} {x : Operand} (hsz : c.args.size = 1) (hx : c.args[0]? = some x) : c.args.map ρ = #[ρ x] := by
  apply Array.ext
  · simp [hsz]
  · intro i h1 h2
    have : i = 0 := by simp at h2; omega
    subst this
    have q := getElem?_map (ρ := ρ) hx
    rw [Array.getElem?_eq_getElem h1] at q
    injection q
theorem loudB_ok {m : Mu} {h : H} {w : World} {nid : Nat} {ev : Operand → Option V} {ρ : Operand → Value} (R : HRel P.globals.size N0 w0 m h w) (hf : m nid = none) (hn : nid < h.next) (hev : ∀ x v, ev x = some v → VRel m v (ρ x))
    {c : Call} {b : Builtin} {v : V} {h' : H} {ty : TypeId} (hc : c.callee = .builtin b) (e : loudB P ev c b nid h = some (v, h')) :
    Mks P P.globals.size N0 w0 m h w nid (do let d ← resolve ρ c ty; invoke d.target d.args) v h' := by
  cases b <;> simp only [loudB] at e <;> first | (cases e; done) | skip
  case append =>
    replace e := bnd_some.1 e; obtain ⟨p, hp, e⟩ := e
    replace e := bnd_some.1 e; obtain ⟨st, hst, e⟩ := e
    obtain ⟨a, b, hab, ha, hb⟩ := arg2_ok hev hp
    obtain ⟨m', w', v', k1, k2, k3, k4⟩ := append_ok (P := P) (ty := ty) R hf hn hst rfl e ha hb
    exact ⟨m', w', v', k1, k2, k3, by simp [resolve, hc, invoke, builtin, hab, k4]⟩
  case copy =>
    replace e := bnd_some.1 e; obtain ⟨p, hp, e⟩ := e
    replace e := bnd_some.1 e; obtain ⟨st, hst, e⟩ := e
    obtain ⟨a, b, hab, ha, hb⟩ := arg2_ok hev hp
    obtain ⟨m', w', v', k1, k2, k3, k4⟩ := copy_ok (P := P) (nid := nid) (ty := ty) R hst e ha hb
    exact ⟨m', w', v', k1, k2, k3, by simp [resolve, hc, invoke, builtin, hab, k4]⟩
  case clear =>
    replace e := grd_some.1 e; obtain ⟨hsz, e⟩ := e
    replace e := bnd_some.1 e; obtain ⟨x, hx, e⟩ := e
    replace e := bnd_some.1 e; obtain ⟨s, hs, e⟩ := e
    replace e := bnd_some.1 e; obtain ⟨t, ht, e⟩ := e
    have hab := arg1_eq (ρ := ρ) (Nat.eq_of_beq_eq_true hsz) hx
    obtain ⟨m', w', v', k1, k2, k3, k4⟩ := clear_ok (P := P) (nid := nid) (ty := ty) R ht e (hev _ _ hs)
    exact ⟨m', w', v', k1, k2, k3, by simp [resolve, hc, invoke, builtin, hab, k4]⟩
  case unsafeString =>
    replace e := bnd_some.1 e; obtain ⟨p, hp, e⟩ := e
    replace e := bnd_some.1 e; obtain ⟨st, hst, e⟩ := e
    obtain ⟨a, b, hab, ha, hb⟩ := arg2_ok hev hp
    obtain ⟨m', w', v', k1, k2, k3, k4⟩ := unsafeStr_ok (P := P) (nid := nid) (ty := ty) R hst e ha hb
    exact ⟨m', w', v', k1, k2, k3, by simp [resolve, hc, invoke, builtin, hab, k4]⟩

theorem putCells_next {h h' : H} {id off : Nat} {vs : List V} (e : putCells h id off vs = some h') : h'.next = h.next := by
  replace e := bnd_some.1 e; obtain ⟨_, _, e⟩ := e
  replace e := grd_some.1 e; obtain ⟨_, e⟩ := e
  injection e with e; subst e; rfl
theorem append_next {h h' : H} {st : TypeId} {xt : Option TypeId} {s x v : V} {nid : Nat} (e : appendA P st xt s x nid h = some (v, h')) : h'.next = h.next := by
  replace e := bnd_some.1 e; obtain ⟨_, _, e⟩ := e
  replace e := bnd_some.1 e; obtain ⟨d, _, e⟩ := e
  split at e
  case h_2 => cases e
  replace e := bnd_some.1 e; obtain ⟨_, _, e⟩ := e
  replace e := bnd_some.1 e; obtain ⟨_, _, e⟩ := e
  replace e := bnd_some.1 e; obtain ⟨_, _, e⟩ := e
  replace e := bnd_some.1 e; obtain ⟨q, _, e⟩ := e
  replace e := grd_some.1 e; obtain ⟨_, e⟩ := e
  cases s <;> first | (cases e; done) | skip
  case nilsl =>
    rename_i el k by_ z _ _ _ _
    have e : cond (Nat.beq q.1 0) (some (V.nilsl, h)) (grd _ (some (_, _))) = some (v, h') := e
    cases hb : Nat.beq q.1 0 <;> rw [hb] at e
    · have e : grd _ (some (_, _)) = some (v, h') := e
      replace e := grd_some.1 e; obtain ⟨_, e⟩ := e
      injection e with e; injection e with e1 e2; subst e2; rfl
    · injection e with e; injection e with e1 e2; subst e2; rfl
  case sl id off len cap =>
    cases cap with
    | some c =>
      have e : cond (Nat.ble (len + q.1) c) (appInA _ id off len q.1 (some c) q.2 h) (appGrowA _ _ _ _ len q.1 q.2 nid h) = some (v, h') := e
      cases hb : Nat.ble (len + q.1) c <;> rw [hb] at e
      · replace e := grd_some.1 (show grd _ _ = some (v, h') from e); obtain ⟨_, e⟩ := e
        replace e := bnd_some.1 e; obtain ⟨_, _, e⟩ := e
        injection e with e; injection e with e1 e2; subst e2; rfl
      · replace e := bnd_some.1 (show (putCells h id _ _).bind _ = some (v, h') from e); obtain ⟨_, hp, e⟩ := e
        injection e with e; injection e with e1 e2; subst e2; exact putCells_next hp
    | none =>
      have e : cond (Nat.beq q.1 0) (some (V.sl id off len none, h)) ((rowOf h id).bind fun r => cond (Nat.ble (off + (len + q.1) * _) r.cs.length) (grd (Nat.beq r.sz _) (appInA _ id off len q.1 none q.2 h)) (appMoveA _ _ _ _ id off len q.1 r q.2 nid h)) = some (v, h') := e
      cases hb : Nat.beq q.1 0 <;> rw [hb] at e
      · replace e := bnd_some.1 (show (rowOf h id).bind _ = some (v, h') from e); obtain ⟨r, _, e⟩ := e
        cases hb' : Nat.ble (off + (len + q.1) * _) r.cs.length <;> rw [hb'] at e
        · replace e := grd_some.1 (show grd _ _ = some (v, h') from e); obtain ⟨_, e⟩ := e
          replace e := bnd_some.1 e; obtain ⟨_, _, e⟩ := e
          injection e with e; injection e with e1 e2; subst e2; rfl
        · replace e := grd_some.1 (show grd _ _ = some (v, h') from e); obtain ⟨_, e⟩ := e
          replace e := bnd_some.1 e; obtain ⟨_, hp, e⟩ := e
          injection e with e; injection e with e1 e2; subst e2; exact putCells_next hp
      · injection e with e; injection e with e1 e2; subst e2; rfl
theorem loudB_next {h h' : H} {ev : Operand → Option V} {c : Call} {b : Builtin} {nid : Nat} {v : V} (e : loudB P ev c b nid h = some (v, h')) : h'.next = h.next := by
  cases b <;> simp only [loudB] at e <;> first | (cases e; done) | skip
  case append =>
    replace e := bnd_some.1 e; obtain ⟨_, _, e⟩ := e
    replace e := bnd_some.1 e; obtain ⟨_, _, e⟩ := e
    exact append_next e
  case copy =>
    replace e := bnd_some.1 e; obtain ⟨⟨d, x⟩, _, e⟩ := e
    replace e := bnd_some.1 e; obtain ⟨_, _, e⟩ := e
    replace e := bnd_some.1 e; obtain ⟨td, _, e⟩ := e
    split at e
    case h_2 => cases e
    replace e := bnd_some.1 e; obtain ⟨_, _, e⟩ := e
    replace e := bnd_some.1 e; obtain ⟨_, _, e⟩ := e
    replace e := bnd_some.1 e; obtain ⟨_, _, e⟩ := e
    replace e := bnd_some.1 e; obtain ⟨_, _, e⟩ := e
    cases d <;> first | (cases e; done) | skip
    · replace e := bnd_some.1 e; obtain ⟨_, hp, e⟩ := e
      injection e with e; injection e with e1 e2; subst e2; exact putCells_next hp
    · injection e with e; injection e with e1 e2; subst e2; rfl
  case clear =>
    replace e := grd_some.1 e; obtain ⟨_, e⟩ := e
    replace e := bnd_some.1 e; obtain ⟨_, _, e⟩ := e
    replace e := bnd_some.1 e; obtain ⟨s, _, e⟩ := e
    replace e := bnd_some.1 e; obtain ⟨_, _, e⟩ := e
    replace e := bnd_some.1 e; obtain ⟨td, _, e⟩ := e
    split at e
    case h_2 => cases e
    replace e := bnd_some.1 e; obtain ⟨_, _, e⟩ := e
    cases s <;> first | (cases e; done) | skip
    · replace e := bnd_some.1 e; obtain ⟨_, hp, e⟩ := e
      replace e := grd_some.1 e; obtain ⟨_, e⟩ := e
      injection e with e; injection e with e1 e2; subst e2; exact putCells_next hp
    · injection e with e; injection e with e1 e2; subst e2; rfl
  case unsafeString =>
    replace e := bnd_some.1 e; obtain ⟨_, _, e⟩ := e
    replace e := bnd_some.1 e; obtain ⟨_, _, e⟩ := e
    replace e := bnd_some.1 e; obtain ⟨_, _, e⟩ := e
    replace e := bnd_some.1 e; obtain ⟨_, _, e⟩ := e
    replace e := bnd_some.1 e; obtain ⟨_, _, e⟩ := e
    replace e := bnd_some.1 e; obtain ⟨td, _, e⟩ := e
    split at e
    case h_2 => cases e
    replace e := grd_some.1 e; obtain ⟨_, e⟩ := e
    replace e := bnd_some.1 e; obtain ⟨_, _, e⟩ := e
    injection e with e; injection e with e1 e2; subst e2; rfl
theorem mark_next {h h' : H} {s d : TypeId} {x v : V} (e : markA P s d x h = some (v, h')) : h'.next = h.next := by
  replace e := bnd_some.1 e; obtain ⟨_, _, e⟩ := e
  replace e := bnd_some.1 e; obtain ⟨_, _, e⟩ := e
  replace e := bnd_some.1 e; obtain ⟨sd, _, e⟩ := e
  split at e
  case h_2 => cases e
  replace e := bnd_some.1 e; obtain ⟨dd, _, e⟩ := e
  split at e
  case h_2 => cases e
  replace e := bnd_some.1 e; obtain ⟨ed, _, e⟩ := e
  split at e
  case h_2 => cases e
  replace e := grd_some.1 e; obtain ⟨_, e⟩ := e
  injection e with e; injection e with e1 e2; subst e2; rfl

/-- An operation that changes memory, in a walk. -/
theorem heavy_wp {call : FuncId → List V → H → Option (V × H)} (hcall : CallOK P N0 w0 call) {m : Mu} {h : H} {w : World} {nid : Nat} {ev : Operand → Option V} {a : Act} (R : HRel P.globals.size N0 w0 m h w) (hf : m nid = none) (hn : nid < h.next)
    (hev : ∀ x v, ev x = some v → VRel m v (a.eval x)) {o : Oper} {v : V} {h' : H} {k : Kd} (e : heavyA P call ev k o nid h = some (v, h')) {K : Act → World → Prop} {Q : Exit → Act → World → Prop}
    (hK : ∀ m' v' w', VRel m' v v' → m.le m' → (∀ id, id < h.next → id ≠ nid → m' id = m id) → h.next ≤ h'.next → Good P.globals.size N0 w0 m h w m' h' w' → K (a.put o.dst v') w') : o.wp P a w K Q := by
  unfold Oper.wp
  cases k <;> simp only [heavyA] at e <;> first | (cases e; done) | skip
  case loud =>
    obtain ⟨dst, op, type, pos, after, guard⟩ := o
    cases op <;> simp only [loudA] at e <;> first | (cases e; done) | skip
    case store t x y =>
      replace e := bnd_some.1 e; obtain ⟨p, hp, e⟩ := e
      replace e := bnd_some.1 e; obtain ⟨u, hu, e⟩ := e
      replace e := bnd_some.1 e; obtain ⟨h1, hh, e⟩ := e
      injection e with e; injection e with e1 e2; subst e1; subst e2
      obtain ⟨m', w', k1, k2, k3⟩ := storeAt_ok (P := P) (nid := nid) R hh (hev _ _ hp) (hev _ _ hu)
      have hrun : (execOp a.eval ⟨dst, .store t x y, type, pos, after, guard⟩).run P w = .ok .skip w' := by
        simp only [execOp, Sem.run_bind, k3, Result.andThen_ok, Sem.run_pure]
      rw [hrun, Oper.upon_skip]
      have hnx : h.next ≤ h1.next := by
        replace hh := bnd_some.1 hh; obtain ⟨_, _, hh⟩ := hh
        replace hh := bnd_some.1 hh; obtain ⟨_, _, hh⟩ := hh
        replace hh := grd_some.1 hh; obtain ⟨_, hh⟩ := hh
        exact Nat.le_of_eq (putCells_next hh).symm
      exact hK m' undef w' .undef k1.le (fun id _ hne => k1.rest id hne) hnx k2
    case convert s d x =>
      replace e := bnd_some.1 e; obtain ⟨u, hu, e⟩ := e
      obtain ⟨m', w', v', k1, k2, k3, k4⟩ := mark_ok (P := P) (nid := nid) R e (hev _ _ hu)
      have hrun : (execOp a.eval ⟨dst, .convert s d x, type, pos, after, guard⟩).run P w = .ok (.value v') w' := by
        simp only [execOp, Sem.run_bind, k4, Result.andThen_ok, Sem.run_pure]
      rw [hrun, Oper.upon_value]
      exact hK m' v' w' k3 k1.le (fun id _ hne => k1.rest id hne) (Nat.le_of_eq (mark_next e).symm) k2
    case call c =>
      split at e
      case h_2 => cases e
      case h_1 b hc =>
        obtain ⟨m', w', v', k1, k2, k3, k4⟩ := loudB_ok (ty := type) R hf hn hev hc e
        have hrun : (execOp a.eval ⟨dst, .call c, type, pos, after, guard⟩).run P w = .ok (.value v') w' := k4
        rw [hrun, Oper.upon_value]
        exact hK m' v' w' k3 k1.le (fun id _ hne => k1.rest id hne) (Nat.le_of_eq (loudB_next e).symm) k2
  case call =>
    replace e := bnd_some.1 e; obtain ⟨⟨g, args⟩, hg, e⟩ := e
    obtain ⟨dst, op, type, pos, after, guard⟩ := o
    cases op <;> simp only [calleeA] at hg <;> first | (cases hg; done) | skip
    case call c =>
      split at hg
      case h_2 => cases hg
      case h_1 f hc =>
        replace hg := bnd_some.1 hg; obtain ⟨fv, hfv, hg⟩ := hg
        split at hg
        case h_2 => cases hg
        case h_1 g' first captured =>
          replace hg := bnd_some.1 hg; obtain ⟨as, has, hg⟩ := hg
          injection hg with hg; injection hg with e1 e2; subst e1; subst e2
          have hr := hev _ _ hfv
          generalize hy : a.eval f = y at hr
          cases hr with
          | func _ _ _ f' c' hf' hc' =>
            have hargs := evAll_ok hev has
            have hall : VsRel m (first ++ as ++ captured) (f' ++ c.args.toList.map a.eval ++ c') := (hf'.append hargs).append hc'
            have hexec : (execOp a.eval ⟨dst, .call c, type, pos, after, guard⟩).run P w = (callFunc g' (f' ++ c.args.toList.map a.eval ++ c').toArray).run P w := by
              have : f'.toArray ++ c.args.map a.eval ++ c'.toArray = (f' ++ c.args.toList.map a.eval ++ c').toArray := by
                apply Array.ext'; simp
              simp only [execOp, resolve, hc, hy, Deferred.ofValue, Sem.run_bind, Sem.run_pure, Result.andThen_ok, invoke, this]
            rw [hexec]
            rcases hcall _ _ _ _ _ e m w _ R hall with ⟨h1, h2⟩ | ⟨v', m', w', h1, h2, h3⟩
            · rw [h1, Oper.upon_enter]
              refine h2.mono fun e' w' he => ?_
              obtain ⟨m', v', rfl, hv, hw⟩ := he
              exact hK m' v' w' hv hw.later.1 (fun id hid _ => hw.later.2 id hid) hw.next hw.good
            · rw [h1, Oper.upon_value]
              exact hK m' v' w' h2 h3.later.1 (fun id hid _ => h3.later.2 id hid) h3.next h3.good
end
end Go.Proofs.Ytagbpjegdfhmpaa.AM
