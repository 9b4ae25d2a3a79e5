/- The smaller machine's regions and calls do what the program's do. -/
import Derived.Test.YtkhgfdlinobabaaGreatDoorAmOps2
import Derived.Orders
import Derived.Scope
import Derived.LoopN
import Derived.Conc.MuLone
import Derived.KernelRfl
set_option linter.unusedSimpArgs false
set_option linter.unusedVariables false
namespace Go.Proofs.YtkhgfdlinobabaaGreatDoor.AM
open Go.RowKit (Below)

/-- m' says of the numbers below k what m says. -/
def Later (m m' : Mu) (k : Nat) : Prop := m.le m' ∧ ∀ id, id < k → m' id = m id
theorem Later.refl (m : Mu) (k : Nat) : Later m m k := ⟨Mu.le.refl m, fun _ _ => rfl⟩
theorem Later.trans {a b c : Mu} {k l : Nat} (h : Later a b k) (g : Later b c l) (hk : k ≤ l) : Later a c k := ⟨h.1.trans g.1, fun id hid => (g.2 id (by omega)).trans (h.2 id hid)⟩
theorem Later.mono {a b : Mu} {k l : Nat} (h : Later a b l) (hk : k ≤ l) : Later a b k := ⟨h.1, fun id hid => h.2 id (by omega)⟩
theorem Ext.later {m m' : Mu} {nid k : Nat} (h : Ext m m' nid) (hk : k ≤ nid) : Later m m' k := ⟨h.le, fun id hid => h.rest id (by omega)⟩

section
variable {P : Program} {N0 : Nat} {w0 : World}

structure SRel (P : Program) (N0 : Nat) (w0 : World) (m : Mu) (env : T V) (n : Nat) (h : H) (a : Act) (w : World) : Prop where
  defers : a.defers = []
  size : a.tmps.size = n
  vals : ∀ t v, env.get t = some v → ∃ v', a.tmps[t]? = some v' ∧ VRel m v v'
  rel : HRel P.globals.size N0 w0 m h w

theorem ev_ok {m : Mu} {env : T V} {a : Act} (hv : ∀ t v, env.get t = some v → ∃ v', a.tmps[t]? = some v' ∧ VRel m v v')
    (hg : ∀ g, g < P.globals.size → ∃ L, m g = some L ∧ L.b = g ∧ L.d = 0) : ∀ x v, evT P env x = some v → VRel m v (a.eval x) := by
  intro x v e
  cases x with
  | tmp t =>
    obtain ⟨v', h1, h2⟩ := hv t v e
    simpa [Act.eval, h1] using h2
  | const c => exact ofValue_rel e
  | global g =>
    replace e := grd_some.1 e; obtain ⟨h1, e⟩ := e
    injection e with e; subst e
    obtain ⟨L, h2, h3, h4⟩ := hg g (Nat.le_of_ble_eq_true h1)
    have := VRel.ptr (m := m) g 0 L h2
    rwa [h3, h4] at this
  | func f => injection e with e; subst e; exact VRel.func (.func f) [] [] [] [] .nil .nil
theorem SRel.ev {m : Mu} {env : T V} {n : Nat} {h : H} {a : Act} {w : World} (R : SRel P N0 w0 m env n h a w) : ∀ x v, evT P env x = some v → VRel m v (a.eval x) := ev_ok R.vals R.rel.glob

theorem put_vals {m m' : Mu} {env : T V} {n : Nat} {a : Act} {dst : Option Tmp} {v : V} {v' : Value} (hs : a.tmps.size = n) (hv : ∀ t v, env.get t = some v → ∃ v', a.tmps[t]? = some v' ∧ VRel m v v') (hle : m.le m') (hr : VRel m' v v') :
    (a.put dst v').tmps.size = n ∧ ∀ t u, (putT env n dst v).get t = some u → ∃ u', (a.put dst v').tmps[t]? = some u' ∧ VRel m' u u' := by
  have old : ∀ t u, env.get t = some u → ∃ u', a.tmps[t]? = some u' ∧ VRel m' u u' := fun t u h => by
    obtain ⟨u', h1, h2⟩ := hv t u h
    exact ⟨u', h1, h2.mono hle⟩
  cases dst with
  | none => exact ⟨hs, old⟩
  | some d =>
    refine ⟨by simp [Act.put, hs], fun t u h => ?_⟩
    simp only [putT, osel, Act.put] at h ⊢
    cases hb : Nat.blt d n with
    | false =>
      rw [hb] at h
      obtain ⟨u', h1, h2⟩ := old t u h
      refine ⟨u', ?_, h2⟩
      have hd : ¬ d < a.tmps.size := by
        intro hlt; rw [hs] at hlt
        have : Nat.blt d n = true := Nat.ble_eq_true_of_le hlt
        rw [hb] at this; cases this
      rw [Array.getElem?_setIfInBounds]
      by_cases hdt : d = t
      · subst hdt
        rw [if_pos rfl, if_neg hd]
        have : a.tmps[d]? = none := Array.getElem?_eq_none (Nat.le_of_not_lt hd)
        rw [this] at h1; cases h1
      · rw [if_neg hdt]; exact h1
    | true =>
      rw [hb] at h
      have hd : d < a.tmps.size := by rw [hs]; exact Nat.le_of_ble_eq_true hb
      by_cases hdt : t = d
      · subst hdt
        have e := T.put_get env (some v) t
        have h : (env.put t (some v)).get t = some u := h
        rw [e] at h
        injection h with h; subst h
        exact ⟨v', by simp [hd], hr⟩
      · have h : (env.put d (some v)).get t = some u := h
        rw [T.put_get_other _ _ _ _ (Ne.symm hdt)] at h
        obtain ⟨u', h1, h2⟩ := old t u h
        exact ⟨u', by rw [Array.getElem?_setIfInBounds_ne (Ne.symm hdt)]; exact h1, h2⟩

/-- What stands behind an operation, a region, a call: later numbers, and all kept. -/
structure Went (P : Program) (N0 : Nat) (w0 : World) (m : Mu) (h : H) (w : World) (m' : Mu) (h' : H) (w' : World) : Prop where
  later : Later m m' h.next
  next : h.next ≤ h'.next
  good : Good P.globals.size N0 w0 m h w m' h' w'
theorem Went.trans {m1 m2 m3 : Mu} {h1 h2 h3 : H} {w1 w2 w3 : World} (a : Went P N0 w0 m1 h1 w1 m2 h2 w2) (b : Went P N0 w0 m2 h2 w2 m3 h3 w3) : Went P N0 w0 m1 h1 w1 m3 h3 w3 :=
  ⟨a.later.trans b.later a.next, Nat.le_trans a.next b.next, a.good.trans b.good⟩

/-- What a call of a function comes to. -/
def CallOK (P : Program) (N0 : Nat) (w0 : World) (call : FuncId → List V → H → Option (V × H)) : Prop :=
  ∀ g args h v h', call g args h = some (v, h') → ∀ m w args', HRel P.globals.size N0 w0 m h w → VsRel m args args' →
    ((callFunc g args'.toArray).run P w = .ok (.enter g args'.toArray) w ∧ Calls P g args'.toArray w (fun e w' => ∃ m' v', e = .returned v' ∧ VRel m' v v' ∧ Went P N0 w0 m h w m' h' w')) ∨
    (∃ v' m' w', (callFunc g args'.toArray).run P w = .ok (.value v') w' ∧ VRel m' v v' ∧ Went P N0 w0 m h w m' h' w')

theorem bump_rel {NG : Nat} {m : Mu} {h : H} {w : World} (R : HRel NG N0 w0 m h w) (k : Nat) : HRel NG N0 w0 m (h.bump k) w :=
  ⟨R.below, R.n0, fun id hid => R.dom id (by have : h.next + k ≤ id := hid; omega), R.objs, R.inj, R.glob⟩

/-- The builtins that change memory. -/
theorem arg2_ok {m : Mu} {ev : Operand → Option V} {ρ : Operand → Value} (hev : ∀ x v, ev x = some v → VRel m v (ρ x)) {c : Call} {p : V × V} (e : arg2 ev c = some p) :
    ∃ a b, c.args.map ρ = #[a, b] ∧ VRel m p.1 a ∧ VRel m p.2 b := by
  replace e := grd_some.1 e; obtain ⟨hsz, e⟩ := e
  have hsz := Nat.eq_of_beq_eq_true hsz
  replace e := bnd_some.1 e; obtain ⟨x, hx, e⟩ := e
  replace e := bnd_some.1 e; obtain ⟨y, hy, e⟩ := e
  replace e := bnd_some.1 e; obtain ⟨u, hu, e⟩ := e
  replace e := bnd_some.1 e; obtain ⟨v, hv, e⟩ := e
  injection e with e; subst e
  refine ⟨ρ x, ρ y, ?_, hev _ _ hu, hev _ _ hv⟩
  apply Array.ext
  · simp [hsz]
  · intro i h1 h2
    have h2' : i < 2 := by simpa using h2
    rcases Nat.lt_or_ge i 1 with hi | hi
    · have : i = 0 := by omega
      subst this
      have q := getElem?_map (ρ := ρ) hx
      rw [Array.getElem?_eq_getElem h1] at q
      injection q
    · have : i = 1 := by omega
      subst this
      have q := getElem?_map (ρ := ρ) hy
      rw [Array.getElem?_eq_getElem h1] at q
      injection q
theorem arg1_eq {ρ : Operand → Value} {c : Call} {x : Operand} (hsz : c.args.size = 1) (hx : c.args[0]? = some x) : c.args.map ρ = #[ρ x] := by
  apply Array.ext
  · simp [hsz]
  · intro i h1 h2
    have : i = 0 := by simp at h2; omega
    subst this
    have q := getElem?_map (ρ := ρ) hx
    rw [Array.getElem?_eq_getElem h1] at q
    injection q
theorem loudB_ok {m : Mu} {h : H} {w : World} {nid : Nat} {ev : Operand → Option V} {ρ : Operand → Value} (R : HRel P.globals.size N0 w0 m h w) (hf : m nid = none) (hn : nid < h.next) (hev : ∀ x v, ev x = some v → VRel m v (ρ x))
    {c : Call} {b : Builtin} {v : V} {h' : H} {ty : TypeId} (hc : c.callee = .builtin b) (e : loudB P ev c b nid h = some (v, h')) :
    Mks P P.globals.size N0 w0 m h w nid (do let d ← resolve ρ c ty; invoke d.target d.args) v h' := by
  cases b <;> simp only [loudB] at e <;> first | (cases e; done) | skip
  case append =>
    replace e := bnd_some.1 e; obtain ⟨p, hp, e⟩ := e
    replace e := bnd_some.1 e; obtain ⟨st, hst, e⟩ := e
    obtain ⟨a, b, hab, ha, hb⟩ := arg2_ok hev hp
    obtain ⟨m', w', v', k1, k2, k3, k4⟩ := append_ok (P := P) (ty := ty) R hf hn hst rfl e ha hb
    exact ⟨m', w', v', k1, k2, k3, by simp [resolve, hc, invoke, builtin, hab, k4]⟩
  case copy =>
    replace e := bnd_some.1 e; obtain ⟨p, hp, e⟩ := e
    replace e := bnd_some.1 e; obtain ⟨st, hst, e⟩ := e
    obtain ⟨a, b, hab, ha, hb⟩ := arg2_ok hev hp
    obtain ⟨m', w', v', k1, k2, k3, k4⟩ := copy_ok (P := P) (nid := nid) (ty := ty) R hst e ha hb
    exact ⟨m', w', v', k1, k2, k3, by simp [resolve, hc, invoke, builtin, hab, k4]⟩
  case clear =>
    replace e := grd_some.1 e; obtain ⟨hsz, e⟩ := e
    replace e := bnd_some.1 e; obtain ⟨x, hx, e⟩ := e
    replace e := bnd_some.1 e; obtain ⟨s, hs, e⟩ := e
    replace e := bnd_some.1 e; obtain ⟨t, ht, e⟩ := e
    have hab := arg1_eq (ρ := ρ) (Nat.eq_of_beq_eq_true hsz) hx
    obtain ⟨m', w', v', k1, k2, k3, k4⟩ := clear_ok (P := P) (nid := nid) (ty := ty) R ht e (hev _ _ hs)
    exact ⟨m', w', v', k1, k2, k3, by simp [resolve, hc, invoke, builtin, hab, k4]⟩
  case unsafeString =>
    replace e := bnd_some.1 e; obtain ⟨p, hp, e⟩ := e
    replace e := bnd_some.1 e; obtain ⟨st, hst, e⟩ := e
    obtain ⟨a, b, hab, ha, hb⟩ := arg2_ok hev hp
    obtain ⟨m', w', v', k1, k2, k3, k4⟩ := unsafeStr_ok (P := P) (nid := nid) (ty := ty) R hst e ha hb
    exact ⟨m', w', v', k1, k2, k3, by simp [resolve, hc, invoke, builtin, hab, k4]⟩

theorem putCells_next {h h' : H} {id off : Nat} {vs : List V} (e : putCells h id off vs = some h') : h'.next = h.next := by
  replace e := bnd_some.1 e; obtain ⟨_, _, e⟩ := e
  replace e := grd_some.1 e; obtain ⟨_, e⟩ := e
  injection e with e; subst e; rfl
theorem append_next {h h' : H} {st : TypeId} {xt : Option TypeId} {s x v : V} {nid : Nat} (e : appendA P st xt s x nid h = some (v, h')) : h'.next = h.next := by
  replace e := bnd_some.1 e; obtain ⟨_, _, e⟩ := e
  replace e := bnd_some.1 e; obtain ⟨d, _, e⟩ := e
  split at e
  case h_2 => cases e
  replace e := bnd_some.1 e; obtain ⟨_, _, e⟩ := e
  replace e := bnd_some.1 e; obtain ⟨_, _, e⟩ := e
  replace e := bnd_some.1 e; obtain ⟨_, _, e⟩ := e
  replace e := bnd_some.1 e; obtain ⟨q, _, e⟩ := e
  replace e := grd_some.1 e; obtain ⟨_, e⟩ := e
  cases s <;> first | (cases e; done) | skip
  case nilsl =>
    rename_i el k by_ z _ _ _ _
    have e : cond (Nat.beq q.1 0) (some (V.nilsl, h)) (grd _ (some (_, _))) = some (v, h') := e
    cases hb : Nat.beq q.1 0 <;> rw [hb] at e
    · have e : grd _ (some (_, _)) = some (v, h') := e
      replace e := grd_some.1 e; obtain ⟨_, e⟩ := e
      injection e with e; injection e with e1 e2; subst e2; rfl
    · injection e with e; injection e with e1 e2; subst e2; rfl
  case sl id off len cap =>
    cases cap with
    | some c =>
      have e : cond (Nat.ble (len + q.1) c) (appInA _ id off len q.1 (some c) q.2 h) (appGrowA _ _ _ _ len q.1 q.2 nid h) = some (v, h') := e
      cases hb : Nat.ble (len + q.1) c <;> rw [hb] at e
      · replace e := grd_some.1 (show grd _ _ = some (v, h') from e); obtain ⟨_, e⟩ := e
        replace e := bnd_some.1 e; obtain ⟨_, _, e⟩ := e
        injection e with e; injection e with e1 e2; subst e2; rfl
      · replace e := bnd_some.1 (show (putCells h id _ _).bind _ = some (v, h') from e); obtain ⟨_, hp, e⟩ := e
        injection e with e; injection e with e1 e2; subst e2; exact putCells_next hp
    | none =>
      have e : cond (Nat.beq q.1 0) (some (V.sl id off len none, h)) ((rowOf h id).bind fun r => cond (Nat.ble (off + (len + q.1) * _) r.cs.length) (grd (Nat.beq r.sz _) (appInA _ id off len q.1 none q.2 h)) (appMoveA _ _ _ _ id off len q.1 r q.2 nid h)) = some (v, h') := e
      cases hb : Nat.beq q.1 0 <;> rw [hb] at e
      · replace e := bnd_some.1 (show (rowOf h id).bind _ = some (v, h') from e); obtain ⟨r, _, e⟩ := e
        cases hb' : Nat.ble (off + (len + q.1) * _) r.cs.length <;> rw [hb'] at e
        · replace e := grd_some.1 (show grd _ _ = some (v, h') from e); obtain ⟨_, e⟩ := e
          replace e := bnd_some.1 e; obtain ⟨_, _, e⟩ := e
          injection e with e; injection e with e1 e2; subst e2; rfl
        · replace e := grd_some.1 (show grd _ _ = some (v, h') from e); obtain ⟨_, e⟩ := e
          replace e := bnd_some.1 e; obtain ⟨_, hp, e⟩ := e
          injection e with e; injection e with e1 e2; subst e2; exact putCells_next hp
      · injection e with e; injection e with e1 e2; subst e2; rfl
theorem loudB_next {h h' : H} {ev : Operand → Option V} {c : Call} {b : Builtin} {nid : Nat} {v : V} (e : loudB P ev c b nid h = some (v, h')) : h'.next = h.next := by
  cases b <;> simp only [loudB] at e <;> first | (cases e; done) | skip
  case append =>
    replace e := bnd_some.1 e; obtain ⟨_, _, e⟩ := e
    replace e := bnd_some.1 e; obtain ⟨_, _, e⟩ := e
    exact append_next e
  case copy =>
    replace e := bnd_some.1 e; obtain ⟨⟨d, x⟩, _, e⟩ := e
    replace e := bnd_some.1 e; obtain ⟨_, _, e⟩ := e
    replace e := bnd_some.1 e; obtain ⟨td, _, e⟩ := e
    split at e
    case h_2 => cases e
    replace e := bnd_some.1 e; obtain ⟨_, _, e⟩ := e
    replace e := bnd_some.1 e; obtain ⟨_, _, e⟩ := e
    replace e := bnd_some.1 e; obtain ⟨_, _, e⟩ := e
    replace e := bnd_some.1 e; obtain ⟨_, _, e⟩ := e
    cases d <;> first | (cases e; done) | skip
    · replace e := bnd_some.1 e; obtain ⟨_, hp, e⟩ := e
      injection e with e; injection e with e1 e2; subst e2; exact putCells_next hp
    · injection e with e; injection e with e1 e2; subst e2; rfl
  case clear =>
    replace e := grd_some.1 e; obtain ⟨_, e⟩ := e
    replace e := bnd_some.1 e; obtain ⟨_, _, e⟩ := e
    replace e := bnd_some.1 e; obtain ⟨s, _, e⟩ := e
    replace e := bnd_some.1 e; obtain ⟨_, _, e⟩ := e
    replace e := bnd_some.1 e; obtain ⟨td, _, e⟩ := e
    split at e
    case h_2 => cases e
    replace e := bnd_some.1 e; obtain ⟨_, _, e⟩ := e
    cases s <;> first | (cases e; done) | skip
    · replace e := bnd_some.1 e; obtain ⟨_, hp, e⟩ := e
      replace e := grd_some.1 e; obtain ⟨_, e⟩ := e
      injection e with e; injection e with e1 e2; subst e2; exact putCells_next hp
    · injection e with e; injection e with e1 e2; subst e2; rfl
  case unsafeString =>
    replace e := bnd_some.1 e; obtain ⟨_, _, e⟩ := e
    replace e := bnd_some.1 e; obtain ⟨_, _, e⟩ := e
    replace e := bnd_some.1 e; obtain ⟨_, _, e⟩ := e
    replace e := bnd_some.1 e; obtain ⟨_, _, e⟩ := e
    replace e := bnd_some.1 e; obtain ⟨_, _, e⟩ := e
    replace e := bnd_some.1 e; obtain ⟨td, _, e⟩ := e
    split at e
    case h_2 => cases e
    replace e := grd_some.1 e; obtain ⟨_, e⟩ := e
    replace e := bnd_some.1 e; obtain ⟨_, _, e⟩ := e
    injection e with e; injection e with e1 e2; subst e2; rfl
theorem mark_next {h h' : H} {s d : TypeId} {x v : V} (e : markA P s d x h = some (v, h')) : h'.next = h.next := by
  replace e := bnd_some.1 e; obtain ⟨_, _, e⟩ := e
  replace e := bnd_some.1 e; obtain ⟨_, _, e⟩ := e
  replace e := bnd_some.1 e; obtain ⟨sd, _, e⟩ := e
  split at e
  case h_2 => cases e
  replace e := bnd_some.1 e; obtain ⟨dd, _, e⟩ := e
  split at e
  case h_2 => cases e
  replace e := bnd_some.1 e; obtain ⟨ed, _, e⟩ := e
  split at e
  case h_2 => cases e
  replace e := grd_some.1 e; obtain ⟨_, e⟩ := e
  injection e with e; injection e with e1 e2; subst e2; rfl

/-- An operation that changes memory, in a walk. -/
theorem heavy_wp {call : FuncId → List V → H → Option (V × H)} (hcall : CallOK P N0 w0 call) {m : Mu} {h : H} {w : World} {nid : Nat} {ev : Operand → Option V} {a : Act} (R : HRel P.globals.size N0 w0 m h w) (hf : m nid = none) (hn : nid < h.next)
    (hev : ∀ x v, ev x = some v → VRel m v (a.eval x)) {o : Oper} {v : V} {h' : H} {k : Kd} (e : heavyA P call ev k o nid h = some (v, h')) {K : Act → World → Prop} {Q : Exit → Act → World → Prop}
    (hK : ∀ m' v' w', VRel m' v v' → m.le m' → (∀ id, id < h.next → id ≠ nid → m' id = m id) → h.next ≤ h'.next → Good P.globals.size N0 w0 m h w m' h' w' → K (a.put o.dst v') w') : o.wp P a w K Q := by
  unfold Oper.wp
  cases k <;> simp only [heavyA] at e <;> first | (cases e; done) | skip
  case loud =>
    obtain ⟨dst, op, type, pos, after, guard⟩ := o
    cases op <;> simp only [loudA] at e <;> first | (cases e; done) | skip
    case store t x y =>
      replace e := bnd_some.1 e; obtain ⟨p, hp, e⟩ := e
      replace e := bnd_some.1 e; obtain ⟨u, hu, e⟩ := e
      replace e := bnd_some.1 e; obtain ⟨h1, hh, e⟩ := e
      injection e with e; injection e with e1 e2; subst e1; subst e2
      obtain ⟨m', w', k1, k2, k3⟩ := storeAt_ok (P := P) (nid := nid) R hh (hev _ _ hp) (hev _ _ hu)
      have hrun : (execOp a.eval ⟨dst, .store t x y, type, pos, after, guard⟩).run P w = .ok .skip w' := by
        simp only [execOp, Sem.run_bind, k3, Result.andThen_ok, Sem.run_pure]
      rw [hrun, Oper.upon_skip]
      have hnx : h.next ≤ h1.next := by
        replace hh := bnd_some.1 hh; obtain ⟨_, _, hh⟩ := hh
        replace hh := bnd_some.1 hh; obtain ⟨_, _, hh⟩ := hh
        replace hh := grd_some.1 hh; obtain ⟨_, hh⟩ := hh
        exact Nat.le_of_eq (putCells_next hh).symm
      exact hK m' undef w' .undef k1.le (fun id _ hne => k1.rest id hne) hnx k2
    case convert s d x =>
      replace e := bnd_some.1 e; obtain ⟨u, hu, e⟩ := e
      obtain ⟨m', w', v', k1, k2, k3, k4⟩ := mark_ok (P := P) (nid := nid) R e (hev _ _ hu)
      have hrun : (execOp a.eval ⟨dst, .convert s d x, type, pos, after, guard⟩).run P w = .ok (.value v') w' := by
        simp only [execOp, Sem.run_bind, k4, Result.andThen_ok, Sem.run_pure]
      rw [hrun, Oper.upon_value]
      exact hK m' v' w' k3 k1.le (fun id _ hne => k1.rest id hne) (Nat.le_of_eq (mark_next e).symm) k2
    case call c =>
      split at e
      case h_2 => cases e
      case h_1 b hc =>
        obtain ⟨m', w', v', k1, k2, k3, k4⟩ := loudB_ok (ty := type) R hf hn hev hc e
        have hrun : (execOp a.eval ⟨dst, .call c, type, pos, after, guard⟩).run P w = .ok (.value v') w' := k4
        rw [hrun, Oper.upon_value]
        exact hK m' v' w' k3 k1.le (fun id _ hne => k1.rest id hne) (Nat.le_of_eq (loudB_next e).symm) k2
  case call =>
    replace e := bnd_some.1 e; obtain ⟨⟨g, args⟩, hg, e⟩ := e
    obtain ⟨dst, op, type, pos, after, guard⟩ := o
    cases op <;> simp only [calleeA] at hg <;> first | (cases hg; done) | skip
    case call c =>
      split at hg
      case h_2 => cases hg
      case h_1 f hc =>
        replace hg := bnd_some.1 hg; obtain ⟨fv, hfv, hg⟩ := hg
        split at hg
        case h_2 => cases hg
        case h_1 g' first captured =>
          replace hg := bnd_some.1 hg; obtain ⟨as, has, hg⟩ := hg
          injection hg with hg; injection hg with e1 e2; subst e1; subst e2
          have hr := hev _ _ hfv
          generalize hy : a.eval f = y at hr
          cases hr with
          | func _ _ _ f' c' hf' hc' =>
            have hargs := evAll_ok hev has
            have hall : VsRel m (first ++ as ++ captured) (f' ++ c.args.toList.map a.eval ++ c') := (hf'.append hargs).append hc'
            have hexec : (execOp a.eval ⟨dst, .call c, type, pos, after, guard⟩).run P w = (callFunc g' (f' ++ c.args.toList.map a.eval ++ c').toArray).run P w := by
              have : f'.toArray ++ c.args.map a.eval ++ c'.toArray = (f' ++ c.args.toList.map a.eval ++ c').toArray := by
                apply Array.ext'; simp
              simp only [execOp, resolve, hc, hy, Deferred.ofValue, Sem.run_bind, Sem.run_pure, Result.andThen_ok, invoke, this]
            rw [hexec]
            rcases hcall _ _ _ _ _ e m w _ R hall with ⟨h1, h2⟩ | ⟨v', m', w', h1, h2, h3⟩
            · rw [h1, Oper.upon_enter]
              refine h2.mono fun e' w' he => ?_
              obtain ⟨m', v', rfl, hv, hw⟩ := he
              exact hK m' v' w' hv hw.later.1 (fun id hid _ => hw.later.2 id hid) hw.next hw.good
            · rw [h1, Oper.upon_value]
              exact hK m' v' w' h2 h3.later.1 (fun id hid _ => h3.later.2 id hid) h3.next h3.good
end
end Go.Proofs.YtkhgfdlinobabaaGreatDoor.AM

/- The smaller machine's regions, in the order of the text. -/
namespace Go.Proofs.YtkhgfdlinobabaaGreatDoor.AM
open Go.RowKit (Below)

section
variable {P : Program} {N0 : Nat} {w0 : World}

theorem put_defers' (a : Act) (dst : Option Tmp) (v : Value) : (a.put dst v).defers = a.defers := by cases dst <;> rfl
theorem wanted_ok {m : Mu} {ops : Array Oper} {env : T V} {a : Act} (hv : ∀ t v, env.get t = some v → ∃ v', a.tmps[t]? = some v' ∧ VRel m v v') {o : Oper} {b : Bool} (e : wantA (dstOf ops) env o = some b) :
    Region.wanted o (yielded ops a.tmps) = b := by
  unfold wantA at e
  unfold Region.wanted
  cases hg : o.guard with
  | none => rw [hg] at e; exact (Option.some.inj e)
  | some g =>
    rw [hg] at e
    obtain ⟨j, want⟩ := g
    replace e : ((dstOf ops j).bind fun t => (env.get t).bind fun | .bool q => some (q == want) | .undef => some false | _ => none) = some b := e
    replace e := bnd_some.1 e; obtain ⟨t, ht, e⟩ := e
    replace e := bnd_some.1 e; obtain ⟨v, hv0, e⟩ := e
    obtain ⟨v', h1, h2⟩ := hv t v hv0
    have ht : (ops[j]?).bind (·.dst) = some t := ht
    cases v <;> dsimp only at e <;> first | (cases e; done) | skip
    case bool q =>
      injection e with e; subst e
      cases h2
      simp [yielded, ht, h1]
    case undef =>
      injection e with e; subst e
      cases h2
      simp [yielded, ht, h1]

theorem alloc_wp {m : Mu} {h : H} {w : World} {nid : Nat} {ev : Operand → Option V} {a : Act} (R : HRel P.globals.size N0 w0 m h w) (hf : m nid = none) (hn : nid < h.next)
    (hev : ∀ x v, ev x = some v → VRel m v (a.eval x)) {o : Oper} {v : V} {r : Row} (e : allocA P ev o nid = some (v, r)) {K : Act → World → Prop} {Q : Exit → Act → World → Prop}
    (hK : ∀ m' v' w', VRel m' v v' → Ext m m' nid → Good P.globals.size N0 w0 m h w m' (h.set nid (some (.row r))) w' → K (a.put o.dst v') w') : o.wp P a w K Q := by
  obtain ⟨m', w', v', k1, k2, k3, k4⟩ := alloc_op (P := P) R hf hn hev e
  unfold Oper.wp
  rw [k4, Oper.upon_value]
  exact hK m' v' w' k3 k1 k2

theorem val_wp {m : Mu} {w : World} {a : Act} {o : Oper} {v : V} (e : Val P m w (execOp a.eval o) v) {K : Act → World → Prop} {Q : Exit → Act → World → Prop}
    (hK : ∀ v', VRel m v v' → K (a.put o.dst v') w) : o.wp P a w K Q := by
  obtain ⟨v', h1, h2⟩ := e
  unfold Oper.wp
  rw [h2, Oper.upon_value]
  exact hK v' h1

theorem stepA_wp {call : FuncId → List V → H → Option (V × H)} (hcall : CallOK P N0 w0 call) {m : Mu} {s s' : S} {a : Act} {w : World} {o : Oper} (R : SRel P N0 w0 m s.env s.n s.h a w)
    (e : stepA P call o s = some s') {K : Act → World → Prop} {Q : Exit → Act → World → Prop}
    (hK : ∀ m' a' w', SRel P N0 w0 m' s'.env s'.n s'.h a' w' → Went P N0 w0 m s.h w m' s'.h w' → s'.n = s.n → K a' w') : o.wp P a w K Q := by
  unfold stepA at e
  have hev := R.ev
  have fresh : m s.h.next = none := R.rel.dom _ (Nat.le_refl _)
  have heavy : ∀ k, ((heavyA P call (evT P s.env) k o s.h.next (s.h.bump 1)).bind fun r => some (⟨putT s.env s.n o.dst r.1, s.n, r.2⟩ : S)) = some s' → o.wp P a w K Q := by
    intro k e
    replace e := bnd_some.1 e; obtain ⟨⟨v, h'⟩, hh, e⟩ := e
    injection e with e; subst e
    refine heavy_wp hcall (bump_rel R.rel 1) fresh (Nat.lt_succ_self _) hev hh fun m' v' w' hv hle hrest hnx hg => ?_
    obtain ⟨p1, p2⟩ := put_vals (dst := o.dst) R.size R.vals hle hv
    exact hK m' _ w' ⟨by rw [put_defers']; exact R.defers, p1, p2, hg.rel⟩ ⟨⟨hle, fun id hid => hrest id (by have : (s.h.bump 1).next = s.h.next + 1 := rfl; omega) (by omega)⟩, by have : (s.h.bump 1).next = s.h.next + 1 := rfl; exact (by omega : s.h.next ≤ h'.next), ⟨hg.rel, hg.frm, hg.size⟩⟩ rfl
  split at e
  · replace e := bnd_some.1 e; obtain ⟨v, hv, e⟩ := e
    injection e with e; subst e
    refine val_wp (pure_ok (m := m) (w := w) hev hv) fun v' hv' => ?_
    obtain ⟨p1, p2⟩ := put_vals (dst := o.dst) R.size R.vals (Mu.le.refl m) hv'
    exact hK m _ w ⟨by rw [put_defers']; exact R.defers, p1, p2, R.rel⟩ ⟨.refl _ _, Nat.le_refl _, R.rel.same⟩ rfl
  · replace e := bnd_some.1 e; obtain ⟨v, hv, e⟩ := e
    injection e with e; subst e
    refine val_wp (load_ok R.rel hev hv) fun v' hv' => ?_
    obtain ⟨p1, p2⟩ := put_vals (dst := o.dst) R.size R.vals (Mu.le.refl m) hv'
    exact hK m _ w ⟨by rw [put_defers']; exact R.defers, p1, p2, R.rel⟩ ⟨.refl _ _, Nat.le_refl _, R.rel.same⟩ rfl
  · replace e := bnd_some.1 e; obtain ⟨⟨v, r⟩, hv, e⟩ := e
    injection e with e; subst e
    refine alloc_wp (bump_rel R.rel 1) fresh (Nat.lt_succ_self _) hev hv fun m' v' w' hv' hE hg => ?_
    obtain ⟨p1, p2⟩ := put_vals (dst := o.dst) R.size R.vals hE.le hv'
    exact hK m' _ w' ⟨by rw [put_defers']; exact R.defers, p1, p2, hg.rel⟩ ⟨hE.later (Nat.le_refl _), Nat.le_succ _, ⟨hg.rel, hg.frm, hg.size⟩⟩ rfl
  · exact heavy _ e

theorem opsA_wp {call : FuncId → List V → H → Option (V × H)} (hcall : CallOK P N0 w0 call) {ops : Array Oper} {Q : Exit → Act → World → Prop} : ∀ (l : List Oper) {m : Mu} {s s' : S} {a : Act} {w : World}, SRel P N0 w0 m s.env s.n s.h a w →
    opsA P call (dstOf ops) l s = some s' → (∀ m' a' w', SRel P N0 w0 m' s'.env s'.n s'.h a' w' → Went P N0 w0 m s.h w m' s'.h w' → s'.n = s.n → Q .normal a' w') → wpList P ops Q l a w
  | [], m, s, s', a, w, R, e, hQ => by
    injection e with e; subst e
    exact hQ m a w R ⟨.refl _ _, Nat.le_refl _, R.rel.same⟩ rfl
  | o :: l, m, s, s', a, w, R, e, hQ => by
    replace e : ((wantA (dstOf ops) s.env o).bind fun b => (cond b (stepA P call o s) (some ⟨putT s.env s.n o.dst .undef, s.n, s.h⟩)).bind fun s' => opsA P call (dstOf ops) l s') = some s' := e
    replace e := bnd_some.1 e; obtain ⟨b, hb, e⟩ := e
    replace e := bnd_some.1 e; obtain ⟨s1, h1, e⟩ := e
    unfold wpList
    rw [wanted_ok R.vals hb]
    cases b with
    | true =>
      refine .inl (stepA_wp hcall R (show stepA P call o s = some s1 from h1) fun m1 a1 w1 R1 W1 n1 => ?_)
      exact opsA_wp hcall l R1 e fun m' a' w' R' W' n' => hQ m' a' w' R' (W1.trans W') (n'.trans n1)
    | false =>
      have h1 : some (⟨putT s.env s.n o.dst .undef, s.n, s.h⟩ : S) = some s1 := h1
      injection h1 with h1; subst h1
      obtain ⟨p1, p2⟩ := put_vals (dst := o.dst) R.size R.vals (Mu.le.refl m) VRel.undef
      exact opsA_wp hcall l (s := ⟨putT s.env s.n o.dst .undef, s.n, s.h⟩) ⟨by rw [put_defers']; exact R.defers, p1, p2, R.rel⟩ e hQ
end
end Go.Proofs.YtkhgfdlinobabaaGreatDoor.AM

/- The smaller machine's code and calls. -/
namespace Go.Proofs.YtkhgfdlinobabaaGreatDoor.AM
open Go.RowKit (Below)

def X.toExit : X → Exit
  | .norm => .normal
  | .exit id => .exit id
  | .ret => .ret

section
variable {P : Program} {N0 : Nat} {w0 : World}

theorem VsRel.toList_get {m : Mu} {vs : List V} {vs' : List Value} (h : VsRel m vs vs') : ∀ {i : Nat} {v : V}, vs[i]? = some v → ∃ v', vs'[i]? = some v' ∧ VRel m v v' := fun e => h.get e

theorem putArgs_get : ∀ (vs : List V) (i : Nat) (e : T V) (t : Nat) (v : V), (putArgs vs i e).get t = some v → (i ≤ t ∧ vs[t - i]? = some v) ∨ e.get t = some v
  | [], i, e, t, v, h => .inr h
  | u :: vs, i, e, t, v, h => by
    rcases putArgs_get vs (i + 1) (e.put i (some u)) t v h with ⟨h1, h2⟩ | h1
    · refine .inl ⟨by omega, ?_⟩
      rw [show t - i = (t - (i + 1)) + 1 by omega]
      exact h2
    · by_cases ht : t = i
      · subst ht
        rw [T.put_get] at h1
        refine .inl ⟨Nat.le_refl _, ?_⟩
        rw [Nat.sub_self]; exact h1
      · rw [T.put_get_other _ _ _ _ (Ne.symm ht)] at h1
        exact .inr h1
theorem get_e (t : Nat) (v : V) : (T.lf : T V).get t ≠ some v := by
  intro h; rw [T.get_e] at h; cases h

theorem enter_rel {m : Mu} {h : H} {w : World} (R : HRel P.globals.size N0 w0 m h w) {args : List V} {args' : List Value} (hv : VsRel m args args') (k : Nat) :
    SRel P N0 w0 m (putArgs args 0 .lf) (args.length + (k - args.length)) h { tmps := args'.toArray ++ Array.replicate (k - args'.toArray.size) undef, defers := [] } w := by
  have hl := hv.length
  refine ⟨rfl, by simp [hl], fun t v e => ?_, R⟩
  rcases putArgs_get _ _ _ _ _ e with ⟨_, h1⟩ | h1
  · obtain ⟨v', h2, h3⟩ := hv.get h1
    refine ⟨v', ?_, h3⟩
    have h2 : args'[t]? = some v' := by simpa using h2
    have hlt : t < args'.length := (List.getElem?_eq_some_iff.1 h2).1
    rw [Array.getElem?_append_left (by simpa using hlt)]
    simpa using h2
  · exact absurd h1 (get_e _ _)

def resOf (a : Act) : ResultVar → Sem Value
  | .tmp t => pure (a.tmps.getD t undef)
  | .cell c t => do loadVar t (← asAddr (a.tmps.getD c undef))
theorem results_ok {m : Mu} {env : T V} {n : Nat} {h : H} {a : Act} {w : World} (R : SRel P N0 w0 m env n h a w) : ∀ (rs : List ResultVar) (vs : List V), resultsA P env h rs = some vs →
    ∃ vs', (rs.mapM (resOf a)).run P w = .ok vs' w ∧ VsRel m vs vs'
  | [], vs, e => by
    injection e with e; subst e
    exact ⟨[], by simp, .nil⟩
  | .tmp t :: rs, vs, e => by
    replace e := bnd_some.1 e; obtain ⟨v, hv, e⟩ := e
    replace e := bnd_some.1 e; obtain ⟨us, hus, e⟩ := e
    injection e with e; subst e
    obtain ⟨v', h1, h2⟩ := R.vals t v hv
    obtain ⟨us', h3, h4⟩ := results_ok R rs us hus
    refine ⟨v' :: us', ?_, .cons _ _ _ _ h2 h4⟩
    have h8 : a.tmps.getD t undef = v' := by simp [h1]
    simp only [List.mapM_cons, resOf, Sem.run_bind, Sem.run_pure, Result.andThen_ok, h3, h8]
  | .cell c t :: rs, vs, e => by
    replace e := bnd_some.1 e; obtain ⟨p, hp, e⟩ := e
    replace e := bnd_some.1 e; obtain ⟨v, hv, e⟩ := e
    replace e := bnd_some.1 e; obtain ⟨us, hus, e⟩ := e
    injection e with e; subst e
    obtain ⟨p', h1, h2⟩ := R.vals c p hp
    obtain ⟨us', h3, h4⟩ := results_ok R rs us hus
    obtain ⟨v', h5, h6⟩ := loadAt_ok (P := P) R.rel hv h2
    replace hv := bnd_some.1 hv; obtain ⟨⟨id, off⟩, hq, _⟩ := hv
    obtain rfl := V.ptr?_inv hq; dsimp only at *
    obtain ⟨L, hm, rfl⟩ := ptr_inv h2
    refine ⟨v' :: us', ?_, .cons _ _ _ _ h5 h4⟩
    have h7 : (loadVar t ⟨L.b, L.d + off, none⟩).run P w = .ok v' w := by
      rw [← h6]
      simp [Instr.loadAt, Instr.sureAddr]
    have h8 : a.tmps.getD c undef = .pointer (some ⟨L.b, L.d + off, none⟩) := by simp [h1]
    simp only [List.mapM_cons, resOf, Sem.run_bind, Sem.run_pure, Result.andThen_ok, h8, asAddr, h7, h3]

theorem results_run {m : Mu} {env : T V} {n : Nat} {h : H} {a : Act} {w : World} (R : SRel P N0 w0 m env n h a w) {fn : Func} {vs : List V} (e : resultsA P env h fn.results.toList = some vs) :
    ∃ v', (results fn a.tmps).run P w = .ok v' w ∧ VRel m (oneOf vs) v' := by
  obtain ⟨vs', h1, h2⟩ := results_ok R _ _ e
  have h3 : (fn.results.mapM (resOf a)).run P w = .ok vs'.toArray w := by
    rw [Array.mapM_eq_mapM_toList]
    simp only [map_eq_pure_bind, Sem.run_bind, h1, Result.andThen_ok, Sem.run_pure]
  refine ⟨if h : vs'.toArray.size = 1 then vs'.toArray[0] else .tuple vs'.toArray, ?_, ?_⟩
  · have h4 : results fn a.tmps = (do let vs ← fn.results.mapM (resOf a); pure (if h : vs.size = 1 then vs[0] else .tuple vs)) := by
      unfold results
      congr 1
    rw [h4, Sem.run_bind, h3]
    rfl
  · cases h2 with
    | nil => exact .tup _ _ .nil
    | cons v v' us us' e1 e2 =>
      cases e2 with
      | nil => exact e1
      | cons u u' ts ts' e3 e4 =>
        rw [dif_neg (by simp)]
        exact .tup _ _ (.cons _ _ _ _ e1 (.cons _ _ _ _ e3 e4))

/-- The externs of a program stand as the list says. -/
def ExtOK (P : Program) (ext : List (Nat × Ek)) : Prop :=
  ∀ g e, getExt ext g = some e → ∀ (m : Mu) (w : World) args args' v, VsRel m args args' → extA P e args = some v → ∃ v', VRel m v v' ∧ (callFunc g args'.toArray).run P w = .ok (.value v') w

def DrawOK (P : Program) (N0 : Nat) (w0 : World) : Prop :=
  ∀ call, CallOK P N0 w0 call → ∀ (id : Nat) (ops : Array Oper) (m : Mu) (s s' : S) (a : Act) (w : World) (Q : Exit → Act → World → Prop), SRel P N0 w0 m s.env s.n s.h a w → drawA P call ops s = some s' →
    (∀ m' a' w', SRel P N0 w0 m' s'.env s'.n s'.h a' w' → Went P N0 w0 m s.h w m' s'.h w' → s'.n = s.n → Q .normal a' w') → (Code.region id ops true).wp P Q a w

def Post (P : Program) (N0 : Nat) (w0 : World) (m : Mu) (s : S) (w : World) (x : X) (s' : S) : Exit → Act → World → Prop := fun e a' w' =>
  e = x.toExit ∧ ∃ m', SRel P N0 w0 m' s'.env s'.n s'.h a' w' ∧ Went P N0 w0 m s.h w m' s'.h w' ∧ s'.n = s.n
theorem Post.before {m m1 : Mu} {s s1 s' : S} {w w1 : World} {x : X} (W : Went P N0 w0 m s.h w m1 s1.h w1) (n : s1.n = s.n) {e : Exit} {a : Act} {w' : World} (h : Post P N0 w0 m1 s1 w1 x s' e a w') : Post P N0 w0 m s w x s' e a w' := by
  obtain ⟨h0, m', h1, h2, h3⟩ := h
  exact ⟨h0, m', h1, W.trans h2, h3.trans n⟩

theorem codeA_ok {C : Cfg} (hx : ExtOK C.P C.ext) (hd : DrawOK C.P N0 w0) (hng : ∀ (g : Nat) (fn : Func), C.P.funcs[g]? = some fn → (fn.name == "runtime.NumGoroutine") = false) : ∀ f,
    (∀ c m s x s' a w, SRel C.P N0 w0 m s.env s.n s.h a w → codeA C f c s = some (x, s') → c.wp C.P (Post C.P N0 w0 m s w x s') a w) ∧
    (∀ c m s x s' a w, SRel C.P N0 w0 m s.env s.n s.h a w → codeA C f (.loop c) s = some (x, s') → ∀ Q : Exit → Act → World → Prop, (∀ e a' w', Post C.P N0 w0 m s w x s' e a' w' → Q e a' w') → Code.rounds C.P c Q f a w) ∧ CallOK C.P N0 w0 (callA C f) := by
  intro f
  induction f with
  | zero => exact ⟨fun c m s x s' a w R e => by simp [codeA] at e, fun c m s x s' a w R e => by simp [codeA] at e, fun g args h v h' e => by simp [callA] at e⟩
  | succ f ih =>
    obtain ⟨ih1, ih3, ih2⟩ := ih
    have loops : ∀ c m s x s' a w, SRel C.P N0 w0 m s.env s.n s.h a w → codeA C (f + 1) (.loop c) s = some (x, s') → ∀ Q : Exit → Act → World → Prop, (∀ e a' w', Post C.P N0 w0 m s w x s' e a' w' → Q e a' w') → Code.rounds C.P c Q (f + 1) a w := by
      intro p m s x s' a w R e Q hQ
      simp only [codeA] at e
      replace e := bnd_some.1 e; obtain ⟨⟨y, s1⟩, h1, e⟩ := e
      rw [rounds_succ]
      refine wp_mono (ih1 p m s y s1 a w R h1) fun e' a1 w1 hp => ?_
      obtain ⟨rfl, m1, R1, W1, n1⟩ := hp
      cases y with
      | norm => exact ih3 p m1 s1 x s' a1 w1 R1 e Q fun e a w h => hQ e a w (Post.before W1 n1 h)
      | exit id => injection e with e; injection e with e1 e2; subst e1; subst e2; exact hQ _ _ _ ⟨rfl, m1, R1, W1, n1⟩
      | ret => injection e with e; injection e with e1 e2; subst e1; subst e2; exact hQ _ _ _ ⟨rfl, m1, R1, W1, n1⟩
    refine ⟨fun c m s x s' a w R e => ?_, loops, fun g args h v h' e m w args' R hv => ?_⟩
    · have here : ∀ (x : X), (x, s) = (x, s) → Post C.P N0 w0 m s w x s x.toExit a w := fun x _ => ⟨rfl, m, R, ⟨.refl _ _, Nat.le_refl _, R.rel.same⟩, rfl⟩
      cases c <;> simp only [codeA] at e <;> first | (cases e; done) | skip
      case skip => injection e with e; injection e with e1 e2; subst e1; subst e2; exact wp_skip (here .norm rfl)
      case label l => injection e with e; injection e with e1 e2; subst e1; subst e2; exact wp_label (here .norm rfl)
      case ret => injection e with e; injection e with e1 e2; subst e1; subst e2; exact wp_ret (here .ret rfl)
      case exit id => injection e with e; injection e with e1 e2; subst e1; subst e2; exact wp_exit (here (.exit id) rfl)
      case seq p q =>
        replace e := bnd_some.1 e; obtain ⟨⟨y, s1⟩, h1, e⟩ := e
        refine wp_seq (wp_mono (ih1 p m s y s1 a w R h1) fun e' a1 w1 hp => ?_)
        obtain ⟨rfl, m1, R1, W1, n1⟩ := hp
        cases y with
        | norm => exact wp_mono (ih1 q m1 s1 x s' a1 w1 R1 e) fun _ _ _ => Post.before W1 n1
        | exit id => injection e with e; injection e with e1 e2; subst e1; subst e2; exact ⟨rfl, m1, R1, W1, n1⟩
        | ret => injection e with e; injection e with e1 e2; subst e1; subst e2; exact ⟨rfl, m1, R1, W1, n1⟩
      case cond t p q =>
        replace e := bnd_some.1 e; obtain ⟨v, h1, e⟩ := e
        have hr := R.ev _ _ h1
        cases v <;> dsimp only at e <;> first | (cases e; done) | skip
        case bool b =>
          cases b with
          | true => exact wp_cond_true (bool_inv hr) (ih1 p m s x s' a w R e)
          | false => exact wp_cond_false (bool_inv hr) (ih1 q m s x s' a w R e)
      case block id p =>
        replace e := bnd_some.1 e; obtain ⟨⟨y, s1⟩, h1, e⟩ := e
        refine wp_block (wp_mono (ih1 p m s y s1 a w R h1) fun e' a1 w1 hp => ?_)
        obtain ⟨rfl, hp⟩ := hp
        cases y with
        | norm => injection e with e; injection e with e1 e2; subst e1; subst e2; exact ⟨rfl, hp⟩
        | exit i =>
          injection e with e; injection e with e1 e2; subst e1; subst e2
          show if i = id then _ else _
          by_cases hi : i = id
          · rw [if_pos hi]
            have : Nat.beq i id = true := by subst hi; exact Nat.beq_refl i
            exact ⟨by rw [this]; rfl, hp⟩
          · rw [if_neg hi]
            have : Nat.beq i id = false := by
              cases hb : Nat.beq i id with
              | false => rfl
              | true => exact absurd (Nat.eq_of_beq_eq_true hb) hi
            exact ⟨by rw [this]; rfl, hp⟩
        | ret => injection e with e; injection e with e1 e2; subst e1; subst e2; exact ⟨rfl, hp⟩
      case loop p => exact wp_loop_rounds (f + 1) (loops p m s x s' a w R (by simp only [codeA]; exact e) _ fun _ _ _ h => h)
      case scope p =>
        refine wp_scope_straight (wp_mono (ih1 p m s x s' a w R e) fun e' a1 w1 hp => ?_)
        obtain ⟨rfl, hp⟩ := hp
        cases x <;> exact ⟨rfl, hp⟩
      case region id ops draw =>
        replace e := bnd_some.1 e; obtain ⟨s1, h1, e⟩ := e
        injection e with e; injection e with e1 e2; subst e1; subst e2
        cases draw with
        | true => exact hd _ ih2 id ops m s s1 a w _ R h1 fun m' a' w' R' W' n' => ⟨rfl, m', R', W', n'⟩
        | false => exact wp_region_list (opsA_wp ih2 _ R h1 fun m' a' w' R' W' n' => ⟨rfl, m', R', W', n'⟩)
    · simp only [callA] at e
      cases hg : getExt C.ext g with
      | some k =>
        rw [hg] at e
        replace e : ((extA C.P k args).bind fun v => some (v, h)) = some (v, h') := e
        replace e := bnd_some.1 e; obtain ⟨u, hu, e⟩ := e
        injection e with e; injection e with e1 e2; subst e1; subst e2
        obtain ⟨v', h1, h2⟩ := hx g k hg m w args args' u hv hu
        exact .inr ⟨v', m, w, h2, h1, .refl _ _, Nat.le_refl _, R.same⟩
      | none =>
        rw [hg] at e
        replace e : ((C.P.funcs[g]?).bind fun fn => fn.body.bind fun c =>
          (codeA C f c ⟨putArgs args 0 .lf, args.length + (fn.ntmps - args.length), h⟩).bind fun
          | (.exit _, _) => none
          | (_, s) => (resultsA C.P s.env s.h fn.results.toList).bind fun vs => some (oneOf vs, s.h)) = some (v, h') := e
        replace e := bnd_some.1 e; obtain ⟨fn, hfn, e⟩ := e
        replace e := bnd_some.1 e; obtain ⟨c, hc, e⟩ := e
        replace e := bnd_some.1 e; obtain ⟨⟨y, s1⟩, hs, e⟩ := e
        refine .inl ⟨Go.MuLone.run_callFunc_enter hfn (hng g fn hfn) hc _ w, calls_of_wp hfn hc (wp_mono (ih1 c m _ y s1 _ w (enter_rel R hv fn.ntmps) hs) fun e' a1 w1 hp => ?_)⟩
        obtain ⟨rfl, m1, R1, W1, n1⟩ := hp
        have fin : ((resultsA C.P s1.env s1.h fn.results.toList).bind fun vs => some (oneOf vs, s1.h)) = some (v, h') →
            a1.defers = [] ∧ ∃ v', (results fn a1.tmps).run C.P w1 = .ok v' w1 ∧ ∃ m' v'', Ending.returned v' = .returned v'' ∧ VRel m' v v'' ∧ Went C.P N0 w0 m h w m' h' w1 := fun e => by
          replace e := bnd_some.1 e; obtain ⟨vs, h1, e⟩ := e
          injection e with e; injection e with e1 e2; subst e1; subst e2
          obtain ⟨v', h2, h3⟩ := results_run R1 h1
          exact ⟨R1.defers, v', h2, m1, v', rfl, h3, W1⟩
        cases y with
        | norm => exact fin e
        | exit id => cases e
        | ret => exact fin e
end
end Go.Proofs.YtkhgfdlinobabaaGreatDoor.AM

/- Regions whose order is open: what does not hang on the order. -/
namespace Go.Proofs.YtkhgfdlinobabaaGreatDoor.AM
open Go.RowKit (Below)

/-! ### The same operands, the same value -/
section
variable {P : Program} {ev ev' : Operand → Option V}

theorem partsOf_congr : ∀ (ps : List (Nat × Operand)), (∀ x ∈ ps.map (·.2), ev x = ev' x) → partsOf ev ps = partsOf ev' ps
  | [], _ => rfl
  | (i, x) :: ps, h => by
    have h1 : ev x = ev' x := h x (by simp)
    have h2 := partsOf_congr ps fun y hy => h y (by simp only [List.map_cons, List.mem_cons]; exact .inr hy)
    simp only [partsOf, h1, h2]
theorem evAll_congr : ∀ (xs : List Operand), (∀ x ∈ xs, ev x = ev' x) → evAll ev xs = evAll ev' xs
  | [], _ => rfl
  | x :: xs, h => by
    have h1 : ev x = ev' x := h x (by simp)
    have h2 := evAll_congr xs fun y hy => h y (by simp [hy])
    simp only [evAll, h1, h2]
theorem plainArgs_congr : ∀ (xs : List Operand), (∀ x ∈ xs, ev x = ev' x) → plainArgs ev xs = plainArgs ev' xs
  | [], _ => rfl
  | x :: xs, h => by
    have h1 : ev x = ev' x := h x (by simp)
    have h2 := plainArgs_congr xs fun y hy => h y (by simp [hy])
    simp only [plainArgs, h1, h2]
theorem plainA_congr {o : Oper} (hs : ∀ cs b, o.op ≠ .select cs b) (h : ∀ x ∈ o.op.operands, ev x = ev' x) : plainA P ev o = plainA P ev' o := by
  unfold plainA
  rw [plainArgs_congr (ev := ev) (ev' := ev') _ (fun x hx => h x (by simpa using hx))]
  have : execOp (plainEv ev) o = execOp (plainEv ev') o := execOp_congr o hs fun x hx => by simp only [plainEv, h x hx]
  rw [this]
theorem arg2_congr {c : Call} (h : ∀ x ∈ c.args, ev x = ev' x) : arg2 ev c = arg2 ev' c := by
  unfold arg2
  cases h0 : c.args[0]? with
  | none => rfl
  | some x =>
    cases h1 : c.args[1]? with
    | none => rfl
    | some y =>
      have e0 := h x (Array.mem_of_getElem? h0)
      have e1 := h y (Array.mem_of_getElem? h1)
      simp only [Option.bind_some, e0, e1]
theorem mem_args {c : Call} {x : Operand} (h : x ∈ c.args) : x ∈ c.operands := by simp [Call.operands, h]
theorem pureA_congr {o : Oper} (hs : ∀ cs b, o.op ≠ .select cs b) (h : ∀ x ∈ o.op.operands, ev x = ev' x) : pureA P ev o = pureA P ev' o := by
  have hp := plainA_congr (P := P) hs h
  obtain ⟨dst, op, type, pos, after, guard⟩ := o
  cases op <;> simp only [pureA] <;> simp only [Op.operands] at h <;> first | exact hp | skip
  case move x => exact h x (by simp)
  case assign x => exact h x (by simp)
  case pick c a b => rw [h c (by simp), h a (by simp), h b (by simp)]
  case build t ps => rw [partsOf_congr (ev := ev) (ev' := ev') _ (fun x hx => h x (by simpa using hx))]
  case nilCheck x => rw [h x (by simp)]
  case binOp op t x y u => rw [h x (by simp), h y (by simp), hp]
  case convert s d x => rw [h x (by simp), hp]
  case makeInterface t x => rw [h x (by simp)]
  case makeFunc fn first captured =>
    rw [evAll_congr (ev := ev) (ev' := ev') first.toList (fun x hx => h x (by simp; exact .inl (by simpa using hx))), evAll_congr (ev := ev) (ev' := ev') captured.toList (fun x hx => h x (by simp; exact .inr (by simpa using hx)))]
  case fieldAddr s x f => rw [h x (by simp)]
  case field s x f => rw [h x (by simp)]
  case indexAddr t x i => rw [h x (by simp), h i (by simp)]
  case index t x i => rw [h x (by simp), h i (by simp)]
  case extract t ix => rw [h t (by simp)]
  case call c =>
    have arg : ∀ {β : Type} (f : Operand → Option V → Option β), ((c.args[0]?).bind fun x => f x (ev x)) = ((c.args[0]?).bind fun x => f x (ev' x)) := fun f => by
      cases h0 : c.args[0]? with
      | none => rfl
      | some x => simp only [Option.bind_some, h x (mem_args (Array.mem_of_getElem? h0))]
    split
    · exact arg fun x q => q.bind fun a => (c.argTypes[0]?).bind fun t => (P.underlying t).bind fun d => grd (lenOk d a) (lenPureA a)
    · exact arg fun x q => q.bind fun a => (c.argTypes[0]?).bind fun t => (P.underlying t).bind fun | .slice _ => capPureA a | _ => none
    · exact hp
    · exact hp
    · exact arg fun x q => q.bind fun v => v.sl?.bind fun p => grd (!Nat.beq (p.2.2.2.getD p.2.2.1) 0 && Nat.beq c.args.size 1) (some (V.ptr p.1 p.2.1))
    · rfl
theorem optA_congr {x : Option Operand} (h : ∀ y ∈ x, ev y = ev' y) : optA ev x = optA ev' x := by
  cases x with
  | none => rfl
  | some y => simp only [optA, h y rfl]
theorem loadA_congr {o : Oper} (h : ∀ x ∈ o.op.operands, ev x = ev' x) : loadA P ev o = loadA P ev' o := by
  funext hp
  obtain ⟨dst, op, type, pos, after, guard⟩ := o
  cases op <;> simp only [loadA] <;> simp only [Op.operands] at h
  case load t a => rw [h a (by simp)]
  case slice t x lo hi mx =>
    rw [h x (by simp), optA_congr (ev := ev) (ev' := ev') (x := lo) (fun y hy => h y (by cases hy; simp)), optA_congr (ev := ev) (ev' := ev') (x := hi) (fun y hy => h y (by cases hy; simp)), optA_congr (ev := ev) (ev' := ev') (x := mx) (fun y hy => h y (by cases hy; simp))]
  case convert s d x => rw [h x (by simp)]
theorem allocA_congr {o : Oper} (h : ∀ x ∈ o.op.operands, ev x = ev' x) : allocA P ev o = allocA P ev' o := by
  funext nid
  obtain ⟨dst, op, type, pos, after, guard⟩ := o
  cases op <;> simp only [allocA] <;> simp only [Op.operands] at h
  case box t x => rw [h x (by simp)]
  case buildSlice t n ps => rw [partsOf_congr (ev := ev) (ev' := ev') _ (fun x hx => h x (by simpa using hx))]
  case makeSlice t l c => rw [h l (by simp), h c (by simp)]
  case convert s d x => rw [h x (by simp)]
theorem heavyA_congr {call : FuncId → List V → H → Option (V × H)} {o : Oper} (h : ∀ x ∈ o.op.operands, ev x = ev' x) : heavyA P call ev = heavyA P call ev ∧ ∀ k nid hp, heavyA P call ev k o nid hp = heavyA P call ev' k o nid hp := by
  refine ⟨rfl, fun k nid hp => ?_⟩
  cases k <;> simp only [heavyA]
  case loud =>
    obtain ⟨dst, op, type, pos, after, guard⟩ := o
    cases op <;> simp only [loudA] <;> simp only [Op.operands] at h
    case store t a x => rw [h a (by simp), h x (by simp)]
    case convert s d x => rw [h x (by simp)]
    case call c =>
      split
      · rename_i b hb
        have e2 := arg2_congr (ev := ev) (ev' := ev') (c := c) fun x hx => h x (mem_args hx)
        cases b <;> simp only [loudB, e2]
        cases h0 : c.args[0]? with
        | none => rfl
        | some x => simp only [Option.bind_some, h x (mem_args (Array.mem_of_getElem? h0))]
      · rfl
  case call =>
    obtain ⟨dst, op, type, pos, after, guard⟩ := o
    cases op <;> simp only [calleeA] <;> simp only [Op.operands] at h
    case call c =>
      split
      · rename_i f hf
        rw [h f (by simp [Call.operands, hf]), evAll_congr (ev := ev) (ev' := ev') _ (fun x hx => h x (mem_args (by simpa using hx)))]
      · rfl
end

/-! ### The same value -/
theorem same1_eq : ∀ {a b : V}, same1 a b = true → a = b := by
  intro a b h
  unfold same1 at h
  split at h <;> simp_all
  all_goals first | (obtain ⟨h1, h2⟩ := h; exact ⟨Nat.eq_of_beq_eq_true h1, Nat.eq_of_beq_eq_true h2⟩) | (obtain ⟨⟨⟨h1, h2⟩, h3⟩, h4⟩ := h; exact ⟨Nat.eq_of_beq_eq_true h1, Nat.eq_of_beq_eq_true h2, Nat.eq_of_beq_eq_true h3, h4⟩) | exact Nat.eq_of_beq_eq_true h
theorem sameL_eq : ∀ {a b : List V}, sameL a b = true → a = b
  | [], [], _ => rfl
  | x :: xs, y :: ys, h => by
    simp only [sameL, Bool.and_eq_true] at h
    rw [same1_eq h.1, sameL_eq h.2]
  | [], _ :: _, h => by simp [sameL] at h
  | _ :: _, [], h => by simp [sameL] at h
theorem sameV_eq {a b : V} (h : sameV a b = true) : a = b := by
  unfold sameV at h
  split at h
  · rw [sameL_eq h]
  · exact same1_eq h

/-! ### Which operations wait for which -/
theorem masksOf_len : ∀ (os : List Oper) (acc : List Nat), (masksOf os acc).length = acc.length + os.length
  | [], acc => by simp [masksOf]
  | o :: os, acc => by rw [masksOf, masksOf_len os]; simp; omega
theorem masksOf_old : ∀ (os : List Oper) (acc : List Nat) (i : Nat), i < acc.length → (masksOf os acc)[i]? = acc[i]?
  | [], acc, i, h => rfl
  | o :: os, acc, i, h => by
    rw [masksOf, masksOf_old os _ i (by simp; omega), List.getElem?_append_left h]
theorem masksOf_at (o : Oper) (os : List Oper) (acc : List Nat) : (masksOf (o :: os) acc)[acc.length]? = some (ancOf ((masksOf (o :: os) acc).take acc.length) o.after.toList) := by
  have e : masksOf (o :: os) acc = masksOf os (acc ++ [ancOf acc o.after.toList]) := rfl
  rw [e]
  have : (masksOf os (acc ++ [ancOf acc o.after.toList])).take acc.length = acc := by
    apply List.ext_getElem?
    intro k
    rw [List.getElem?_take]
    by_cases hk : k < acc.length
    · rw [if_pos hk, masksOf_old os _ _ (by simp; omega), List.getElem?_append_left hk]
    · rw [if_neg hk, List.getElem?_eq_none (by omega)]
  rw [this, masksOf_old os _ _ (by simp)]
  simp
theorem masksOf_get (os : List Oper) : ∀ (acc : List Nat) (i : Nat) (o : Oper), os[i]? = some o → (masksOf os acc)[acc.length + i]? = some (ancOf ((masksOf os acc).take (acc.length + i)) o.after.toList) := by
  induction os with
  | nil => intro acc i o h; simp at h
  | cons o os ih =>
    intro acc i o' h
    cases i with
    | zero =>
      simp only [List.getElem?_cons_zero, Option.some.injEq] at h
      subst h
      exact masksOf_at o os acc
    | succ i =>
      have h1 := ih (acc ++ [ancOf acc o.after.toList]) i o' h
      have e : masksOf (o :: os) acc = masksOf os (acc ++ [ancOf acc o.after.toList]) := rfl
      have l : (acc ++ [ancOf acc o.after.toList]).length + i = acc.length + (i + 1) := by simp; omega
      rw [l] at h1
      rw [e]
      exact h1
theorem ancOf_bit : ∀ (ms : List Nat) (es : List Edge) (j : Nat), Nat.testBit (ancOf ms es) j = true → ∃ e ∈ es, Region.binds .any e = true ∧ (e.on = j ∨ ∃ mk, ms[e.on]? = some mk ∧ Nat.testBit mk j = true)
  | ms, [], j, h => by simp [ancOf] at h
  | ms, e :: es, j, h => by
    simp only [ancOf] at h
    cases hb : Region.binds .any e with
    | false =>
      rw [hb] at h
      obtain ⟨e', h1, h2⟩ := ancOf_bit ms es j h
      exact ⟨e', by simp [h1], h2⟩
    | true =>
      rw [hb] at h
      simp only [cond_true, Nat.testBit_or, Bool.or_eq_true, lget_eq] at h
      rcases h with h | h | h
      · refine ⟨e, by simp, hb, .inl ?_⟩
        rw [Nat.testBit_two_pow] at h
        simpa using h
      · refine ⟨e, by simp, hb, .inr ?_⟩
        cases hm : ms[e.on]? with
        | none => rw [hm] at h; simp at h
        | some mk => rw [hm] at h; exact ⟨mk, rfl, h⟩
      · obtain ⟨e', h1, h2⟩ := ancOf_bit ms es j h
        exact ⟨e', by simp [h1], h2⟩

/-- What an operation waits for stands in each set that holds its edges and is closed. -/
theorem mask_listed {ops : Array Oper} {L : Nat → Prop} (closed : ∀ i o, ops[i]? = some o → L i → ∀ e ∈ o.after, Region.binds .any e = true → L e.on) :
    ∀ (i : Nat) (o : Oper) (mk : Nat), ops[i]? = some o → (masksOf ops.toList [])[i]? = some mk → (∀ e ∈ o.after, Region.binds .any e = true → L e.on) → ∀ j, Nat.testBit mk j = true → L j := by
  intro i
  induction i using Nat.strongRecOn with
  | _ i ih =>
    intro o mk ho hmk he j hj
    have h1 := masksOf_get ops.toList [] i o (by simpa using ho)
    simp only [List.length_nil, Nat.zero_add] at h1
    rw [hmk] at h1
    injection h1 with h1; subst h1
    obtain ⟨e, e1, e2, e3⟩ := ancOf_bit _ _ _ hj
    have e1 : e ∈ o.after := by simpa using e1
    have hL := he e e1 e2
    rcases e3 with rfl | ⟨mk', e4, e5⟩
    · exact hL
    · rw [List.getElem?_take] at e4
      have hlt : e.on < i := by
        by_cases h : e.on < i
        · exact h
        · rw [if_neg h] at e4; cases e4
      rw [if_pos hlt] at e4
      have hn : i < ops.size := (Array.getElem?_eq_some_iff.1 ho).1
      have ho' : ops[e.on]? = some ops[e.on] := by simp
      exact ih e.on hlt _ mk' ho' e4 (closed _ _ ho' hL) j e5

/-! ### What a region that may be drawn keeps -/
theorem laterOK_spec {P : Program} {ops : Array Oper} {i : Nat} {oi : Oper} {ki : Kd} : ∀ (os : List Oper) (ms : List Nat) (j : Nat), laterOK P ops i oi ki j os ms = true → ∀ (k : Nat) (o : Oper) (mk : Nat), os[k]? = some o → ms[k]? = some mk → Nat.testBit mk i = true ∨ (pairOK ki (kindOf P o) = true ∧ oi.apart ops o = true)
  | [], ms, j, h, k, o, mk, e, e' => by simp at e
  | o :: os, [], j, h, k, o', mk, e, e' => by simp at e'
  | o :: os, mk :: ms, j, h, k, o', mk', e, e' => by
    simp only [laterOK, Bool.and_eq_true, Bool.or_eq_true] at h
    cases k with
    | zero =>
      simp only [List.getElem?_cons_zero, Option.some.injEq] at e e'
      subst e; subst e'
      exact h.1
    | succ k => exact laterOK_spec os ms (j + 1) h.2 k o' mk' e e'
theorem allOK_spec {P : Program} {ops : Array Oper} : ∀ (os : List Oper) (ms : List Nat) (i : Nat), allOK P ops i os ms = true → ∀ (k : Nat) (o : Oper) (mk : Nat), os[k]? = some o → ms[k]? = some mk →
    (∀ e ∈ o.after, Region.binds .any e = true → e.on < i + k) ∧ ∀ (l : Nat) (o' : Oper) (mk' : Nat), k < l → os[l]? = some o' → ms[l]? = some mk' → Nat.testBit mk' (i + k) = true ∨ (pairOK (kindOf P o) (kindOf P o') = true ∧ o.apart ops o' = true)
  | [], ms, i, h, k, o, mk, e, e' => by simp at e
  | o :: os, [], i, h, k, o', mk, e, e' => by simp at e'
  | o :: os, mk :: ms, i, h, k, o', mk', e, e' => by
    simp only [allOK, Bool.and_eq_true] at h
    cases k with
    | zero =>
      simp only [List.getElem?_cons_zero, Option.some.injEq] at e e'
      subst e; subst e'
      refine ⟨fun ed he hb => ?_, fun l o2 mk2 hl e2 e2' => ?_⟩
      · have := Array.all_eq_true_iff_forall_mem.1 h.1.1 ed he
        simp only [hb, Bool.not_true, Bool.false_or] at this
        exact Nat.le_of_ble_eq_true this
      · obtain ⟨l, rfl⟩ : ∃ q, l = q + 1 := ⟨l - 1, by omega⟩
        exact laterOK_spec os ms (i + 1) h.1.2 l o2 mk2 e2 e2'
    | succ k =>
      obtain ⟨h1, h2⟩ := allOK_spec os ms (i + 1) h.2 k o' mk' e e'
      refine ⟨fun ed he hb => by have := h1 ed he hb; omega, fun l o2 mk2 hl e2 e2' => ?_⟩
      obtain ⟨l, rfl⟩ : ∃ q, l = q + 1 := ⟨l - 1, by omega⟩
      have := h2 l o2 mk2 (by omega) e2 e2'
      rwa [show i + (k + 1) = i + 1 + k by omega]
/-- Two operations of a region: the later one waits for the former, or either may come first. -/
theorem regOK_pair {P : Program} {ops : Array Oper} (h : regOK P ops = true) {i j : Nat} {oi oj : Oper} {mk : Nat} (hij : i < j) (hi : ops[i]? = some oi) (hj : ops[j]? = some oj) (hmk : (masksOf ops.toList [])[j]? = some mk) :
    Nat.testBit mk i = true ∨ (pairOK (kindOf P oi) (kindOf P oj) = true ∧ oi.apart ops oj = true) := by
  simp only [regOK, Bool.and_eq_true] at h
  have hlt : i < (masksOf ops.toList []).length := by
    rw [masksOf_len]
    have := (Array.getElem?_eq_some_iff.1 hi).1
    simpa using this
  have := (allOK_spec _ _ _ h.2 i oi _ (by simpa using hi) (List.getElem?_eq_getElem hlt)).2 j oj mk hij (by simpa using hj) hmk
  simpa using this
theorem regOK_back {P : Program} {ops : Array Oper} (h : regOK P ops = true) {i : Nat} {o : Oper} (hi : ops[i]? = some o) : ∀ e ∈ o.after, Region.binds .any e = true → e.on < i := by
  simp only [regOK, Bool.and_eq_true] at h
  have hlt : i < (masksOf ops.toList []).length := by
    rw [masksOf_len]
    have := (Array.getElem?_eq_some_iff.1 hi).1
    simpa using this
  have := (allOK_spec _ _ _ h.2 i o _ (by simpa using hi) (List.getElem?_eq_getElem hlt)).1
  simpa using this
end Go.Proofs.YtkhgfdlinobabaaGreatDoor.AM

/- Regions whose order is open: the run in the order of the text, and what each operation did in it. -/
namespace Go.Proofs.YtkhgfdlinobabaaGreatDoor.AM
open Go.RowKit (Below)

inductive Fact (P : Program) (call : FuncId → List V → H → Option (V × H)) (dsts : Nat → Option Tmp) (n base i : Nat) (o : Oper) (mk : Nat) (d d' : D) (v : V) : Prop where
  | skip : wantA dsts d.env o = some false → v = .undef → d' = { d with env := putT d.env n o.dst .undef } → Fact P call dsts n base i o mk d d' v
  | pure : wantA dsts d.env o = some true → kindOf P o = .pure → pureA P (evT P d.env) o = some v → d' = { d with env := putT d.env n o.dst v } → Fact P call dsts n base i o mk d d' v
  | load : wantA dsts d.env o = some true → kindOf P o = .load → loadA P (evT P d.env) o d.hb = some v → backOK (loadA P (evT P d.env) o) v mk d.bs = true → d' = { d with env := putT d.env n o.dst v, ws := (i, loadA P (evT P d.env) o, v) :: d.ws } → Fact P call dsts n base i o mk d d' v
  | alloc (r : Row) : wantA dsts d.env o = some true → kindOf P o = .alloc → allocA P (evT P d.env) o (base + i) = some (v, r) → d' = { d with env := putT d.env n o.dst v, h := d.h.set (base + i) (some (.row r)) } → Fact P call dsts n base i o mk d d' v
  | heavy (h' : H) : wantA dsts d.env o = some true → isHeavy (kindOf P o) = true → heavyA P call (evT P d.env) (kindOf P o) o (base + i) d.h = some (v, h') → againOK h' mk d.ws = true → d' = ⟨putT d.env n o.dst v, h', h', (i, d.hb) :: d.bs, d.ws⟩ → Fact P call dsts n base i o mk d d' v

section
variable {P : Program} {call : FuncId → List V → H → Option (V × H)}

theorem stepD_fact {dsts : Nat → Option Tmp} {n base i mk : Nat} {o : Oper} {d d' : D} (hw : wantA dsts d.env o = some true) (e : stepD P call n base i mk o d = some d') : ∃ v, Fact P call dsts n base i o mk d d' v := by
  unfold stepD at e
  have heavy : ∀ k, kindOf P o = k → isHeavy k = true → ((heavyA P call (evT P d.env) k o (base + i) d.h).bind fun r => grd (againOK r.2 mk d.ws) (some (⟨putT d.env n o.dst r.1, r.2, r.2, (i, d.hb) :: d.bs, d.ws⟩ : D))) = some d' → ∃ v, Fact P call dsts n base i o mk d d' v := by
    intro k hk hk' e
    subst hk
    replace e := bnd_some.1 e; obtain ⟨⟨v, h'⟩, hh, e⟩ := e
    replace e := grd_some.1 e; obtain ⟨hg, e⟩ := e
    injection e with e
    exact ⟨v, .heavy h' hw hk' hh hg e.symm⟩
  split at e
  · rename_i hk
    replace e := bnd_some.1 e; obtain ⟨v, hv, e⟩ := e
    injection e with e
    exact ⟨v, .pure hw hk hv e.symm⟩
  · rename_i hk
    replace e := bnd_some.1 e; obtain ⟨v, hv, e⟩ := e
    replace e := grd_some.1 e; obtain ⟨hg, e⟩ := e
    injection e with e
    exact ⟨v, .load hw hk hv hg e.symm⟩
  · rename_i hk
    replace e := bnd_some.1 e; obtain ⟨⟨v, r⟩, hv, e⟩ := e
    injection e with e
    exact ⟨v, .alloc r hw hk hv e.symm⟩
  · rename_i h1 h2 h3
    refine heavy _ rfl ?_ e
    cases hk : kindOf P o <;> first | rfl | exact absurd hk h1 | exact absurd hk h2 | exact absurd hk h3

theorem opsD_facts {dsts : Nat → Option Tmp} {n base : Nat} : ∀ (os : List Oper) (ms : List Nat) (i : Nat) (d d' : D), opsD P call dsts n base i os ms d = some d' →
    ∃ (dd : Nat → D) (val : Nat → V), dd 0 = d ∧ dd os.length = d' ∧ ∀ (k : Nat) (o : Oper) (mk : Nat), os[k]? = some o → ms[k]? = some mk → Fact P call dsts n base (i + k) o mk (dd k) (dd (k + 1)) (val k)
  | [], ms, i, d, d', e => by
    have e : some d = some d' := by cases ms <;> exact e
    injection e with e; subst e
    exact ⟨fun _ => d, fun _ => .undef, rfl, rfl, fun k o mk h => by simp at h⟩
  | o :: os, [], i, d, d', e => by cases e
  | o :: os, mk :: ms, i, d, d', e => by
    replace e : ((wantA dsts d.env o).bind fun b => (cond b (stepD P call n base i mk o d) (some { d with env := putT d.env n o.dst .undef })).bind fun d' => opsD P call dsts n base (i + 1) os ms d') = some d' := e
    replace e := bnd_some.1 e; obtain ⟨b, hb, e⟩ := e
    replace e := bnd_some.1 e; obtain ⟨d1, h1, e⟩ := e
    obtain ⟨dd, val, h2, h3, h4⟩ := opsD_facts os ms (i + 1) d1 d' e
    have hf : ∃ v, Fact P call dsts n base i o mk d d1 v := by
      cases b with
      | true => exact stepD_fact hb h1
      | false =>
        have h1 : some { d with env := putT d.env n o.dst .undef } = some d1 := h1
        injection h1 with h1
        exact ⟨.undef, .skip hb rfl h1.symm⟩
    obtain ⟨v, hf⟩ := hf
    refine ⟨fun k => match k with | 0 => d | k + 1 => dd k, fun k => match k with | 0 => v | k + 1 => val k, rfl, h3, fun k o' mk' h5 h6 => ?_⟩
    cases k with
    | zero =>
      simp only [List.getElem?_cons_zero, Option.some.injEq] at h5 h6
      subst h5; subst h6
      rw [Nat.add_zero]
      show Fact P call dsts n base i o mk d (dd 0) v
      rw [h2]; exact hf
    | succ k =>
      have := h4 k o' mk' h5 h6
      rwa [show i + 1 + k = i + (k + 1) by omega] at this
end

/-- The text's run of a region. -/
structure Run (P : Program) (call : FuncId → List V → H → Option (V × H)) (ops : Array Oper) (s : S) (d' : D) (dd : Nat → D) (val : Nat → V) : Prop where
  ok : regOK P ops = true
  zero : dd 0 = ⟨s.env, s.h.bump ops.size, s.h.bump ops.size, [], []⟩
  last : dd ops.size = d'
  fact : ∀ (i : Nat) (o : Oper) (mk : Nat), ops[i]? = some o → (masksOf ops.toList [])[i]? = some mk → Fact P call (dstOf ops) s.n s.h.next i o mk (dd i) (dd (i + 1)) (val i)
theorem drawA_run {P : Program} {call : FuncId → List V → H → Option (V × H)} {ops : Array Oper} {s s' : S} (e : drawA P call ops s = some s') :
    ∃ d' dd val, Run P call ops s d' dd val ∧ s' = ⟨d'.env, s.n, d'.h⟩ := by
  replace e := grd_some.1 e; obtain ⟨hok, e⟩ := e
  replace e := bnd_some.1 e; obtain ⟨d', h1, e⟩ := e
  injection e with e
  obtain ⟨dd, val, h2, h3, h4⟩ := opsD_facts _ _ _ _ _ h1
  refine ⟨d', dd, val, ⟨hok, h2, by simpa using h3, fun i o mk h5 h6 => ?_⟩, e.symm⟩
  have := h4 i o mk (by simpa using h5) h6
  rwa [Nat.zero_add] at this

theorem mask_of {ops : Array Oper} {i : Nat} {o : Oper} (h : ops[i]? = some o) : ∃ mk, (masksOf ops.toList [])[i]? = some mk := by
  have hlt : i < (masksOf ops.toList []).length := by
    rw [masksOf_len]
    have := (Array.getElem?_eq_some_iff.1 h).1
    simpa using this
  exact ⟨_, List.getElem?_eq_getElem hlt⟩

section
variable {P : Program} {call : FuncId → List V → H → Option (V × H)} {ops : Array Oper} {s : S} {d' : D} {dd : Nat → D} {val : Nat → V}

/-- A wanted operation that changes memory. -/
def Hv (P : Program) (ops : Array Oper) (dd : Nat → D) (i : Nat) : Prop := ∃ o, ops[i]? = some o ∧ isHeavy (kindOf P o) = true ∧ wantA (dstOf ops) (dd i).env o = some true
def Al (P : Program) (ops : Array Oper) (s : S) (dd : Nat → D) (val : Nat → V) (i : Nat) (r : Row) : Prop :=
  ∃ o, ops[i]? = some o ∧ kindOf P o = .alloc ∧ wantA (dstOf ops) (dd i).env o = some true ∧ allocA P (evT P (dd i).env) o (s.h.next + i) = some (val i, r)
theorem Al.same {i : Nat} {r r' : Row} (a : Al P ops s dd val i r) (b : Al P ops s dd val i r') : r = r' := by
  obtain ⟨o, h1, _, _, h2⟩ := a
  obtain ⟨o', h3, _, _, h4⟩ := b
  rw [h1] at h3; injection h3 with h3; subst h3
  rw [h2] at h4; injection h4 with h4; injection h4
theorem Al.lt {i : Nat} {r : Row} (a : Al P ops s dd val i r) : i < ops.size := by
  obtain ⟨o, h1, _⟩ := a
  exact (Array.getElem?_eq_some_iff.1 h1).1
theorem Hv.lt {i : Nat} (a : Hv P ops dd i) : i < ops.size := by
  obtain ⟨o, h1, _⟩ := a
  exact (Array.getElem?_eq_some_iff.1 h1).1

/-- What the step at i did to memory. -/
theorem Run.next (F : Run P call ops s d' dd val) {i : Nat} {o : Oper} (ho : ops[i]? = some o) :
    (dd (i + 1)).env = putT (dd i).env s.n o.dst (val i) ∧ (Hv P ops dd i → (dd (i + 1)).h = (dd (i + 1)).hb ∧ (i, (dd i).hb) ∈ (dd (i + 1)).bs) ∧
    (¬ Hv P ops dd i → (dd (i + 1)).hb = (dd i).hb ∧ ((∃ r, Al P ops s dd val i r ∧ (dd (i + 1)).h = (dd i).h.set (s.h.next + i) (some (.row r))) ∨ (∀ r, ¬ Al P ops s dd val i r) ∧ (dd (i + 1)).h = (dd i).h)) ∧
    (∀ x ∈ (dd i).bs, x ∈ (dd (i + 1)).bs) ∧ (∀ x ∈ (dd i).ws, x ∈ (dd (i + 1)).ws) := by
  obtain ⟨mk, hmk⟩ := mask_of ho
  have nohv : isHeavy (kindOf P o) = false → ¬ Hv P ops dd i := fun h ⟨o', h1, h2, _⟩ => by
    rw [ho] at h1; injection h1 with h1; subst h1; rw [h] at h2; cases h2
  have nohw : wantA (dstOf ops) (dd i).env o = some false → ¬ Hv P ops dd i := fun h ⟨o', h1, _, h2⟩ => by
    rw [ho] at h1; injection h1 with h1; subst h1; rw [h] at h2; cases h2
  have noal : kindOf P o ≠ .alloc → ∀ r, ¬ Al P ops s dd val i r := fun h r ⟨o', h1, h2, _⟩ => by
    rw [ho] at h1; injection h1 with h1; subst h1; exact h h2
  have noaw : wantA (dstOf ops) (dd i).env o = some false → ∀ r, ¬ Al P ops s dd val i r := fun h r ⟨o', h1, _, h2, _⟩ => by
    rw [ho] at h1; injection h1 with h1; subst h1; rw [h] at h2; cases h2
  cases F.fact i o mk ho hmk with
  | skip hw hv hd =>
    rw [hd, hv]
    exact ⟨rfl, fun h => absurd h (nohw hw), fun _ => ⟨rfl, .inr ⟨noaw hw, rfl⟩⟩, fun _ h => h, fun _ h => h⟩
  | pure hw hk hv hd =>
    rw [hd]
    exact ⟨rfl, fun h => absurd h (nohv (by rw [hk]; rfl)), fun _ => ⟨rfl, .inr ⟨noal (by rw [hk]; intro h; cases h), rfl⟩⟩, fun _ h => h, fun _ h => h⟩
  | load hw hk hv hb hd =>
    rw [hd]
    exact ⟨rfl, fun h => absurd h (nohv (by rw [hk]; rfl)), fun _ => ⟨rfl, .inr ⟨noal (by rw [hk]; intro h; cases h), rfl⟩⟩, fun _ h => h, fun _ h => List.mem_cons_of_mem _ h⟩
  | alloc r hw hk hv hd =>
    rw [hd]
    exact ⟨rfl, fun h => absurd h (nohv (by rw [hk]; rfl)), fun _ => ⟨rfl, .inl ⟨r, ⟨o, ho, hk, hw, hv⟩, rfl⟩⟩, fun _ h => h, fun _ h => h⟩
  | heavy h' hw hk hv hg hd =>
    rw [hd]
    exact ⟨rfl, fun _ => ⟨rfl, by simp⟩, fun h => absurd ⟨o, ho, hk, hw⟩ h, fun _ h => List.mem_cons_of_mem _ h, fun _ h => h⟩

theorem Run.bs (F : Run P call ops s d' dd val) {l : Nat} (hl : Hv P ops dd l) : ∀ i, l < i → i ≤ ops.size → (l, (dd l).hb) ∈ (dd i).bs := by
  intro i hi hn
  obtain ⟨k, rfl⟩ : ∃ k, i = l + 1 + k := ⟨i - (l + 1), by omega⟩
  clear hi
  induction k with
  | zero =>
    have hl' := hl
    obtain ⟨o, ho, _⟩ := hl'
    exact ((F.next ho).2.1 hl).2
  | succ k ih =>
    have ho : ops[l + 1 + k]? = some ops[l + 1 + k] := by simp
    exact (F.next ho).2.2.2.1 _ (ih (by omega))
theorem Run.ws (F : Run P call ops s d' dd val) {l : Nat} {o : Oper} (ho : ops[l]? = some o) (hk : kindOf P o = .load) (hw : wantA (dstOf ops) (dd l).env o = some true) :
    ∀ i, l < i → i ≤ ops.size → (l, loadA P (evT P (dd l).env) o, val l) ∈ (dd i).ws := by
  intro i hi hn
  obtain ⟨k, rfl⟩ : ∃ k, i = l + 1 + k := ⟨i - (l + 1), by omega⟩
  clear hi
  induction k with
  | zero =>
    obtain ⟨mk, hmk⟩ := mask_of ho
    cases F.fact l o mk ho hmk with
    | skip hw' _ _ => rw [hw] at hw'; cases hw'
    | pure _ hk' _ _ => rw [hk] at hk'; cases hk'
    | load _ _ _ _ hd => rw [Nat.add_zero, hd]; simp
    | alloc _ _ hk' _ _ => rw [hk] at hk'; cases hk'
    | heavy _ _ hk' _ _ _ => rw [hk] at hk'; cases hk'
  | succ k ih =>
    have ho : ops[l + 1 + k]? = some ops[l + 1 + k] := by simp
    exact (F.next ho).2.2.2.2 _ (ih (by omega))
/-- Between two operations that change memory it stays. -/
theorem Run.hb_same (F : Run P call ops s d' dd val) (p : Nat) : ∀ k, p + k ≤ ops.size → (∀ l, p ≤ l → l < p + k → ¬ Hv P ops dd l) → (dd (p + k)).hb = (dd p).hb := by
  intro k
  induction k with
  | zero => intro _ _; rfl
  | succ k ih =>
    intro hn h
    have ho : ops[p + k]? = some ops[p + k] := by simp
    rw [show p + (k + 1) = p + k + 1 by omega, ((F.next ho).2.2.1 (h _ (by omega) (by omega))).1]
    exact ih (by omega) fun l h1 h2 => h l h1 (by omega)
theorem backOK_mem {ld : H → Option V} {v : V} {mk : Nat} : ∀ (l : List (Nat × H)), backOK ld v mk l = true → ∀ x ∈ l, Nat.testBit mk x.1 = true ∨ ld x.2 = some v
  | (a, b) :: r, h, x, hx => by
    simp only [backOK, Bool.and_eq_true, Bool.or_eq_true] at h
    rcases List.mem_cons.1 hx with rfl | hx
    · refine h.1.imp_right fun h => ?_
      cases hl : ld b with
      | none => rw [hl] at h; cases h
      | some u => rw [hl] at h; rw [show v = u from sameV_eq h]
    · exact backOK_mem r h.2 x hx
theorem againOK_mem {h : H} {mk : Nat} : ∀ (l : List (Nat × (H → Option V) × V)), againOK h mk l = true → ∀ x ∈ l, Nat.testBit mk x.1 = true ∨ x.2.1 h = some x.2.2
  | (a, b, c) :: r, e, x, hx => by
    simp only [againOK, Bool.and_eq_true, Bool.or_eq_true] at e
    rcases List.mem_cons.1 hx with rfl | hx
    · refine e.1.imp_right fun e => ?_
      dsimp only
      cases hl : b h with
      | none => rw [hl] at e; cases e
      | some u => rw [hl] at e; rw [show c = u from sameV_eq e]
    · exact againOK_mem r e.2 x hx

/-- A load, at any of the memories that it may meet. -/
theorem Run.loads (F : Run P call ops s d' dd val) {i : Nat} {o : Oper} {mk : Nat} (ho : ops[i]? = some o) (hmk : (masksOf ops.toList [])[i]? = some mk) (hk : kindOf P o = .load) (hw : wantA (dstOf ops) (dd i).env o = some true)
    (p : Nat) (hp : p ≤ ops.size) (hlast : p = 0 ∨ ∃ q, p = q + 1 ∧ Hv P ops dd q) (h1 : ∀ l, Hv P ops dd l → p ≤ l → l < i → Nat.testBit mk l = false) (h2 : ∀ l mk', i < l → l < p → Hv P ops dd l → (masksOf ops.toList [])[l]? = some mk' → Nat.testBit mk' i = false) :
    loadA P (evT P (dd i).env) o (dd p).hb = some (val i) := by
  have hi : i < ops.size := (Array.getElem?_eq_some_iff.1 ho).1
  rcases Nat.lt_or_ge i p with hip | hip
  · rcases hlast with rfl | ⟨q, rfl, hq⟩
    · omega
    · obtain ⟨oq, hoq, hkq, hwq⟩ := hq
      obtain ⟨mq, hmq⟩ := mask_of hoq
      have hiq : i < q := by
        rcases Nat.lt_or_ge i q with h | h
        · exact h
        · have : i = q := by omega
          subst this
          rw [ho] at hoq; injection hoq with hoq; subst hoq
          rw [hk] at hkq; cases hkq
      cases F.fact q oq mq hoq hmq with
      | skip hw' _ _ => rw [hwq] at hw'; cases hw'
      | pure _ hk' _ _ => rw [hk'] at hkq; cases hkq
      | load _ hk' _ _ _ => rw [hk'] at hkq; cases hkq
      | alloc _ _ hk' _ _ => rw [hk'] at hkq; cases hkq
      | heavy h' _ _ _ hg hd =>
        have := againOK_mem _ hg _ (F.ws ho hk hw q hiq (by omega))
        rw [h2 q mq hiq (by omega) ⟨oq, hoq, hkq, hwq⟩ hmq] at this
        rw [hd]
        exact this.resolve_left (by simp)
  · have own : loadA P (evT P (dd i).env) o (dd i).hb = some (val i) ∧ backOK (loadA P (evT P (dd i).env) o) (val i) mk (dd i).bs = true := by
      cases F.fact i o mk ho hmk with
      | skip hw' _ _ => rw [hw] at hw'; cases hw'
      | pure _ hk' _ _ => rw [hk] at hk'; cases hk'
      | load _ _ hv hb _ => exact ⟨hv, hb⟩
      | alloc _ _ hk' _ _ => rw [hk] at hk'; cases hk'
      | heavy _ _ hk' _ _ _ => rw [hk] at hk'; cases hk'
    by_cases hex : ∃ l, p ≤ l ∧ l < i ∧ Hv P ops dd l
    · -- the first one
      have first : ∃ l, p ≤ l ∧ l < i ∧ Hv P ops dd l ∧ ∀ k, p ≤ k → k < l → ¬ Hv P ops dd k := by
        obtain ⟨l, hl⟩ := hex
        induction l using Nat.strongRecOn with
        | _ l ih =>
          by_cases hk : ∃ k, p ≤ k ∧ k < l ∧ Hv P ops dd k
          · obtain ⟨k, h3, h4, h5⟩ := hk
            exact ih k h4 ⟨h3, by omega, h5⟩
          · exact ⟨l, hl.1, hl.2.1, hl.2.2, fun k h3 h4 h5 => hk ⟨k, h3, h4, h5⟩⟩
      obtain ⟨l, h3, h4, h5, h6⟩ := first
      have e : (dd l).hb = (dd p).hb := by
        have := F.hb_same p (l - p) (by omega) fun k h7 h8 => h6 k h7 (by omega)
        rwa [show p + (l - p) = l by omega] at this
      have := backOK_mem _ own.2 _ (F.bs h5 i h4 (by omega))
      rw [h1 l h5 h3 h4] at this
      rw [← e]
      exact this.resolve_left (by simp)
    · have e : (dd i).hb = (dd p).hb := by
        have := F.hb_same p (i - p) (by omega) fun k h7 h8 h9 => hex ⟨k, h7, by omega, h9⟩
        rwa [show p + (i - p) = i by omega] at this
      rw [← e]
      exact own.1
end

/-! ### The environment behind a set of operations -/
noncomputable def E (s : S) (dst : Nat → Option Tmp) (val : Nat → V) (L : Nat → Bool) : Nat → T V
  | 0 => s.env
  | i + 1 => cond (L i) (putT (E s dst val L i) s.n (dst i) (val i)) (E s dst val L i)

theorem dstOf_at {ops : Array Oper} {k : Nat} {o : Oper} (h : ops[k]? = some o) : dstOf ops k = o.dst := by simp [dstOf, h]
theorem putT_same {n : Nat} {dst : Option Tmp} {v : V} {e e' : T V} {t : Nat} (h : e.get t = e'.get t) : (putT e n dst v).get t = (putT e' n dst v).get t := by
  cases dst with
  | none => exact h
  | some d =>
    show (cond (Nat.blt d n) (e.put d (some v)) e).get t = (cond (Nat.blt d n) (e'.put d (some v)) e').get t
    cases Nat.blt d n with
    | false => exact h
    | true =>
      show (e.put d (some v)).get t = (e'.put d (some v)).get t
      by_cases ht : t = d
      · subst ht; rw [T.put_get, T.put_get]
      · rw [T.put_get_other _ _ _ _ (Ne.symm ht), T.put_get_other _ _ _ _ (Ne.symm ht)]; exact h
theorem putT_other {n : Nat} {dst : Option Tmp} {v : V} {e : T V} {t : Nat} (h : dst ≠ some t) : (putT e n dst v).get t = e.get t := by
  cases dst with
  | none => rfl
  | some d =>
    show (cond (Nat.blt d n) (e.put d (some v)) e).get t = e.get t
    cases Nat.blt d n with
    | false => rfl
    | true => exact T.put_get_other _ _ _ _ (fun hd => h (by rw [hd]))

section
variable {P : Program} {call : FuncId → List V → H → Option (V × H)} {ops : Array Oper} {s : S} {d' : D} {dd : Nat → D} {val : Nat → V}
theorem Run.env (F : Run P call ops s d' dd val) : ∀ i, i ≤ ops.size → (dd i).env = E s (dstOf ops) val (fun _ => true) i := by
  intro i
  induction i with
  | zero => intro _; rw [F.zero]; rfl
  | succ i ih =>
    intro hi
    have ho : ops[i]? = some ops[i] := by simp
    rw [(F.next ho).1, ih (by omega)]
    show putT _ _ _ _ = putT _ _ _ _
    have : dstOf ops i = ops[i].dst := dstOf_at ho
    rw [this]
theorem E_congr (L L' : Nat → Bool) (n : Nat) (h : ∀ i, i < n → L i = L' i) : E s (dstOf ops) val L n = E s (dstOf ops) val L' n := by
  induction n with
  | zero => rfl
  | succ n ih =>
    simp only [E]
    rw [ih fun i hi => h i (by omega), h n (by omega)]

/-- What an operation looks at is there, whatever else has gone before. -/
theorem Run.looks (F : Run P call ops s d' dd val) {L : Nat → Bool} {j : Nat} {oj : Oper} {mj : Nat} (hj : ops[j]? = some oj) (hmj : (masksOf ops.toList [])[j]? = some mj) (hout : L j = false)
    (hmask : ∀ l, Nat.testBit mj l = true → L l = true) (hup : ∀ i mi, (masksOf ops.toList [])[i]? = some mi → L i = true → Nat.testBit mi j = true → L j = true) {t : Nat} (ht : t ∈ oj.looksAt ops) :
    (E s (dstOf ops) val L ops.size).get t = (dd j).env.get t := by
  have hn : j < ops.size := (Array.getElem?_eq_some_iff.1 hj).1
  rw [F.env j (by omega)]
  have below : ∀ k, k ≤ j → (E s (dstOf ops) val L k).get t = (E s (dstOf ops) val (fun _ => true) k).get t := by
    intro k
    induction k with
    | zero => intro _; rfl
    | succ k ih =>
      intro hk
      have ih := ih (by omega)
      simp only [E]
      cases hL : L k with
      | true => exact putT_same ih
      | false =>
        show (E s (dstOf ops) val L k).get t = (putT _ _ _ _).get t
        rw [putT_other, ih]
        have hk' : k < ops.size := by omega
        have ho : ops[k]? = some ops[k] := by simp
        intro hd
        have hd : ops[k].dst = some t := by rw [← dstOf_at ho]; exact hd
        rcases regOK_pair F.ok (show k < j by omega) ho hj hmj with h | ⟨_, h⟩
        · rw [hmask k h] at hL; cases hL
        · exact (Oper.apart_spec h).1 t hd ht
  have above : ∀ k, j ≤ k → k ≤ ops.size → (E s (dstOf ops) val L k).get t = (E s (dstOf ops) val L j).get t := by
    intro k hk
    obtain ⟨q, rfl⟩ : ∃ q, k = j + q := ⟨k - j, by omega⟩
    clear hk
    induction q with
    | zero => intro _; rfl
    | succ q ih =>
      intro hk
      rw [← ih (by omega)]
      rw [show j + (q + 1) = (j + q) + 1 by omega]
      simp only [E]
      cases hL : L (j + q) with
      | false => rfl
      | true =>
        show (putT _ _ _ _).get t = _
        rw [putT_other]
        intro hd
        have hk' : j + q < ops.size := by omega
        have ho : ops[j + q]? = some ops[j + q] := by simp
        have hd : ops[j + q].dst = some t := by rw [← dstOf_at ho]; exact hd
        cases q with
        | zero => rw [Nat.add_zero, hout] at hL; cases hL
        | succ q =>
          obtain ⟨mi, hmi⟩ := mask_of ho
          rcases regOK_pair F.ok (show j < j + (q + 1) by omega) hj ho hmi with h | ⟨_, h⟩
          · rw [hup _ mi hmi hL h] at hout; cases hout
          · exact (Oper.apart_spec h).2.2 t hd ht
  rw [above ops.size (by omega) (Nat.le_refl _), below j (Nat.le_refl _)]

/-- The environment behind one operation more. -/
theorem Run.put (F : Run P call ops s d' dd val) {L L' : Nat → Bool} {j : Nat} {oj : Oper} (hj : ops[j]? = some oj) (hout : L j = false) (hin : L' j = true) (hsame : ∀ i, i ≠ j → L' i = L i)
    (hup : ∀ i mi, (masksOf ops.toList [])[i]? = some mi → L i = true → Nat.testBit mi j = true → L j = true) (t : Nat) :
    (E s (dstOf ops) val L' ops.size).get t = (putT (E s (dstOf ops) val L ops.size) s.n oj.dst (val j)).get t := by
  have hn : j < ops.size := (Array.getElem?_eq_some_iff.1 hj).1
  have hdst : dstOf ops j = oj.dst := by simp [dstOf, hj]
  by_cases htj : oj.dst = some t
  · have key : ∀ k, j < k → k ≤ ops.size → (E s (dstOf ops) val L' k).get t = (putT (E s (dstOf ops) val L k) s.n oj.dst (val j)).get t := by
      intro k hk
      obtain ⟨q, rfl⟩ : ∃ q, k = j + 1 + q := ⟨k - (j + 1), by omega⟩
      clear hk
      induction q with
      | zero =>
        intro _
        show (E s (dstOf ops) val L' (j + 1)).get t = (putT (E s (dstOf ops) val L (j + 1)) s.n oj.dst (val j)).get t
        simp only [E, hin, hout, hdst, cond_true, cond_false]
        rw [E_congr L' L j fun i hi => hsame i (by omega)]
      | succ q ih =>
        intro hk
        have ih := ih (by omega)
        rw [show j + 1 + (q + 1) = (j + 1 + q) + 1 by omega]
        simp only [E]
        rw [hsame (j + 1 + q) (by omega)]
        cases hL : L (j + 1 + q) with
        | false => exact ih
        | true =>
          have hk' : j + 1 + q < ops.size := by omega
          have ho : ops[j + 1 + q]? = some ops[j + 1 + q] := by simp
          have hne : dstOf ops (j + 1 + q) ≠ some t := by
            intro hd
            have hd : ops[j + 1 + q].dst = some t := by rw [← dstOf_at ho]; exact hd
            obtain ⟨mi, hmi⟩ := mask_of ho
            rcases regOK_pair F.ok (show j < j + 1 + q by omega) hj ho hmi with h | ⟨_, h⟩
            · rw [hup _ mi hmi hL h] at hout; cases hout
            · exact (Oper.apart_spec h).2.1 t htj hd
          show (putT _ _ _ _).get t = (putT (putT _ _ _ _) _ _ _).get t
          rw [putT_other hne, ih]
          exact putT_same (putT_other hne).symm
    exact key ops.size hn (Nat.le_refl _)
  · rw [putT_other htj]
    have key : ∀ k, k ≤ ops.size → (E s (dstOf ops) val L' k).get t = (E s (dstOf ops) val L k).get t := by
      intro k
      induction k with
      | zero => intro _; rfl
      | succ k ih =>
        intro hk
        have ih := ih (by omega)
        simp only [E]
        by_cases hkj : k = j
        · subst hkj
          rw [hin, hout]
          show (putT _ _ _ _).get t = _
          rw [hdst, putT_other htj]; exact ih
        · rw [hsame k hkj]
          cases L k with
          | false => exact ih
          | true => exact putT_same ih
    exact key ops.size (Nat.le_refl _)
end
end Go.Proofs.YtkhgfdlinobabaaGreatDoor.AM

/- Regions whose order is open: any order does what the text's does. -/
namespace Go.Proofs.YtkhgfdlinobabaaGreatDoor.AM
open Go.RowKit (Below)

section
variable {NG N0 : Nat} {w0 : World}
/-- An object that stands in the world, taken into view. -/
theorem HRel.act {m : Mu} {h : H} {w : World} (R : HRel NG N0 w0 m h w) {id : Nat} {o : O} {L : Loc} (hm : m id = some L) (hlt : L.b < w.heap.size) (hb : o.ro = false → N0 ≤ L.b) (hO : ORel m w L o)
    (hn : ∀ j oj Lj, h.get j = some oj → m j = some Lj → Lj.b ≠ L.b) : HRel NG N0 w0 m (h.set id (some o)) w := by
  have old : ∀ j, j ≠ id → (h.set id (some o)).get j = h.get j := fun j hj => T.put_get_other _ _ _ _ (Ne.symm hj)
  have own : ∀ y, (h.set id (some o)).get id = some y → y = o := fun y hy => (Option.some.inj (T.put_get_same _ _ _ _ hy)).symm
  refine ⟨R.below, R.n0, R.dom, fun j oj hj => ?_, fun i j oi oj Li Lj hi hj ei ej eb => ?_, R.glob⟩
  · by_cases hij : j = id
    · subst hij
      obtain rfl := own _ hj
      exact ⟨L, hm, hlt, hb, hO⟩
    · exact R.objs j oj (old j hij ▸ hj)
  · by_cases hi0 : i = id
    · by_cases hj0 : j = id
      · rw [hi0, hj0]
      · subst hi0
        rw [hm] at ei; injection ei with ei; subst ei
        exact absurd eb.symm (hn j oj Lj (old j hj0 ▸ hj) ej)
    · by_cases hj0 : j = id
      · subst hj0
        rw [hm] at ej; injection ej with ej; subst ej
        exact absurd eb (hn i oi Li (old i hi0 ▸ hi) ei)
      · exact R.inj i j oi oj Li Lj (old i hi0 ▸ hi) (old j hj0 ▸ hj) ei ej eb
theorem HRel.unborn {m : Mu} {h : H} {w : World} (R : HRel NG N0 w0 m h w) {id : Nat} (hf : m id = none) : ∀ o, h.get id ≠ some o := fun o ho => by
  obtain ⟨L, h1, _⟩ := R.objs id o ho
  rw [hf] at h1; cases h1
theorem get_set_other {h : H} {id j : Nat} {o : O} {x : Option O} (hj : h.get j = some o) (hne : j ≠ id) : (h.set id x).get j = some o := by
  rw [show (h.set id x).get j = h.get j from T.put_get_other _ _ _ _ (Ne.symm hne)]; exact hj
theorem get_set_own (h : H) (id : Nat) (o : O) : (h.set id (some o)).get id = some o := T.put_get _ _ _
theorem HRel.drop {m m' : Mu} {h : H} {w w' : World} (R : HRel NG N0 w0 m h w) {id : Nat} (hf : m id = none) {x : O} (R' : HRel NG N0 w0 m' (h.set id (some x)) w') : HRel NG N0 w0 m' h w' := by
  have ne : ∀ {j o}, h.get j = some o → j ≠ id := fun hj e => R.unborn hf _ (e ▸ hj)
  exact ⟨R'.below, R'.n0, R'.dom, fun j o hj => R'.objs j o (get_set_other hj (ne hj)), fun i j oi oj Li Lj hi hj => R'.inj i j oi oj Li Lj (get_set_other hi (ne hi)) (get_set_other hj (ne hj)), R'.glob⟩
end

structure Inv (P : Program) (N0 : Nat) (w0 : World) (ops : Array Oper) (s : S) (dd : Nat → D) (val : Nat → V) (ms : Mu) (ws : World) (L : Nat → Bool) (p : Nat) (m : Mu) (a : Act) (w : World) : Prop where
  closed : ∀ (i : Nat) (o : Oper), ops[i]? = some o → L i = true → ∀ e ∈ o.after, Region.binds .any e = true → L e.on = true
  srel : SRel P N0 w0 m (E s (dstOf ops) val L ops.size) s.n (dd p).hb a w
  room : s.h.next + ops.size ≤ (dd p).hb.next
  ple : p ≤ ops.size
  last : p = 0 ∨ ∃ q, p = q + 1 ∧ Hv P ops dd q ∧ L q = true
  hv1 : ∀ i, Hv P ops dd i → L i = true → i < p
  hv2 : ∀ i, Hv P ops dd i → i < p → L i = true
  free : ∀ i, i < ops.size → L i = false → m (s.h.next + i) = none
  pend : ∀ i r, L i = true → p ≤ i → Al P ops s dd val i r → ∃ Lc, m (s.h.next + i) = some Lc ∧ Lc.b < w.heap.size ∧ ((O.row r).ro = false → N0 ≤ Lc.b) ∧ ORel m w Lc (.row r) ∧ (∀ id ob Lo, (dd p).hb.get id = some ob → m id = some Lo → Lo.b ≠ Lc.b)
  apart : ∀ i j r r' Lc Lc', L i = true → p ≤ i → Al P ops s dd val i r → L j = true → p ≤ j → Al P ops s dd val j r' → i ≠ j → m (s.h.next + i) = some Lc → m (s.h.next + j) = some Lc' → Lc.b ≠ Lc'.b
  later : Later ms m s.h.next
  frm : ∀ b, b < ws.heap.size → (∀ id o L, s.h.get id = some o → ms id = some L → L.b ≠ b) → w.heap[b]? = ws.heap[b]? ∧ (∀ id o L, (dd p).hb.get id = some o → m id = some L → L.b ≠ b) ∧
    (∀ i r Lc, L i = true → p ≤ i → Al P ops s dd val i r → m (s.h.next + i) = some Lc → Lc.b ≠ b)
  grow : ws.heap.size ≤ w.heap.size

section
variable {P : Program} {N0 : Nat} {w0 : World} {call : FuncId → List V → H → Option (V × H)} {ops : Array Oper} {s : S} {d' : D} {dd : Nat → D} {val : Nat → V} {ms : Mu} {ws : World} {L : Nat → Bool} {p : Nat} {m : Mu} {a : Act} {w : World}

/-- The new objects of the operations up to j, taken into view. -/
theorem Inv.act (F : Run P call ops s d' dd val) (I : Inv P N0 w0 ops s dd val ms ws L p m a w) : ∀ k, p + k ≤ ops.size → (∀ l, p ≤ l → l < p + k → ¬ Hv P ops dd l) → (∀ l r, p ≤ l → l < p + k → Al P ops s dd val l r → L l = true) →
    HRel P.globals.size N0 w0 m (dd (p + k)).h w ∧ (dd (p + k)).h.next = (dd p).hb.next ∧ (∀ id o, (dd (p + k)).h.get id = some o → (dd p).hb.get id = some o ∨ ∃ i r, p ≤ i ∧ i < p + k ∧ Al P ops s dd val i r ∧ L i = true ∧ id = s.h.next + i) := by
  intro k
  induction k with
  | zero =>
    intro _ _ _
    have e : (dd p).h = (dd p).hb := by
      rcases I.last with h | ⟨q, h, hq, _⟩
      · rw [h, F.zero]
      · subst h
        have hq' := hq
        obtain ⟨o, ho, _⟩ := hq'
        exact ((F.next ho).2.1 hq).1
    rw [Nat.add_zero, e]
    exact ⟨I.srel.rel, rfl, fun id o h => .inl h⟩
  | succ k ih =>
    intro hn hno hal
    obtain ⟨h1, h2, h3⟩ := ih (by omega) (fun l a b => hno l a (by omega)) (fun l r a b => hal l r a (by omega))
    have ho : ops[p + k]? = some ops[p + k] := by simp
    rw [show p + (k + 1) = p + k + 1 by omega]
    rcases ((F.next ho).2.2.1 (hno _ (by omega) (by omega))).2 with ⟨r, hr, e⟩ | ⟨_, e⟩
    · have hL := hal _ r (by omega) (by omega) hr
      obtain ⟨Lc, p1, p2, p3, p4, p5⟩ := I.pend _ r hL (by omega) hr
      rw [e]
      refine ⟨h1.act p1 p2 p3 p4 fun j oj Lj hj ej => ?_, h2, fun id o hid => ?_⟩
      · rcases h3 j oj hj with hh | ⟨i, r', q1, q2, q3, q4, rfl⟩
        · exact p5 j oj Lj hh ej
        · exact I.apart i (p + k) r' r Lj Lc q4 q1 q3 hL (by omega) hr (by omega) ej p1
      · by_cases he : id = s.h.next + (p + k)
        · exact .inr ⟨p + k, r, by omega, by omega, hr, hL, he⟩
        · rw [show ((dd (p + k)).h.set (s.h.next + (p + k)) (some (.row r))).get id = (dd (p + k)).h.get id from T.put_get_other _ _ _ _ (Ne.symm he)] at hid
          rcases h3 id o hid with hh | ⟨i, r', q1, q2, q3⟩
          · exact .inl hh
          · exact .inr ⟨i, r', q1, by omega, q3⟩
    · rw [e]
      refine ⟨h1, h2, fun id o hid => ?_⟩
      rcases h3 id o hid with hh | ⟨i, r', q1, q2, q3⟩
      · exact .inl hh
      · exact .inr ⟨i, r', q1, by omega, q3⟩

/-- All operations are done. -/
theorem Inv.done (F : Run P call ops s d' dd val) (I : Inv P N0 w0 ops s dd val ms ws L p m a w) (hall : ∀ i, i < ops.size → L i = true) :
    SRel P N0 w0 m d'.env s.n d'.h a w ∧ Went P N0 w0 ms s.h ws m d'.h w := by
  obtain ⟨h1, h2, h3⟩ := I.act F (ops.size - p) (by have := I.ple; omega) (fun l a b hv => by have := I.hv1 l hv (hall l hv.lt); omega) (fun l r a b hr => hall l hr.lt)
  have e : p + (ops.size - p) = ops.size := by have := I.ple; omega
  rw [e] at h1 h2 h3
  rw [F.last] at h1 h2 h3
  refine ⟨⟨I.srel.defers, I.srel.size, fun t v hv => I.srel.vals t v ?_, h1⟩, I.later, by have := I.room; omega, h1, fun b hb hnb => ?_, I.grow⟩
  · rw [E_congr L (fun _ => true) ops.size hall, ← F.env ops.size (Nat.le_refl _), F.last]; exact hv
  · obtain ⟨q1, q2, q3⟩ := I.frm b hb hnb
    refine ⟨q1, fun id o Lo hid em => ?_⟩
    rcases h3 id o hid with hh | ⟨i, r, k1, k2, k3, k4, rfl⟩
    · exact q2 id o Lo hh em
    · exact q3 i r Lo k4 k1 k3 em

/-- What is known of an operation that is ready. -/
structure Rdy (ops : Array Oper) (L : Nat → Bool) (j : Nat) (oj : Oper) (mj : Nat) : Prop where
  op : ops[j]? = some oj
  mask : (masksOf ops.toList [])[j]? = some mj
  out : L j = false
  edges : ∀ e ∈ oj.after, Region.binds .any e = true → L e.on = true
  anc : ∀ l, Nat.testBit mj l = true → L l = true
  up : ∀ (i mi : Nat), (masksOf ops.toList [])[i]? = some mi → L i = true → Nat.testBit mi j = true → L j = true
theorem Inv.rdy (I : Inv P N0 w0 ops s dd val ms ws L p m a w) {j : Nat} {oj : Oper} (ho : ops[j]? = some oj) (hout : L j = false) (he : ∀ e ∈ oj.after, Region.binds .any e = true → L e.on = true) : ∃ mj, Rdy ops L j oj mj := by
  obtain ⟨mj, hmj⟩ := mask_of ho
  refine ⟨mj, ho, hmj, hout, he, mask_listed (L := fun i => L i = true) I.closed j oj mj ho hmj he, fun i mi hmi hi hb => ?_⟩
  have hlt : i < ops.size := by
    have := (List.getElem?_eq_some_iff.1 hmi).1
    rw [masksOf_len] at this
    simpa using this
  have hoi : ops[i]? = some ops[i] := by simp
  exact mask_listed (L := fun i => L i = true) I.closed i _ mi hoi hmi (I.closed i _ hoi hi) j hb

structure More (L L' : Nat → Bool) (j : Nat) : Prop where
  at_ : L' j = true
  rest : ∀ i, i ≠ j → L' i = L i
theorem More.mono {j : Nat} {L' : Nat → Bool} (M : More L L' j) {i : Nat} (h : L i = true) : L' i = true := by
  by_cases e : i = j
  · subst e; exact M.at_
  · rw [M.rest i e]; exact h
theorem More.old {j : Nat} {L' : Nat → Bool} (M : More L L' j) {i : Nat} (h : L' i = true) (hne : i ≠ j) : L i = true := by rw [← M.rest i hne]; exact h
theorem More.un {j : Nat} {L' : Nat → Bool} (M : More L L' j) {i : Nat} (h : L' i = false) : i ≠ j ∧ L i = false := by
  have e : i ≠ j := fun e => by subst e; rw [M.at_] at h; cases h
  exact ⟨e, by rw [← M.rest i e]; exact h⟩
theorem Inv.closed' (I : Inv P N0 w0 ops s dd val ms ws L p m a w) {L' : Nat → Bool} {j : Nat} {oj : Oper} {mj : Nat} (Y : Rdy ops L j oj mj) (M : More L L' j) :
    ∀ (i : Nat) (o : Oper), ops[i]? = some o → L' i = true → ∀ e ∈ o.after, Region.binds .any e = true → L' e.on = true := by
  intro i o ho hi e he hb
  by_cases hij : i = j
  · subst hij
    rw [Y.op] at ho; injection ho with ho; subst ho
    exact M.mono (Y.edges e he hb)
  · exact M.mono (I.closed i o ho (M.old hi hij) e he hb)
theorem Inv.vals' (F : Run P call ops s d' dd val) (I : Inv P N0 w0 ops s dd val ms ws L p m a w) {L' : Nat → Bool} {j : Nat} {oj : Oper} {mj : Nat} (Y : Rdy ops L j oj mj) (M : More L L' j) {m' : Mu} {v' : Value} (hle : m.le m') (hv : VRel m' (val j) v') {h' : H} {w' : World}
    (R : HRel P.globals.size N0 w0 m' h' w') : SRel P N0 w0 m' (E s (dstOf ops) val L' ops.size) s.n h' (a.put oj.dst v') w' := by
  obtain ⟨p1, p2⟩ := put_vals (dst := oj.dst) I.srel.size I.srel.vals hle hv
  refine ⟨by rw [put_defers']; exact I.srel.defers, p1, fun t u hu => p2 t u ?_, R⟩
  rw [← F.put Y.op Y.out M.at_ M.rest Y.up t]; exact hu
theorem Inv.ev' (F : Run P call ops s d' dd val) (I : Inv P N0 w0 ops s dd val ms ws L p m a w) {j : Nat} {oj : Oper} {mj : Nat} (Y : Rdy ops L j oj mj) : ∀ x ∈ oj.op.operands, evT P (dd j).env x = evT P (E s (dstOf ops) val L ops.size) x := by
  intro x hx
  cases x with
  | tmp t => exact (F.looks Y.op Y.mask Y.out Y.anc Y.up (List.mem_append_left _ (List.mem_filterMap.2 ⟨.tmp t, by simpa using hx, rfl⟩))).symm
  | _ => rfl
theorem Inv.want' (F : Run P call ops s d' dd val) (I : Inv P N0 w0 ops s dd val ms ws L p m a w) {j : Nat} {oj : Oper} {mj : Nat} (Y : Rdy ops L j oj mj) : wantA (dstOf ops) (E s (dstOf ops) val L ops.size) oj = wantA (dstOf ops) (dd j).env oj := by
  unfold wantA
  cases hg : oj.guard with
  | none => rfl
  | some g =>
    show ((dstOf ops g.1).bind fun t => _) = ((dstOf ops g.1).bind fun t => _)
    cases hd : dstOf ops g.1 with
    | none => rfl
    | some t =>
      have := F.looks Y.op Y.mask Y.out Y.anc Y.up (t := t) (List.mem_append_right _ (by
        obtain ⟨g1, g2⟩ := g
        rw [hg]
        have hd : (ops[g1]?).bind (·.dst) = some t := hd
        simp [hd]))
      show ((E s (dstOf ops) val L ops.size).get t).bind _ = ((dd j).env.get t).bind _
      rw [this]

/-- An operation that leaves memory. -/
theorem Inv.quiet (F : Run P call ops s d' dd val) (I : Inv P N0 w0 ops s dd val ms ws L p m a w) {L' : Nat → Bool} {j : Nat} {oj : Oper} {mj : Nat} (Y : Rdy ops L j oj mj) (M : More L L' j) (h1 : ¬ Hv P ops dd j) (h2 : ∀ r, ¬ Al P ops s dd val j r) {v' : Value} (hv : VRel m (val j) v') :
    Inv P N0 w0 ops s dd val ms ws L' p m (a.put oj.dst v') w where
  closed := I.closed' Y M
  srel := I.vals' F Y M (Mu.le.refl m) hv I.srel.rel
  room := I.room
  ple := I.ple
  last := I.last.imp_right fun ⟨q, e1, e2, e3⟩ => ⟨q, e1, e2, M.mono e3⟩
  hv1 := fun i hi hL => I.hv1 i hi (M.old hL fun e => h1 (e ▸ hi))
  hv2 := fun i hi hp => M.mono (I.hv2 i hi hp)
  free := fun i hi hL => I.free i hi (M.un hL).2
  pend := fun i r hL hp hr => I.pend i r (M.old hL fun e => h2 r (e ▸ hr)) hp hr
  apart := fun i k r r' Lc Lc' e1 e2 e3 e4 e5 e6 => I.apart i k r r' Lc Lc' (M.old e1 fun e => h2 r (e ▸ e3)) e2 e3 (M.old e4 fun e => h2 r' (e ▸ e6)) e5 e6
  later := I.later
  frm := fun b hb hn => by
    obtain ⟨q1, q2, q3⟩ := I.frm b hb hn
    exact ⟨q1, q2, fun i r Lc hL hp hr => q3 i r Lc (M.old hL fun e => h2 r (e ▸ hr)) hp hr⟩
  grow := I.grow

/-- An operation that makes a row. -/
theorem Inv.born (F : Run P call ops s d' dd val) (I : Inv P N0 w0 ops s dd val ms ws L p m a w) {L' : Nat → Bool} {j : Nat} {oj : Oper} {mj : Nat} (Y : Rdy ops L j oj mj) (M : More L L' j) (h1 : ¬ Hv P ops dd j) {r : Row} (hr : Al P ops s dd val j r) (hp : p ≤ j) {m' : Mu} {v' : Value} {w' : World}
    (hv : VRel m' (val j) v') (hE : Ext m m' (s.h.next + j)) (hG : Good P.globals.size N0 w0 m (dd p).hb w m' ((dd p).hb.set (s.h.next + j) (some (.row r))) w') :
    Inv P N0 w0 ops s dd val ms ws L' p m' (a.put oj.dst v') w' := by
  have hf := I.free j hr.lt Y.out
  have unb := I.srel.rel.unborn hf
  have mold : ∀ i, i ≠ j → m' (s.h.next + i) = m (s.h.next + i) := fun i hi => hE.rest _ (by omega)
  have into : ∀ {id ob}, (dd p).hb.get id = some ob → id ≠ s.h.next + j := fun h e => unb _ (e ▸ h)
  obtain ⟨Lj, j1, j2, j3, j4⟩ := hG.rel.objs (s.h.next + j) _ (get_set_own _ _ _)
  exact
  { closed := I.closed' Y M
    srel := I.vals' F Y M hE.le hv (I.srel.rel.drop hf hG.rel)
    room := I.room
    ple := I.ple
    last := I.last.imp_right fun ⟨q, e1, e2, e3⟩ => ⟨q, e1, e2, M.mono e3⟩
    hv1 := fun i hi hL => I.hv1 i hi (M.old hL fun e => h1 (e ▸ hi))
    hv2 := fun i hi hp => M.mono (I.hv2 i hi hp)
    free := fun i hi hL => by
      obtain ⟨e, hL⟩ := M.un hL
      rw [mold i e]; exact I.free i hi hL
    pend := fun i r' hL hpi hri => by
      by_cases e : i = j
      · subst e
        obtain rfl := hr.same hri
        refine ⟨Lj, j1, j2, j3, j4, fun id ob Lo hid em eb => into hid (hG.rel.inj id _ ob _ Lo Lj (get_set_other hid (into hid)) (get_set_own _ _ _) em j1 eb)⟩
      · obtain ⟨Lc, q1, q2, q3, q4, q5⟩ := I.pend i r' (M.old hL e) hpi hri
        obtain ⟨k1, k2⟩ := hG.frm Lc.b q2 q5
        exact ⟨Lc, (mold i e).trans q1, Nat.lt_of_lt_of_le q2 hG.size, q3, (q4.mono hE.le).heap k1, fun id ob Lo hid em => k2 id ob Lo (get_set_other hid (into hid)) em⟩
    apart := fun i k ri rk Lc Lc' e1 e2 e3 e4 e5 e6 hne mi mk => by
      have one : ∀ i ri Lc, L' i = true → p ≤ i → Al P ops s dd val i ri → i ≠ j → m' (s.h.next + i) = some Lc → Lj.b ≠ Lc.b := fun i ri Lc e1 e2 e3 e mi => by
        obtain ⟨Lx, q1, q2, q3, q4, q5⟩ := I.pend i ri (M.old e1 e) e2 e3
        rw [mold i e, q1] at mi
        injection mi with mi; subst mi
        exact (hG.frm Lx.b q2 q5).2 _ _ _ (get_set_own _ _ _) j1
      by_cases ei : i = j
      · subst ei
        rw [j1] at mi; injection mi with mi; subst mi
        exact one k rk Lc' e4 e5 e6 (Ne.symm hne) mk
      · by_cases ek : k = j
        · subst ek
          rw [j1] at mk; injection mk with mk; subst mk
          exact (one i ri Lc e1 e2 e3 ei mi).symm
        · rw [mold i ei] at mi
          rw [mold k ek] at mk
          exact I.apart i k ri rk Lc Lc' (M.old e1 ei) e2 e3 (M.old e4 ek) e5 e6 hne mi mk
    later := ⟨I.later.1.trans hE.le, fun id hid => (hE.rest id (by omega)).trans (I.later.2 id hid)⟩
    frm := fun b hb hn => by
      obtain ⟨q1, q2, q3⟩ := I.frm b hb hn
      obtain ⟨k1, k2⟩ := hG.frm b (Nat.lt_of_lt_of_le hb I.grow) q2
      refine ⟨k1.trans q1, fun id ob Lo hid em => k2 id ob Lo (get_set_other hid (into hid)) em, fun i ri Lc e1 e2 e3 em => ?_⟩
      by_cases e : i = j
      · subst e
        exact k2 _ _ _ (get_set_own _ _ _) em
      · rw [mold i e] at em
        exact q3 i ri Lc (M.old e1 e) e2 e3 em
    grow := Nat.le_trans I.grow hG.size }

/-- An operation that changes memory. -/
theorem Inv.loud (F : Run P call ops s d' dd val) (I : Inv P N0 w0 ops s dd val ms ws L p m a w) {L' : Nat → Bool} {j : Nat} {oj : Oper} {mj : Nat} (Y : Rdy ops L j oj mj) (M : More L L' j) (hj : Hv P ops dd j) (hp : p ≤ j) (hall : ∀ i, Hv P ops dd i → i < j → L i = true)
    (hlive : ∀ id o, (dd j).h.get id = some o → (dd p).hb.get id = some o ∨ ∃ i r, p ≤ i ∧ i < j ∧ Al P ops s dd val i r ∧ L i = true ∧ id = s.h.next + i) (hnx : (dd j).h.next = (dd p).hb.next) {m' : Mu} {v' : Value} {w' : World} {h' : H} (hh : (dd (j + 1)).hb = h')
    (hv : VRel m' (val j) v') (hle : m.le m') (hrest : ∀ id, id < (dd j).h.next → id ≠ s.h.next + j → m' id = m id) (hnext : (dd j).h.next ≤ h'.next) (hG : Good P.globals.size N0 w0 m (dd j).h w m' h' w') :
    Inv P N0 w0 ops s dd val ms ws L' (j + 1) m' (a.put oj.dst v') w' := by
  have room := I.room
  have mold : ∀ i, i < ops.size → i ≠ j → m' (s.h.next + i) = m (s.h.next + i) := fun i hi hne => hrest _ (by omega) (by omega)
  have notlive : ∀ b, (∀ id ob Lo, (dd p).hb.get id = some ob → m id = some Lo → Lo.b ≠ b) → (∀ i r Lc, L i = true → p ≤ i → i < j → Al P ops s dd val i r → m (s.h.next + i) = some Lc → Lc.b ≠ b) → ∀ id o Lo, (dd j).h.get id = some o → m id = some Lo → Lo.b ≠ b := fun b h1 h2 id o Lo hid em => by
    rcases hlive id o hid with hh | ⟨i, r, k1, k2, k3, k4, rfl⟩
    · exact h1 id o Lo hh em
    · exact h2 i r Lo k4 k1 k2 k3 em
  subst hh
  exact
  { closed := I.closed' Y M
    srel := I.vals' F Y M hle hv hG.rel
    room := by omega
    ple := hj.lt
    last := .inr ⟨j, rfl, hj, M.at_⟩
    hv1 := fun i hi hL => by
      by_cases e : i = j
      · omega
      · have := I.hv1 i hi (M.old hL e); omega
    hv2 := fun i hi hlt => by
      by_cases e : i = j
      · subst e; exact M.at_
      · exact M.mono (hall i hi (by omega))
    free := fun i hi hL => by
      obtain ⟨e, hL⟩ := M.un hL
      rw [mold i hi e]; exact I.free i hi hL
    pend := fun i r hL hpi hr => by
      have e : i ≠ j := by omega
      obtain ⟨Lc, q1, q2, q3, q4, q5⟩ := I.pend i r (M.old hL e) (by omega) hr
      obtain ⟨k1, k2⟩ := hG.frm Lc.b q2 (notlive Lc.b q5 fun i' r' Lc' e1 e2 e3 e4 em => I.apart i' i r' r Lc' Lc e1 e2 e4 (M.old hL e) (by omega) hr (by omega) em q1)
      exact ⟨Lc, (mold i hr.lt e).trans q1, Nat.lt_of_lt_of_le q2 hG.size, q3, (q4.mono hle).heap k1, k2⟩
    apart := fun i k ri rk Lc Lc' e1 e2 e3 e4 e5 e6 hne mi mk => by
      have ei : i ≠ j := by omega
      have ek : k ≠ j := by omega
      rw [mold i e3.lt ei] at mi
      rw [mold k e6.lt ek] at mk
      exact I.apart i k ri rk Lc Lc' (M.old e1 ei) (by omega) e3 (M.old e4 ek) (by omega) e6 hne mi mk
    later := ⟨I.later.1.trans hle, fun id hid => (hrest id (by omega) (by omega)).trans (I.later.2 id hid)⟩
    frm := fun b hb hn => by
      obtain ⟨q1, q2, q3⟩ := I.frm b hb hn
      obtain ⟨k1, k2⟩ := hG.frm b (Nat.lt_of_lt_of_le hb I.grow) (notlive b q2 fun i r Lc e1 e2 _ e4 em => q3 i r Lc e1 e2 e4 em)
      refine ⟨k1.trans q1, k2, fun i ri Lc e1 e2 e3 em => ?_⟩
      have e : i ≠ j := by omega
      rw [mold i e3.lt e] at em
      exact q3 i ri Lc (M.old e1 e) (by omega) e3 em
    grow := Nat.le_trans I.grow hG.size }

/-- One operation that is ready. -/
theorem Inv.step (hcall : CallOK P N0 w0 call) (F : Run P call ops s d' dd val) (I : Inv P N0 w0 ops s dd val ms ws L p m a w) {L' : Nat → Bool} {j : Nat} {oj : Oper} {mj : Nat} (Y : Rdy ops L j oj mj) (M : More L L' j) {K : Act → World → Prop} {Q : Exit → Act → World → Prop}
    (hK : ∀ p' m' a' w', Inv P N0 w0 ops s dd val ms ws L' p' m' a' w' → K a' w') : wpOp P ops Q j K a w := by
  unfold wpOp
  rw [Y.op]
  dsimp only
  have hjn : j < ops.size := (Array.getElem?_eq_some_iff.1 Y.op).1
  have hsel : ∀ cs b, oj.op ≠ .select cs b := fun cs b => by
    have := F.ok
    simp only [regOK, Bool.and_eq_true] at this
    exact Region.noSelect_spec this.1 j oj cs b Y.op
  have hev := I.srel.ev
  have hops := I.ev' F Y
  have hwant := I.want' F Y
  have nohv : isHeavy (kindOf P oj) = false → ¬ Hv P ops dd j := fun h ⟨o', h1, h2, _⟩ => by
    rw [Y.op] at h1; injection h1 with h1; subst h1; rw [h] at h2; cases h2
  have nohw : wantA (dstOf ops) (dd j).env oj = some false → ¬ Hv P ops dd j := fun h ⟨o', h1, _, h2⟩ => by
    rw [Y.op] at h1; injection h1 with h1; subst h1; rw [h] at h2; cases h2
  have noal : kindOf P oj ≠ .alloc → ∀ r, ¬ Al P ops s dd val j r := fun h r ⟨o', h1, h2, _⟩ => by
    rw [Y.op] at h1; injection h1 with h1; subst h1; exact h h2
  have noaw : wantA (dstOf ops) (dd j).env oj = some false → ∀ r, ¬ Al P ops s dd val j r := fun h r ⟨o', h1, _, h2, _⟩ => by
    rw [Y.op] at h1; injection h1 with h1; subst h1; rw [h] at h2; cases h2
  have wanted : ∀ b, wantA (dstOf ops) (dd j).env oj = some b → Region.wanted oj (yielded ops a.tmps) = b := fun b hb => wanted_ok I.srel.vals (by rw [hwant]; exact hb)
  -- the last operation that changed memory stands before j, if j must stand before such ones
  have hpj : (∀ k, isHeavy k = true → pairOK (kindOf P oj) k = false) → (isHeavy (kindOf P oj) = true ∨ ¬ Hv P ops dd j) → p ≤ j := fun hpair hor => by
    rcases I.last with h | ⟨q, h, hq, hLq⟩
    · omega
    · rcases Nat.lt_trichotomy q j with h1 | h1 | h1
      · omega
      · subst h1; rw [Y.out] at hLq; cases hLq
      · obtain ⟨oq, hoq, hkq, hwq⟩ := hq
        obtain ⟨mq, hmq⟩ := mask_of hoq
        rcases regOK_pair F.ok h1 Y.op hoq hmq with hh | ⟨hh, _⟩
        · have := Y.up q mq hmq hLq hh
          rw [Y.out] at this; cases this
        · rw [hpair _ hkq] at hh; cases hh
  cases F.fact j oj mj Y.op Y.mask with
  | skip hw hv hd =>
    rw [wanted false hw]
    exact hK p m _ w (I.quiet F Y M (nohw hw) (noaw hw) (by rw [hv]; exact .undef))
  | pure hw hk hv hd =>
    rw [wanted true hw]
    rw [pureA_congr hsel hops] at hv
    exact .inl (val_wp (pure_ok (m := m) (w := w) hev hv) fun v' hv' => hK p m _ w (I.quiet F Y M (nohv (by rw [hk]; rfl)) (noal (by rw [hk]; intro h; cases h)) hv'))
  | load hw hk hv hb hd =>
    rw [wanted true hw]
    have hl := F.loads Y.op Y.mask hk hw p I.ple (I.last.imp_right fun ⟨q, e1, e2, _⟩ => ⟨q, e1, e2⟩) (fun l hl h1 h2 => by
      cases hb : Nat.testBit mj l with
      | false => rfl
      | true => have := I.hv1 l hl (Y.anc l hb); omega) (fun l mk' h1 h2 hl hmk' => by
      cases hb : Nat.testBit mk' j with
      | false => rfl
      | true =>
        have := Y.up l mk' hmk' (I.hv2 l hl h2) hb
        rw [Y.out] at this; cases this)
    rw [loadA_congr hops] at hl
    exact .inl (val_wp (load_ok I.srel.rel hev hl) fun v' hv' => hK p m _ w (I.quiet F Y M (nohv (by rw [hk]; rfl)) (noal (by rw [hk]; intro h; cases h)) hv'))
  | alloc r hw hk hv hd =>
    rw [wanted true hw]
    have hr : Al P ops s dd val j r := ⟨oj, Y.op, hk, hw, hv⟩
    have nh := nohv (by rw [hk]; rfl)
    have hp := hpj (fun k hk' => by rw [hk]; cases k <;> first | (cases hk'; done) | rfl) (.inr nh)
    rw [allocA_congr hops] at hv
    exact .inl (alloc_wp I.srel.rel (I.free j hjn Y.out) (by have := I.room; omega) hev hv fun m' v' w' hv' hE hG => hK p m' _ w' (I.born F Y M nh hr hp hv' hE hG))
  | heavy h' hw hk hv hg hd =>
    rw [wanted true hw]
    have hj : Hv P ops dd j := ⟨oj, Y.op, hk, hw⟩
    have hp := hpj (fun k hk' => by cases hkj : kindOf P oj <;> rw [hkj] at hk <;> first | (cases hk; done) | (cases k <;> first | (cases hk'; done) | rfl)) (.inl hk)
    have before : ∀ i oi, i < j → ops[i]? = some oi → pairOK (kindOf P oi) (kindOf P oj) = false → L i = true := fun i oi hi hoi hpr => by
      rcases regOK_pair F.ok hi hoi Y.op Y.mask with hh | ⟨hh, _⟩
      · exact Y.anc i hh
      · rw [hpr] at hh; cases hh
    have hvs : ∀ i, Hv P ops dd i → i < j → L i = true := fun i ⟨oi, hoi, hki, _⟩ hi => before i oi hi hoi (by
      cases hkj : kindOf P oj <;> rw [hkj] at hk <;> first | (cases hk; done) | (cases hki' : kindOf P oi <;> rw [hki'] at hki <;> first | (cases hki; done) | rfl))
    have als : ∀ i r, Al P ops s dd val i r → i < j → L i = true := fun i r ⟨oi, hoi, hki, _⟩ hi => before i oi hi hoi (by
      rw [hki]
      cases hkj : kindOf P oj <;> rw [hkj] at hk <;> first | (cases hk; done) | rfl)
    obtain ⟨h1, h2, h3⟩ := I.act F (j - p) (by omega) (fun l a b hl => by have := I.hv1 l hl (hvs l hl (by omega)); omega) (fun l r a b hr => als l r hr (by omega))
    rw [show p + (j - p) = j by omega] at h1 h2 h3
    rw [(heavyA_congr (call := call) (P := P) hops).2] at hv
    have hh : (dd (j + 1)).hb = h' := by rw [hd]
    exact .inl (heavy_wp hcall h1 (I.free j hjn Y.out) (by have := I.room; omega) hev hv fun m' v' w' hv' hle hrest hnext hG => hK (j + 1) m' _ w' (I.loud F Y M hj hp hvs h3 h2 hh hv' hle hrest hnext hG))

theorem getD_out {listed : Array Bool} {j : Nat} (hs : j < listed.size) (h : listed.getD j true = false) : listed.getD j false = false := by
  simpa [hs] using h
theorem getD_in {listed : Array Bool} {j : Nat} (hs : j < listed.size) (h : listed.getD j false = false) : listed.getD j true = false := by
  simpa [hs] using h

theorem Inv.any (hcall : CallOK P N0 w0 call) (F : Run P call ops s d' dd val) {Q : Exit → Act → World → Prop} (hQ : ∀ m' a' w', SRel P N0 w0 m' d'.env s.n d'.h a' w' → Went P N0 w0 ms s.h ws m' d'.h w' → Q .normal a' w') :
    ∀ (fuel : Nat) (us : List Nat) (listed : Array Bool) (p : Nat) (m : Mu) (a : Act) (w : World), listed.size = ops.size → us.length ≤ fuel → (∀ i, i < ops.size → listed.getD i false = false → i ∈ us) → Inv P N0 w0 ops s dd val ms ws (fun i => listed.getD i false) p m a w →
      wpAny P .any ops Q fuel listed a w := by
  intro fuel
  induction fuel with
  | zero =>
    intro us listed p m a w hs hl hus I
    have hnil : us = [] := List.eq_nil_of_length_eq_zero (by omega)
    subst hnil
    have hall : ∀ i, i < ops.size → listed.getD i false = true := fun i hi => by
      cases hb : listed.getD i false with
      | true => rfl
      | false => exact absurd (hus i hi hb) (by simp)
    obtain ⟨h1, h2⟩ := I.done F hall
    refine ⟨List.eq_nil_iff_forall_not_mem.2 fun j hj => ?_, hQ m a w h1 h2⟩
    obtain ⟨h3, o, ho, _⟩ := mem_ready.1 hj
    have hjn : j < ops.size := (Array.getElem?_eq_some_iff.1 ho).1
    have := hall j hjn
    rw [getD_out (by omega) h3] at this; cases this
  | succ fuel ih =>
    intro us listed p m a w hs hl hus I
    refine ⟨fun hnil => ?_, fun j hj => ?_⟩
    · have hall : ∀ i, i < ops.size → listed.getD i false = true := by
        intro i
        induction i using Nat.strongRecOn with
        | _ i ihi =>
          intro hi
          cases hb : listed.getD i false with
          | true => rfl
          | false =>
            have ho : ops[i]? = some ops[i] := by simp
            have : i ∈ Region.ready .any ops listed := mem_ready.2 ⟨getD_in (by omega) hb, _, ho, fun e he hbe => by
              have hlt := regOK_back F.ok ho e he hbe
              exact ihi e.on hlt (by omega)⟩
            rw [hnil] at this; cases this
      obtain ⟨h1, h2⟩ := I.done F hall
      exact hQ m a w h1 h2
    · obtain ⟨h3, o, ho, he⟩ := mem_ready.1 hj
      have hjn : j < ops.size := (Array.getElem?_eq_some_iff.1 ho).1
      have hout := getD_out (by omega) h3
      obtain ⟨mj, Y⟩ := I.rdy ho hout he
      have M : More (fun i => listed.getD i false) (fun i => (listed.setIfInBounds j true).getD i false) j :=
        ⟨by simp [hs, hjn], fun i hi => getD_set_ne false (Ne.symm hi)⟩
      have hmem := hus j hjn hout
      refine I.step hcall F Y M fun p' m' a' w' I' => ih (us.erase j) _ p' m' a' w' (by simp [hs]) (by rw [List.length_erase_of_mem hmem]; omega) (fun i hi hb => ?_) I'
      have hne : i ≠ j := fun e => by subst e; rw [M.at_] at hb; cases hb
      rw [getD_set_ne false (Ne.symm hne)] at hb
      exact (List.mem_erase_of_ne hne).2 (hus i hi hb)
end

/-- A region whose order is open. -/
theorem draw_ok {P : Program} {N0 : Nat} {w0 : World} (hm : P.follows .mixedOrders = true) : DrawOK P N0 w0 := by
  intro call hcall id ops m s s' a w Q R e hQ
  obtain ⟨d', dd, val, F, rfl⟩ := drawA_run e
  refine wp_region_any hm ?_
  refine Inv.any hcall F (ms := m) (ws := w) (fun m' a' w' h1 h2 => hQ m' a' w' h1 h2 rfl) ops.size (List.range ops.size) _ 0 m a _ (by simp) (by simp) (fun i hi _ => by simpa using hi) ?_
  have hL : (fun i => (Array.replicate ops.size false).getD i false) = fun _ => false := by
    funext i
    by_cases hi : i < ops.size <;> simp [hi]
  rw [hL]
  have hE : ∀ k, E s (dstOf ops) val (fun _ => false) k = s.env := by
    intro k
    induction k with
    | zero => rfl
    | succ k ih => exact ih
  have hhb : (dd 0).hb = s.h.bump ops.size := by rw [F.zero]
  have R1 : HRel P.globals.size N0 w0 m s.h { w with drawn := w.drawn + 1 } := R.rel.drawn rfl rfl rfl rfl
  have R2 : HRel P.globals.size N0 w0 m (dd 0).hb { w with drawn := w.drawn + 1 } := by rw [hhb]; exact bump_rel R1 _
  exact
  { closed := fun i o _ h => by cases h
    srel := ⟨R.defers, R.size, fun t v hv => R.vals t v (by rw [hE] at hv; exact hv), R2⟩
    room := by rw [hhb]; exact Nat.le_refl _
    ple := Nat.zero_le _
    last := .inl rfl
    hv1 := fun i _ h => by cases h
    hv2 := fun i _ h => by omega
    free := fun i hi _ => R.rel.dom _ (by omega)
    pend := fun i r h => by cases h
    apart := fun i j r r' Lc Lc' h => by cases h
    later := .refl _ _
    frm := fun b hb hn => ⟨rfl, fun id o Lo hid em => hn id o Lo (by rw [hhb] at hid; exact hid) em, fun i r Lc h => by cases h⟩
    grow := Nat.le_refl _ }
end Go.Proofs.YtkhgfdlinobabaaGreatDoor.AM

/- A closed run of the smaller machine is a call in every world. -/
namespace Go.Proofs.YtkhgfdlinobabaaGreatDoor.AM
open Go.RowKit (Below)

section
variable {P : Program}

theorem run_ext {g : Nat} {fn : Func} {ex : Array Value → Sem Value} (hf : P.funcs[g]? = some fn) (hname : (fn.name == "runtime.NumGoroutine") = false) (hb : fn.body.isNone = true) (hn : Extern.findNext fn = none) (he : Extern.find fn = some ex) {args : Array Value} {v : Value} {w : World}
    (h : (ex args).run P w = .ok v w) : (callFunc g args).run P w = .ok (.value v) w := by
  have h1 : fn.name ≠ "runtime.NumGoroutine" := by simpa using hname
  have hb' : fn.body = none := by simpa using hb
  simp [callFunc, hf, h1, hb', hn, he, h]
theorem plainVals_inv {m : Mu} : ∀ {vs : List V} {xs xs' : List Value}, plainVals vs = some xs → VsRel m vs xs' → xs' = xs
  | [], xs, xs', e, h => by cases h; injection e
  | v :: vs, xs, xs', e, h => by
    cases h with
    | cons _ v' _ vs' hv hvs =>
      replace e := bnd_some.1 e; obtain ⟨x, h1, e⟩ := e
      replace e := bnd_some.1 e; obtain ⟨r, h2, e⟩ := e
      injection e with e; subst e
      rw [toValue_inv h1 hv, plainVals_inv h2 hvs]
def ekFun : Ek → Array Value → Sem Value
  | .noEscape => Extern.AbiNoEscape.same
  | .plain f => f
/-- What stands at a number of the list of externs. -/
def ExtOne (P : Program) (g : Nat) (e : Ek) : Prop :=
  ∃ fn, P.funcs[g]? = some fn ∧ (fn.name == "runtime.NumGoroutine") = false ∧ fn.body.isNone = true ∧ Extern.findNext fn = none ∧ Extern.find fn = some (ekFun e)
theorem getExt_mem : ∀ {ext : List (Nat × Ek)} {g : Nat} {e : Ek}, getExt ext g = some e → (g, e) ∈ ext
  | (i, x) :: r, g, e, h => by
    have h : cond (Nat.beq i g) (some x) (getExt r g) = some e := h
    cases hb : Nat.beq i g with
    | true =>
      rw [hb] at h
      injection h with h; subst h
      rw [Nat.eq_of_beq_eq_true hb]; exact List.mem_cons_self
    | false => rw [hb] at h; exact List.mem_cons_of_mem _ (getExt_mem h)
theorem ext_ok {ext : List (Nat × Ek)} (h : ∀ p ∈ ext, ExtOne P p.1 p.2) : ExtOK P ext := by
  intro g e hg m w args args' v hv hx
  obtain ⟨fn, h1, h2, h3, h4, h5⟩ := h _ (getExt_mem hg)
  cases e with
  | noEscape =>
    cases args with
    | nil => cases hx
    | cons a as =>
      cases as with
      | cons _ _ => cases hx
      | nil =>
        injection hx with hx; subst hx
        cases hv with
        | cons _ a' _ vs' ha has =>
          cases has
          exact ⟨a', ha, run_ext h1 h2 h3 h4 h5 rfl⟩
  | plain f =>
    replace hx := bnd_some.1 hx; obtain ⟨xs, k1, hx⟩ := hx
    replace hx := bnd_some.1 hx; obtain ⟨y, k2, hx⟩ := hx
    obtain rfl := plainVals_inv k1 hv
    exact ⟨y, ofValue_rel hx, run_ext h1 h2 h3 h4 h5 (prun_run k2)⟩

theorem named_ok (h : P.funcs.all (fun fn => !(fn.name == "runtime.NumGoroutine")) = true) (g : Nat) (fn : Func) (hg : P.funcs[g]? = some fn) : (fn.name == "runtime.NumGoroutine") = false := by
  have := Array.all_eq_true_iff_forall_mem.1 h fn (Array.mem_of_getElem? hg)
  simpa using this

/-- The package variables alone, none of them looked at. -/
def Mu.bare (n : Nat) : Mu := fun g => if g < n then some ⟨g, 0, 0, 0⟩ else none
theorem bare_rel (w : World) {n k : Nat} (hk : n ≤ k) : HRel n w.heap.size w (Mu.bare n) ⟨.lf, k⟩ w where
  below := .refl _ _
  n0 := Nat.le_refl _
  dom := fun id hid => by
    have : k ≤ id := hid
    simp only [Mu.bare]
    rw [if_neg (by omega)]
  objs := fun id o h => by cases (T.get_e id).symm.trans h
  inj := fun i j oi oj Li Lj h => by cases (T.get_e i).symm.trans h
  glob := fun g hg => ⟨⟨g, 0, 0, 0⟩, by simp [Mu.bare, hg], rfl, rfl⟩

/-- A closed call that answers with a plain value. -/
theorem closed_calls {C : Cfg} (hm : C.P.follows .mixedOrders = true) (hx : ∀ p ∈ C.ext, ExtOne C.P p.1 p.2) (hn : C.P.funcs.all (fun fn => !(fn.name == "runtime.NumGoroutine")) = true) {g : Nat} {fn : Func} {c : Code} (hg : C.P.funcs[g]? = some fn) (hb : fn.body = some c)
    {fuel k : Nat} (hk : C.P.globals.size ≤ k) {b : Bool} {h' : H} (e : callA C fuel g [] ⟨.lf, k⟩ = some (.bool b, h')) (w : World) :
    Calls C.P g #[] w fun e w' => e = .returned (.bool b) ∧ Below w.heap.size w w' := by
  have ok := (codeA_ok (N0 := w.heap.size) (w0 := w) (ext_ok hx) (draw_ok hm) (named_ok hn) fuel).2.2 g [] ⟨.lf, k⟩ _ h' e (Mu.bare C.P.globals.size) w [] (bare_rel w hk) .nil
  rcases ok with ⟨_, h2⟩ | ⟨v', m', w', h1, _, _⟩
  · refine h2.mono fun e w' he => ?_
    obtain ⟨m', v', rfl, hv, hw⟩ := he
    exact ⟨by rw [bool_inv hv], hw.good.rel.below⟩
  · rw [Go.MuLone.run_callFunc_enter hg (named_ok hn g fn hg) hb] at h1
    cases h1
end

def isT (x : Option (V × H)) : Bool := match x with | some (.bool b, _) => b | _ => false
theorem isT_some {x : Option (V × H)} (h : isT x = true) : ∃ h', x = some (.bool true, h') := by
  unfold isT at h
  split at h
  · rename_i b h'
    subst h; exact ⟨h', rfl⟩
  · cases h
end Go.Proofs.YtkhgfdlinobabaaGreatDoor.AM
