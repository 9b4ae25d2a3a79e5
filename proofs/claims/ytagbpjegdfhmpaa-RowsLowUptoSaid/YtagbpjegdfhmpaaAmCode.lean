/- The smaller machine's code and calls. -/
import Derived.Test.YtagbpjegdfhmpaaAmWalk
import Derived.Conc.MuLone
set_option linter.unusedSimpArgs false
set_option linter.unusedVariables false
namespace Go.Proofs.Ytagbpjegdfhmpaa.AM
open Go.RowKit (Below)

def X.toExit : X → Exit
  | .norm => .normal
  | .exit id => .exit id
  | .ret => .ret

section
variable {P : Program} {N0 : Nat} {w0 : World}

theorem VsRel.toList_get {m : Mu} {vs : List V} {vs' : List Value} (h : VsRel m vs vs') : ∀ {i : Nat} {v : V}, vs[i]? = some v → ∃ v', vs'[i]? = some v' ∧ VRel m v v' := fun e => h.get e

theorem putArgs_get : ∀ (vs : List V) (i : Nat) (e : T V) (t : Nat) (v : V), (putArgs vs i e).get t = some v → (i ≤ t ∧ vs[t - i]? = some v) ∨ e.get t = some v
  | [], i, e, t, v, h => .inr h
  | u :: vs, i, e, t, v, h => by
    rcases putArgs_get vs (i + 1) (e.put i (some u)) t v h with ⟨h1, h2⟩ | h1
    · refine .inl ⟨by omega, ?_⟩
      rw [show t - i = (t - (i + 1)) + 1 by omega]
      exact h2
    · by_cases ht : t = i
      · subst ht
        rw [T.put_get] at h1
        refine .inl ⟨Nat.le_refl _, ?_⟩
        rw [Nat.sub_self]; exact h1
      · rw [T.put_get_other _ _ _ _ (Ne.symm ht)] at h1
        exact .inr h1
theorem get_e (t : Nat) (v : V) : (T.lf : T V).get t ≠ some v := by
  intro h; rw [T.get_e] at h; cases h

theorem enter_rel {m : Mu} {h : H} {w : World} (R : HRel P.globals.size N0 w0 m h w) {args : List V} {args' : List Value} (hv : VsRel m args args') (k : Nat) :
    SRel P N0 w0 m (putArgs args 0 .lf) (args.length + (k - args.length)) h { tmps := args'.toArray ++ Array.replicate (k - args'.toArray.size) undef, defers := [] } w := by
  have hl := hv.length
  refine ⟨rfl, by simp [hl], fun t v e => ?_, R⟩
  rcases putArgs_get _ _ _ _ _ e with ⟨_, h1⟩ | h1
  · obtain ⟨v', h2, h3⟩ := hv.get h1
    refine ⟨v', ?_, h3⟩
    have h2 : args'[t]? = some v' := by simpa using h2
    have hlt : t < args'.length := (List.getElem?_eq_some_iff.1 h2).1
    rw [Array.getElem?_append_left (by simpa using hlt)]
    simpa using h2
  · exact absurd h1 (get_e _ _)

def resOf (a : Act) : ResultVar → Sem Value
  | .tmp t => pure (a.tmps.getD t undef)
  | .cell c t => do loadVar t (← asAddr (a.tmps.getD c undef))
theorem results_ok {m : Mu} {env : T V} {n : Nat} {h : H} {a : Act} {w : World} (R : SRel P N0 w0 m env n h a w) : ∀ (rs : List ResultVar) (vs : List V), resultsA P env h rs = some vs →
    ∃ vs', (rs.mapM (resOf a)).run P w = .ok vs' w ∧ VsRel m vs vs'
  | [], vs, e => by
    injection e with e; subst e
    exact ⟨[], by simp, .nil⟩
  | .tmp t :: rs, vs, e => by
    replace e := bnd_some.1 e; obtain ⟨v, hv, e⟩ := e
    replace e := bnd_some.1 e; obtain ⟨us, hus, e⟩ := e
    injection e with e; subst e
    obtain ⟨v', h1, h2⟩ := R.vals t v hv
    obtain ⟨us', h3, h4⟩ := results_ok R rs us hus
    refine ⟨v' :: us', ?_, .cons _ _ _ _ h2 h4⟩
    have h8 : a.tmps.getD t undef = v' := by simp [h1]
    simp only [List.mapM_cons, resOf, Sem.run_bind, Sem.run_pure, Result.andThen_ok, h3, h8]
  | .cell c t :: rs, vs, e => by
    replace e := bnd_some.1 e; obtain ⟨p, hp, e⟩ := e
    replace e := bnd_some.1 e; obtain ⟨v, hv, e⟩ := e
    replace e := bnd_some.1 e; obtain ⟨us, hus, e⟩ := e
    injection e with e; subst e
    obtain ⟨p', h1, h2⟩ := R.vals c p hp
    obtain ⟨us', h3, h4⟩ := results_ok R rs us hus
    obtain ⟨v', h5, h6⟩ := loadAt_ok (P := P) R.rel hv h2
    replace hv := bnd_some.1 hv; obtain ⟨⟨id, off⟩, hq, _⟩ := hv
    obtain rfl := V.ptr?_inv hq; dsimp only at *
    obtain ⟨L, hm, rfl⟩ := ptr_inv h2
    refine ⟨v' :: us', ?_, .cons _ _ _ _ h5 h4⟩
    have h7 : (loadVar t ⟨L.b, L.d + off, none⟩).run P w = .ok v' w := by
      rw [← h6]
      simp [Instr.loadAt, Instr.sureAddr]
    have h8 : a.tmps.getD c undef = .pointer (some ⟨L.b, L.d + off, none⟩) := by simp [h1]
    simp only [List.mapM_cons, resOf, Sem.run_bind, Sem.run_pure, Result.andThen_ok, h8, asAddr, h7, h3]

theorem results_run {m : Mu} {env : T V} {n : Nat} {h : H} {a : Act} {w : World} (R : SRel P N0 w0 m env n h a w) {fn : Func} {vs : List V} (e : resultsA P env h fn.results.toList = some vs) :
    ∃ v', (results fn a.tmps).run P w = .ok v' w ∧ VRel m (oneOf vs) v' := by
  obtain ⟨vs', h1, h2⟩ := results_ok R _ _ e
  have h3 : (fn.results.mapM (resOf a)).run P w = .ok vs'.toArray w := by
    rw [Array.mapM_eq_mapM_toList]
    simp only [map_eq_pure_bind, Sem.run_bind, h1, Result.andThen_ok, Sem.run_pure]
  refine ⟨if h : vs'.toArray.size = 1 then vs'.toArray[0] else .tuple vs'.toArray, ?_, ?_⟩
  · have h4 : results fn a.tmps = (do let vs ← fn.results.mapM (resOf a); pure (if h : vs.size = 1 then vs[0] else .tuple vs)) := by
      unfold results
      congr 1
    rw [h4, Sem.run_bind, h3]
    rfl
  · cases h2 with
    | nil => exact .tup _ _ .nil
    | cons v v' us us' e1 e2 =>
      cases e2 with
      | nil => exact e1
      | cons u u' ts ts' e3 e4 =>
        rw [dif_neg (by simp)]
        exact .tup _ _ (.cons _ _ _ _ e1 (.cons _ _ _ _ e3 e4))

/-- The externs of a program stand as the list says. -/
def ExtOK (P : Program) (ext : List (Nat × Ek)) : Prop :=
  ∀ g e, getExt ext g = some e → ∀ (m : Mu) (w : World) args args' v, VsRel m args args' → extA P e args = some v → ∃ v', VRel m v v' ∧ (callFunc g args'.toArray).run P w = .ok (.value v') w

def DrawOK (P : Program) (N0 : Nat) (w0 : World) : Prop :=
  ∀ call, CallOK P N0 w0 call → ∀ (id : Nat) (ops : Array Oper) (m : Mu) (s s' : S) (a : Act) (w : World) (Q : Exit → Act → World → Prop), SRel P N0 w0 m s.env s.n s.h a w → drawA P call ops s = some s' →
    (∀ m' a' w', SRel P N0 w0 m' s'.env s'.n s'.h a' w' → Went P N0 w0 m s.h w m' s'.h w' → s'.n = s.n → Q .normal a' w') → (Code.region id ops true).wp P Q a w

def Post (P : Program) (N0 : Nat) (w0 : World) (m : Mu) (s : S) (w : World) (x : X) (s' : S) : Exit → Act → World → Prop := fun e a' w' =>
  e = x.toExit ∧ ∃ m', SRel P N0 w0 m' s'.env s'.n s'.h a' w' ∧ Went P N0 w0 m s.h w m' s'.h w' ∧ s'.n = s.n
theorem Post.before {m m1 : Mu} {s s1 s' : S} {w w1 : World} {x : X} (W : Went P N0 w0 m s.h w m1 s1.h w1) (n : s1.n = s.n) {e : Exit} {a : Act} {w' : World} (h : Post P N0 w0 m1 s1 w1 x s' e a w') : Post P N0 w0 m s w x s' e a w' := by
  obtain ⟨h0, m', h1, h2, h3⟩ := h
  exact ⟨h0, m', h1, W.trans h2, h3.trans n⟩

theorem codeA_ok {C : Cfg} (hx : ExtOK C.P C.ext) (hd : DrawOK C.P N0 w0) (hng : ∀ (g : Nat) (fn : Func), C.P.funcs[g]? = some fn → (fn.name == "runtime.NumGoroutine") = false) : ∀ f,
    (∀ c m s x s' a w, SRel C.P N0 w0 m s.env s.n s.h a w → codeA C f c s = some (x, s') → c.wp C.P (Post C.P N0 w0 m s w x s') a w) ∧
    (∀ c m s x s' a w, SRel C.P N0 w0 m s.env s.n s.h a w → codeA C f (.loop c) s = some (x, s') → ∀ Q : Exit → Act → World → Prop, (∀ e a' w', Post C.P N0 w0 m s w x s' e a' w' → Q e a' w') → Code.rounds C.P c Q f a w) ∧ CallOK C.P N0 w0 (callA C f) := by
  intro f
  induction f with
  | zero => exact ⟨fun c m s x s' a w R e => by simp [codeA] at e, fun c m s x s' a w R e => by simp [codeA] at e, fun g args h v h' e => by simp [callA] at e⟩
  | succ f ih =>
    obtain ⟨ih1, ih3, ih2⟩ := ih
    have loops : ∀ c m s x s' a w, SRel C.P N0 w0 m s.env s.n s.h a w → codeA C (f + 1) (.loop c) s = some (x, s') → ∀ Q : Exit → Act → World → Prop, (∀ e a' w', Post C.P N0 w0 m s w x s' e a' w' → Q e a' w') → Code.rounds C.P c Q (f + 1) a w := by
      intro p m s x s' a w R e Q hQ
      simp only [codeA] at e
      replace e := bnd_some.1 e; obtain ⟨⟨y, s1⟩, h1, e⟩ := e
      rw [rounds_succ]
      refine wp_mono (ih1 p m s y s1 a w R h1) fun e' a1 w1 hp => ?_
      obtain ⟨rfl, m1, R1, W1, n1⟩ := hp
      cases y with
      | norm => exact ih3 p m1 s1 x s' a1 w1 R1 e Q fun e a w h => hQ e a w (Post.before W1 n1 h)
      | exit id => injection e with e; injection e with e1 e2; subst e1; subst e2; exact hQ _ _ _ ⟨rfl, m1, R1, W1, n1⟩
      | ret => injection e with e; injection e with e1 e2; subst e1; subst e2; exact hQ _ _ _ ⟨rfl, m1, R1, W1, n1⟩
    refine ⟨fun c m s x s' a w R e => ?_, loops, fun g args h v h' e m w args' R hv => ?_⟩
    · have here : ∀ (x : X), (x, s) = (x, s) → Post C.P N0 w0 m s w x s x.toExit a w := fun x _ => ⟨rfl, m, R, ⟨.refl _ _, Nat.le_refl _, R.rel.same⟩, rfl⟩
      cases c <;> simp only [codeA] at e <;> first | (cases e; done) | skip
      case skip => injection e with e; injection e with e1 e2; subst e1; subst e2; exact wp_skip (here .norm rfl)
      case label l => injection e with e; injection e with e1 e2; subst e1; subst e2; exact wp_label (here .norm rfl)
      case ret => injection e with e; injection e with e1 e2; subst e1; subst e2; exact wp_ret (here .ret rfl)
      case exit id => injection e with e; injection e with e1 e2; subst e1; subst e2; exact wp_exit (here (.exit id) rfl)
      case seq p q =>
        replace e := bnd_some.1 e; obtain ⟨⟨y, s1⟩, h1, e⟩ := e
        refine wp_seq (wp_mono (ih1 p m s y s1 a w R h1) fun e' a1 w1 hp => ?_)
        obtain ⟨rfl, m1, R1, W1, n1⟩ := hp
        cases y with
        | norm => exact wp_mono (ih1 q m1 s1 x s' a1 w1 R1 e) fun _ _ _ => Post.before W1 n1
        | exit id => injection e with e; injection e with e1 e2; subst e1; subst e2; exact ⟨rfl, m1, R1, W1, n1⟩
        | ret => injection e with e; injection e with e1 e2; subst e1; subst e2; exact ⟨rfl, m1, R1, W1, n1⟩
      case cond t p q =>
        replace e := bnd_some.1 e; obtain ⟨v, h1, e⟩ := e
        have hr := R.ev _ _ h1
        cases v <;> dsimp only at e <;> first | (cases e; done) | skip
        case bool b =>
          cases b with
          | true => exact wp_cond_true (bool_inv hr) (ih1 p m s x s' a w R e)
          | false => exact wp_cond_false (bool_inv hr) (ih1 q m s x s' a w R e)
      case block id p =>
        replace e := bnd_some.1 e; obtain ⟨⟨y, s1⟩, h1, e⟩ := e
        refine wp_block (wp_mono (ih1 p m s y s1 a w R h1) fun e' a1 w1 hp => ?_)
        obtain ⟨rfl, hp⟩ := hp
        cases y with
        | norm => injection e with e; injection e with e1 e2; subst e1; subst e2; exact ⟨rfl, hp⟩
        | exit i =>
          injection e with e; injection e with e1 e2; subst e1; subst e2
          show if i = id then _ else _
          by_cases hi : i = id
          · rw [if_pos hi]
            have : Nat.beq i id = true := by subst hi; exact Nat.beq_refl i
            exact ⟨by rw [this]; rfl, hp⟩
          · rw [if_neg hi]
            have : Nat.beq i id = false := by
              cases hb : Nat.beq i id with
              | false => rfl
              | true => exact absurd (Nat.eq_of_beq_eq_true hb) hi
            exact ⟨by rw [this]; rfl, hp⟩
        | ret => injection e with e; injection e with e1 e2; subst e1; subst e2; exact ⟨rfl, hp⟩
      case loop p => exact wp_loop_rounds (f + 1) (loops p m s x s' a w R (by simp only [codeA]; exact e) _ fun _ _ _ h => h)
      case scope p =>
        refine wp_scope_straight (wp_mono (ih1 p m s x s' a w R e) fun e' a1 w1 hp => ?_)
        obtain ⟨rfl, hp⟩ := hp
        cases x <;> exact ⟨rfl, hp⟩
      case region id ops draw =>
        replace e := bnd_some.1 e; obtain ⟨s1, h1, e⟩ := e
        injection e with e; injection e with e1 e2; subst e1; subst e2
        cases draw with
        | true => exact hd _ ih2 id ops m s s1 a w _ R h1 fun m' a' w' R' W' n' => ⟨rfl, m', R', W', n'⟩
        | false => exact wp_region_list (opsA_wp ih2 _ R h1 fun m' a' w' R' W' n' => ⟨rfl, m', R', W', n'⟩)
    · simp only [callA] at e
      cases hg : getExt C.ext g with
      | some k =>
        rw [hg] at e
        replace e : ((extA C.P k args).bind fun v => some (v, h)) = some (v, h') := e
        replace e := bnd_some.1 e; obtain ⟨u, hu, e⟩ := e
        injection e with e; injection e with e1 e2; subst e1; subst e2
        obtain ⟨v', h1, h2⟩ := hx g k hg m w args args' u hv hu
        exact .inr ⟨v', m, w, h2, h1, .refl _ _, Nat.le_refl _, R.same⟩
      | none =>
        rw [hg] at e
        replace e : ((C.P.funcs[g]?).bind fun fn => fn.body.bind fun c =>
          (codeA C f c ⟨putArgs args 0 .lf, args.length + (fn.ntmps - args.length), h⟩).bind fun
          | (.exit _, _) => none
          | (_, s) => (resultsA C.P s.env s.h fn.results.toList).bind fun vs => some (oneOf vs, s.h)) = some (v, h') := e
        replace e := bnd_some.1 e; obtain ⟨fn, hfn, e⟩ := e
        replace e := bnd_some.1 e; obtain ⟨c, hc, e⟩ := e
        replace e := bnd_some.1 e; obtain ⟨⟨y, s1⟩, hs, e⟩ := e
        refine .inl ⟨Go.MuLone.run_callFunc_enter hfn (hng g fn hfn) hc _ w, calls_of_wp hfn hc (wp_mono (ih1 c m _ y s1 _ w (enter_rel R hv fn.ntmps) hs) fun e' a1 w1 hp => ?_)⟩
        obtain ⟨rfl, m1, R1, W1, n1⟩ := hp
        have fin : ((resultsA C.P s1.env s1.h fn.results.toList).bind fun vs => some (oneOf vs, s1.h)) = some (v, h') →
            a1.defers = [] ∧ ∃ v', (results fn a1.tmps).run C.P w1 = .ok v' w1 ∧ ∃ m' v'', Ending.returned v' = .returned v'' ∧ VRel m' v v'' ∧ Went C.P N0 w0 m h w m' h' w1 := fun e => by
          replace e := bnd_some.1 e; obtain ⟨vs, h1, e⟩ := e
          injection e with e; injection e with e1 e2; subst e1; subst e2
          obtain ⟨v', h2, h3⟩ := results_run R1 h1
          exact ⟨R1.defers, v', h2, m1, v', rfl, h3, W1⟩
        cases y with
        | norm => exact fin e
        | exit id => cases e
        | ret => exact fin e
end
end Go.Proofs.Ytagbpjegdfhmpaa.AM
