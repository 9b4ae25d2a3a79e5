/- The smaller machine's operations that don't look at memory. -/
import Derived.Test.YtagbpjegdfhmpaaAmSound5
import Derived.Test.YtagbpjegdfhmpaaAmOps2
set_option linter.unusedSimpArgs false
set_option linter.unusedVariables false
namespace Go.Proofs.Ytagbpjegdfhmpaa.AM
open Go.RowKit (Below)

section
variable {P : Program} {m : Mu} {w : World} {ev : Operand → Option V} {ρ : Operand → Value}

theorem evAll_ok (hev : ∀ x v, ev x = some v → VRel m v (ρ x)) : ∀ {xs : List Operand} {vs : List V}, evAll ev xs = some vs → VsRel m vs (xs.map ρ)
  | [], vs, e => by injection e with e; subst e; exact .nil
  | x :: xs, vs, e => by
    replace e := bnd_some.1 e; obtain ⟨v, h1, e⟩ := e
    replace e := bnd_some.1 e; obtain ⟨r, h2, e⟩ := e
    injection e with e; subst e
    exact .cons _ _ _ _ (hev _ _ h1) (evAll_ok hev h2)
theorem partsOf_ok (hev : ∀ x v, ev x = some v → VRel m v (ρ x)) : ∀ {ps : List (Nat × Operand)} {vs : List (Nat × V)}, partsOf ev ps = some vs → PsRel m vs (ps.map fun p => (p.1, ρ p.2))
  | [], vs, e => by injection e with e; subst e; exact .nil
  | (i, x) :: ps, vs, e => by
    replace e := bnd_some.1 e; obtain ⟨v, h1, e⟩ := e
    replace e := bnd_some.1 e; obtain ⟨r, h2, e⟩ := e
    injection e with e; subst e
    exact .cons _ _ _ _ _ (hev _ _ h1) (partsOf_ok hev h2)

theorem toCells_inv : ∀ {vs : List V} {cs cs' : List Value}, toCells vs = some cs → VsRel m vs cs' → cs' = cs
  | [], cs, cs', e, h => by cases h; injection e
  | v :: vs, cs, cs', e, h => by
    cases h with
    | cons _ v' _ vs' hv hvs =>
      cases v <;> simp only [toCells] at e <;> first | (cases e; done) | skip
      all_goals
        replace e := bnd_some.1 e; obtain ⟨r, h2, e⟩ := e
        injection e with e; subst e
        cases hv
        rw [toCells_inv h2 hvs]
theorem toValue_inv {v : V} {x x' : Value} (e : toValue v = some x) (h : VRel m v x') : x' = x := by
  cases v <;> simp only [toValue] at e <;> first | (cases e; done) | skip
  case agg vs =>
    replace e := bnd_some.1 e; obtain ⟨r, h2, e⟩ := e
    injection e with e; subst e
    obtain ⟨vs', hv, rfl⟩ := agg_inv h
    rw [toCells_inv h2 hv]
  all_goals (injection e with e; subst e; cases h; rfl)

theorem prun_run {α : Type} : ∀ {s : Sem α} {a : α}, prun P s = some a → s.run P w = .ok a w
  | .pure a, b, e => by injection e with e; subst e; rfl
  | .program k, b, e => prun_run (s := k P) e
  | .mark _ k, b, e => prun_run (s := k) e
  | .load .., _, e | .store .., _, e | .new .., _, e | .shape .., _, e | .freeze .., _, e | .frozen .., _, e | .getObj .., _, e | .setObj .., _, e | .choose .., _, e | .sys .., _, e | .halt .., _, e => by cases e
theorem plainArgs_ok : ∀ {xs : List Operand}, plainArgs ev xs = some () → ∀ x ∈ xs, ∃ v y, ev x = some v ∧ toValue v = some y
  | [], _, x, hx => by cases hx
  | a :: xs, e, x, hx => by
    replace e := bnd_some.1 e; obtain ⟨v, h1, e⟩ := e
    replace e := bnd_some.1 e; obtain ⟨y, h2, e⟩ := e
    cases hx with
    | head => exact ⟨v, y, h1, h2⟩
    | tail _ hx => exact plainArgs_ok e x hx
theorem plain_ok (hev : ∀ x v, ev x = some v → VRel m v (ρ x)) {o : Oper} {v : V} (hs : ∀ cs b, o.op ≠ .select cs b) (e : plainA P ev o = some v) :
    ∃ v', (execOp ρ o).run P w = .ok (.value v') w ∧ VRel m v v' := by
  replace e := bnd_some.1 e; obtain ⟨u, h1, e⟩ := e
  replace e := bnd_some.1 e; obtain ⟨nx, h2, e⟩ := e
  have hc : execOp ρ o = execOp (plainEv ev) o := execOp_congr o hs fun x hx => by
    obtain ⟨v, y, e1, e2⟩ := plainArgs_ok h1 x (by simpa using hx)
    rw [toValue_inv e2 (hev x v e1)]
    simp [plainEv, e1, e2]
  cases nx <;> first | (cases e; done) | skip
  case value y => exact ⟨y, by rw [hc]; exact prun_run h2, ofValue_rel e⟩

/-! ### Arithmetic, and something against nil -/
theorem intA_ok {op : BinOp} {k : IntKind} {a b : Int} {v : V} {t : TypeId} {x y : Operand} (e : intA op k a b = some v) :
    ∃ v', (do eqGuard op t x y (.int k a) (.int k b); binOp op t (.int k a) (.int k b) : Sem Value).run P w = .ok v' w ∧ VRel m v v' := by
  cases op <;> simp only [intA] at e <;> first | (cases e; done) | skip
  all_goals
    injection e with e
    subst e
    exact ⟨_, by simp [eqGuard, binOp, Op.intArith, Op.intCmp]; rfl, by constructor⟩

theorem eqGuard_nil {op : BinOp} {t : TypeId} {x y : Operand} {a b : Value} (h1 : ¬ (a = .nilIface ∧ b = .nilIface)) (h2 : ∀ p q, ¬ (a = .agg p ∧ b = .agg q)) : (eqGuard op t x y a b).run P w = .ok () w := by
  have key : (match a, b with
    | .nilIface, .nilIface => (do
      if (x matches .const _) || (y matches .const _) then return
      if ← Op.eqGuardIn Op.maxDepth t a b then unsupported (.noEntry "binop/eql: two nil values of an interface type with methods, neither of them the literal nil") : Sem Unit)
    | .agg _, .agg _ => (do
      if !(← program).eqGuardType (← program).depth t then return
      if ← Op.eqGuardIn Op.maxDepth t a b then unsupported (.noEntry "binop/eql: two nil values of an interface type with methods, in a part of a struct or an array"))
    | _, _ => pure ()).run P w = .ok () w := by
    cases a <;> cases b <;> first | rfl | exact absurd ⟨rfl, rfl⟩ h1 | exact absurd ⟨rfl, rfl⟩ (h2 _ _)
  cases op <;> first | rfl | exact key
/-- What a value of the kind is, nil or not. -/
def NzIs (m : Mu) : TypeDesc → Bool → V → Value → Prop
  | .pointer _, true, _, x' => x' = .pointer none
  | .pointer _, false, x, x' => ∃ i a L, x = .ptr i a ∧ m i = some L ∧ x' = .pointer (some ⟨L.b, L.d + a, none⟩)
  | .slice _, true, _, x' => x' = .slice none 0 0
  | .slice _, false, _, x' => ∃ a l c, x' = .slice (some a) l c
  | .map _ _, true, _, x' => x' = .map none
  | .map _ _, false, _, x' => ∃ a, x' = .map (some a)
  | .interface _, true, _, x' => x' = .nilIface
  | .interface _, false, _, x' => ∃ t v, x' = .iface t v
  | .func _ _ _, true, _, x' => x' = .nilFunc
  | .func _ _ _, false, _, x' => ∃ f a b, x' = .func f a b
  | _, _, _, _ => False
theorem nz_ok {d : TypeDesc} {x : V} {x' : Value} {b : Bool} (e : nz d x = some b) (h : VRel m x x') : NzIs m d b x x' := by
  unfold nz at e
  split at e
  case h_11 => cases e
  all_goals (injection e with e; subst e; cases h <;> simp only [NzIs] <;> first | rfl | exact ⟨_, _, _, rfl, ‹_›, rfl⟩ | exact ⟨_, _, _, rfl⟩ | exact ⟨_, _, rfl⟩ | exact ⟨_, rfl⟩)
theorem nilIn_ok (dd : Nat) {t : TypeId} {x y : V} {x' y' : Value} {b : Bool} (e : nilA P t x y = some b) (hx : VRel m x x') (hy : VRel m y y') :
    (¬ (x' = .nilIface ∧ y' = .nilIface)) ∧ (∀ p q, ¬ (x' = .agg p ∧ y' = .agg q)) ∧ (Op.equalIn (dd + 1) t x' y').run P w = .ok b w := by
  replace e := bnd_some.1 e; obtain ⟨d, hd, e⟩ := e
  replace e := bnd_some.1 e; obtain ⟨p, hp, e⟩ := e
  replace e := bnd_some.1 e; obtain ⟨q, hq, e⟩ := e
  have h1 := nz_ok hp hx
  have h2 := nz_ok hq hy
  clear hp hq hx hy
  cases d <;> simp only [NzIs] at h1 <;> first | (exact h1.elim) | skip
  case pointer el =>
    cases p <;> cases q <;> simp only [NzIs] at h1 h2
    · obtain ⟨i, a, L, rfl, m1, rfl⟩ := h1
      obtain ⟨j, c, L', rfl, m2, rfl⟩ := h2
      have e : (szOf P el).bind (fun n => grd (!Nat.beq n 0 && Nat.beq i j) (some (Nat.beq a c))) = some b := e
      replace e := bnd_some.1 e; obtain ⟨n, hn, e⟩ := e
      replace e := grd_some.1 e; obtain ⟨hg, e⟩ := e
      injection e with e; subst e
      simp only [Bool.and_eq_true, Bool.not_eq_true'] at hg
      have hij := Nat.eq_of_beq_eq_true hg.2
      subst hij
      rw [m1] at m2; injection m2 with m2; subst m2
      have hn0 : n ≠ 0 := by intro h0; subst h0; cases hg.1
      refine ⟨by simp, by simp, ?_⟩
      simp only [Op.equalIn, Sem.run_bind, run_underlying hd, Result.andThen_ok, run_sizeOf hn]
      rw [if_pos hn0]
      simp only [sameAddr, beq_self_eq_true, if_true, Sem.run_pure]
      congr 1
      cases hb : Nat.beq a c with
      | true => have := Nat.eq_of_beq_eq_true hb; subst this; simp
      | false =>
        have hne : a ≠ c := by intro h; subst h; rw [Nat.beq_refl] at hb; cases hb
        simp [hne]
    · obtain ⟨i, a, L, rfl, m1, rfl⟩ := h1
      subst h2; injection e with e; subst e
      exact ⟨by simp, by simp, by simp [Op.equalIn, run_underlying hd]⟩
    · obtain ⟨i, a, L, rfl, m1, rfl⟩ := h2
      subst h1; injection e with e; subst e
      exact ⟨by simp, by simp, by simp [Op.equalIn, run_underlying hd]⟩
    · subst h1; subst h2; injection e with e; subst e
      exact ⟨by simp, by simp, by simp [Op.equalIn, run_underlying hd]⟩
  case slice el =>
    cases p <;> cases q <;> simp only [NzIs] at h1 h2
    · cases e
    · obtain ⟨a1, a2, a3, rfl⟩ := h1; subst h2; injection e with e; subst e
      exact ⟨by simp, by simp, by simp [Op.equalIn, run_underlying hd]⟩
    · obtain ⟨a1, a2, a3, rfl⟩ := h2; subst h1; injection e with e; subst e
      exact ⟨by simp, by simp, by simp [Op.equalIn, run_underlying hd]⟩
    · subst h1; subst h2; injection e with e; subst e
      exact ⟨by simp, by simp, by simp [Op.equalIn, run_underlying hd]⟩
  case map k el =>
    cases p <;> cases q <;> simp only [NzIs] at h1 h2
    · cases e
    · obtain ⟨a1, rfl⟩ := h1; subst h2; injection e with e; subst e
      exact ⟨by simp, by simp, by simp [Op.equalIn, run_underlying hd]⟩
    · obtain ⟨a1, rfl⟩ := h2; subst h1; injection e with e; subst e
      exact ⟨by simp, by simp, by simp [Op.equalIn, run_underlying hd]⟩
    · subst h1; subst h2; injection e with e; subst e
      exact ⟨by simp, by simp, by simp [Op.equalIn, run_underlying hd]⟩
  case interface ms =>
    cases p <;> cases q <;> simp only [NzIs] at h1 h2
    · cases e
    · obtain ⟨a1, a2, rfl⟩ := h1; subst h2; injection e with e; subst e
      exact ⟨by simp, by simp, by simp [Op.equalIn, run_underlying hd]⟩
    · obtain ⟨a1, a2, rfl⟩ := h2; subst h1; injection e with e; subst e
      exact ⟨by simp, by simp, by simp [Op.equalIn, run_underlying hd]⟩
    · cases e
  case func ps rs va =>
    cases p <;> cases q <;> simp only [NzIs] at h1 h2
    · cases e
    · obtain ⟨a1, a2, a3, rfl⟩ := h1; subst h2; injection e with e; subst e
      exact ⟨by simp, by simp, by simp [Op.equalIn, run_underlying hd]⟩
    · obtain ⟨a1, a2, a3, rfl⟩ := h2; subst h1; injection e with e; subst e
      exact ⟨by simp, by simp, by simp [Op.equalIn, run_underlying hd]⟩
    · subst h1; subst h2; injection e with e; subst e
      exact ⟨by simp, by simp, by simp [Op.equalIn, run_underlying hd]⟩
theorem nilA_ok {t : TypeId} {x y : V} {x' y' : Value} {b : Bool} (e : nilA P t x y = some b) (hx : VRel m x x') (hy : VRel m y y') :
    (¬ (x' = .nilIface ∧ y' = .nilIface)) ∧ (∀ p q, ¬ (x' = .agg p ∧ y' = .agg q)) ∧ (Op.equal t x' y').run P w = .ok b w := nilIn_ok 9999 e hx hy
end
end Go.Proofs.Ytagbpjegdfhmpaa.AM
