/- The smaller machine's regions, in the order of the text. -/
import Derived.Test.YtagbpjegdfhmpaaAmExec
import Derived.Orders
import Derived.Scope
import Derived.LoopN
set_option linter.unusedSimpArgs false
set_option linter.unusedVariables false
namespace Go.Proofs.Ytagbpjegdfhmpaa.AM
open Go.RowKit (Below)

section
variable {P : Program} {N0 : Nat} {w0 : World}

theorem put_defers' (a : Act) (dst : Option Tmp) (v : Value) : (a.put dst v).defers = a.defers := by cases dst <;> rfl
theorem wanted_ok {m : Mu} {ops : Array Oper} {env : T V} {a : Act} (hv : ∀ t v, env.get t = some v → ∃ v', a.tmps[t]? = some v' ∧ VRel m v v') {o : Oper} {b : Bool} (e : wantA (dstOf ops) env o = some b) :
    Region.wanted o (yielded ops a.tmps) = b := by
  unfold wantA at e
  unfold Region.wanted
  cases hg : o.guard with
  | none => rw [hg] at e; exact (Option.some.inj e)
  | some g =>
    rw [hg] at e
    obtain ⟨j, want⟩ := g
    replace e : ((dstOf ops j).bind fun t => (env.get t).bind fun | .bool q => some (q == want) | .undef => some false | _ => none) = some b := e
    replace e := bnd_some.1 e; obtain ⟨t, ht, e⟩ := e
    replace e := bnd_some.1 e; obtain ⟨v, hv0, e⟩ := e
    obtain ⟨v', h1, h2⟩ := hv t v hv0
    have ht : (ops[j]?).bind (·.dst) = some t := ht
    cases v <;> dsimp only at e <;> first | (cases e; done) | skip
    case bool q =>
      injection e with e; subst e
      cases h2
      simp [yielded, ht, h1]
    case undef =>
      injection e with e; subst e
      cases h2
      simp [yielded, ht, h1]

theorem alloc_wp {m : Mu} {h : H} {w : World} {nid : Nat} {ev : Operand → Option V} {a : Act} (R : HRel P.globals.size N0 w0 m h w) (hf : m nid = none) (hn : nid < h.next)
    (hev : ∀ x v, ev x = some v → VRel m v (a.eval x)) {o : Oper} {v : V} {r : Row} (e : allocA P ev o nid = some (v, r)) {K : Act → World → Prop} {Q : Exit → Act → World → Prop}
    (hK : ∀ m' v' w', VRel m' v v' → Ext m m' nid → Good P.globals.size N0 w0 m h w m' (h.set nid (some (.row r))) w' → K (a.put o.dst v') w') : o.wp P a w K Q := by
  obtain ⟨m', w', v', k1, k2, k3, k4⟩ := alloc_op (P := P) R hf hn hev e
  unfold Oper.wp
  rw [k4, Oper.upon_value]
  exact hK m' v' w' k3 k1 k2

theorem val_wp {m : Mu} {w : World} {a : Act} {o : Oper} {v : V} (e : Val P m w (execOp a.eval o) v) {K : Act → World → Prop} {Q : Exit → Act → World → Prop}
    (hK : ∀ v', VRel m v v' → K (a.put o.dst v') w) : o.wp P a w K Q := by
  obtain ⟨v', h1, h2⟩ := e
  unfold Oper.wp
  rw [h2, Oper.upon_value]
  exact hK v' h1

theorem stepA_wp {call : FuncId → List V → H → Option (V × H)} (hcall : CallOK P N0 w0 call) {m : Mu} {s s' : S} {a : Act} {w : World} {o : Oper} (R : SRel P N0 w0 m s.env s.n s.h a w)
    (e : stepA P call o s = some s') {K : Act → World → Prop} {Q : Exit → Act → World → Prop}
    (hK : ∀ m' a' w', SRel P N0 w0 m' s'.env s'.n s'.h a' w' → Went P N0 w0 m s.h w m' s'.h w' → s'.n = s.n → K a' w') : o.wp P a w K Q := by
  unfold stepA at e
  have hev := R.ev
  have fresh : m s.h.next = none := R.rel.dom _ (Nat.le_refl _)
  have heavy : ∀ k, ((heavyA P call (evT P s.env) k o s.h.next (s.h.bump 1)).bind fun r => some (⟨putT s.env s.n o.dst r.1, s.n, r.2⟩ : S)) = some s' → o.wp P a w K Q := by
    intro k e
    replace e := bnd_some.1 e; obtain ⟨⟨v, h'⟩, hh, e⟩ := e
    injection e with e; subst e
    refine heavy_wp hcall (bump_rel R.rel 1) fresh (Nat.lt_succ_self _) hev hh fun m' v' w' hv hle hrest hnx hg => ?_
    obtain ⟨p1, p2⟩ := put_vals (dst := o.dst) R.size R.vals hle hv
    exact hK m' _ w' ⟨by rw [put_defers']; exact R.defers, p1, p2, hg.rel⟩ ⟨⟨hle, fun id hid => hrest id (by have : (s.h.bump 1).next = s.h.next + 1 := rfl; omega) (by omega)⟩, by have : (s.h.bump 1).next = s.h.next + 1 := rfl; exact (by omega : s.h.next ≤ h'.next), ⟨hg.rel, hg.frm, hg.size⟩⟩ rfl
  split at e
  · replace e := bnd_some.1 e; obtain ⟨v, hv, e⟩ := e
    injection e with e; subst e
    refine val_wp (pure_ok (m := m) (w := w) hev hv) fun v' hv' => ?_
    obtain ⟨p1, p2⟩ := put_vals (dst := o.dst) R.size R.vals (Mu.le.refl m) hv'
    exact hK m _ w ⟨by rw [put_defers']; exact R.defers, p1, p2, R.rel⟩ ⟨.refl _ _, Nat.le_refl _, R.rel.same⟩ rfl
  · replace e := bnd_some.1 e; obtain ⟨v, hv, e⟩ := e
    injection e with e; subst e
    refine val_wp (load_ok R.rel hev hv) fun v' hv' => ?_
    obtain ⟨p1, p2⟩ := put_vals (dst := o.dst) R.size R.vals (Mu.le.refl m) hv'
    exact hK m _ w ⟨by rw [put_defers']; exact R.defers, p1, p2, R.rel⟩ ⟨.refl _ _, Nat.le_refl _, R.rel.same⟩ rfl
  · replace e := bnd_some.1 e; obtain ⟨⟨v, r⟩, hv, e⟩ := e
    injection e with e; subst e
    refine alloc_wp (bump_rel R.rel 1) fresh (Nat.lt_succ_self _) hev hv fun m' v' w' hv' hE hg => ?_
    obtain ⟨p1, p2⟩ := put_vals (dst := o.dst) R.size R.vals hE.le hv'
    exact hK m' _ w' ⟨by rw [put_defers']; exact R.defers, p1, p2, hg.rel⟩ ⟨hE.later (Nat.le_refl _), Nat.le_succ _, ⟨hg.rel, hg.frm, hg.size⟩⟩ rfl
  · exact heavy _ e

theorem opsA_wp {call : FuncId → List V → H → Option (V × H)} (hcall : CallOK P N0 w0 call) {ops : Array Oper} {Q : Exit → Act → World → Prop} : ∀ (l : List Oper) {m : Mu} {s s' : S} {a : Act} {w : World}, SRel P N0 w0 m s.env s.n s.h a w →
    opsA P call (dstOf ops) l s = some s' → (∀ m' a' w', SRel P N0 w0 m' s'.env s'.n s'.h a' w' → Went P N0 w0 m s.h w m' s'.h w' → s'.n = s.n → Q .normal a' w') → wpList P ops Q l a w
  | [], m, s, s', a, w, R, e, hQ => by
    injection e with e; subst e
    exact hQ m a w R ⟨.refl _ _, Nat.le_refl _, R.rel.same⟩ rfl
  | o :: l, m, s, s', a, w, R, e, hQ => by
    replace e : ((wantA (dstOf ops) s.env o).bind fun b => (cond b (stepA P call o s) (some ⟨putT s.env s.n o.dst .undef, s.n, s.h⟩)).bind fun s' => opsA P call (dstOf ops) l s') = some s' := e
    replace e := bnd_some.1 e; obtain ⟨b, hb, e⟩ := e
    replace e := bnd_some.1 e; obtain ⟨s1, h1, e⟩ := e
    unfold wpList
    rw [wanted_ok R.vals hb]
    cases b with
    | true =>
      refine .inl (stepA_wp hcall R (show stepA P call o s = some s1 from h1) fun m1 a1 w1 R1 W1 n1 => ?_)
      exact opsA_wp hcall l R1 e fun m' a' w' R' W' n' => hQ m' a' w' R' (W1.trans W') (n'.trans n1)
    | false =>
      have h1 : some (⟨putT s.env s.n o.dst .undef, s.n, s.h⟩ : S) = some s1 := h1
      injection h1 with h1; subst h1
      obtain ⟨p1, p2⟩ := put_vals (dst := o.dst) R.size R.vals (Mu.le.refl m) VRel.undef
      exact opsA_wp hcall l (s := ⟨putT s.env s.n o.dst .undef, s.n, s.h⟩) ⟨by rw [put_defers']; exact R.defers, p1, p2, R.rel⟩ e hQ
end
end Go.Proofs.Ytagbpjegdfhmpaa.AM
