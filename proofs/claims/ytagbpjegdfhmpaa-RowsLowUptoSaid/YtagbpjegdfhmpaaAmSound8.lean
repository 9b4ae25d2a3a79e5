/- The smaller machine's operations, by kinds. -/
import Derived.Test.YtagbpjegdfhmpaaAmSound7
set_option linter.unusedSimpArgs false
set_option linter.unusedVariables false
namespace Go.Proofs.Ytagbpjegdfhmpaa.AM
open Go.RowKit (Below)

section
variable {P : Program} {NG N0 : Nat} {w0 : World} {m : Mu} {h : H} {w : World} {nid : Nat} {ev : Operand → Option V} {ρ : Operand → Value}

/-- The operation leaves the world and gives a value. -/
def Val (P : Program) (m : Mu) (w : World) (s : Sem Next) (v : V) : Prop := ∃ v', VRel m v v' ∧ s.run P w = .ok (.value v') w

theorem or_some {α : Type} {x y : Option α} {a : α} (e : x.or y = some a) : x = some a ∨ y = some a := by
  cases x with
  | none => right; simpa using e
  | some b => left; simpa using e
theorem val_of {s : Sem Value} {v : V} (h : Gets P m w s v) : Val P m w (do pure (.value (← s))) v := by
  obtain ⟨v', h1, h2⟩ := h
  exact ⟨v', h1, by simp [h2]⟩
theorem val_plain (hev : ∀ x v, ev x = some v → VRel m v (ρ x)) {o : Oper} {v : V} (hs : ∀ cs b, o.op ≠ .select cs b) (e : plainA P ev o = some v) : Val P m w (execOp ρ o) v := by
  obtain ⟨v', h1, h2⟩ := plain_ok (w := w) hev hs e
  exact ⟨v', h2, h1⟩

theorem getElem?_map {xs : Array Operand} {i : Nat} {x : Operand} (h : xs[i]? = some x) : (xs.map ρ)[i]? = some (ρ x) := by simp [h]

theorem len_run {c : Call} {x : Operand} {a v : V} {t : TypeId} {d : TypeDesc} {ty : TypeId} (hc : c.callee = .builtin .len) (hx : c.args[0]? = some x) (ht : c.argTypes[0]? = some t) (hd : P.underlying t = some d)
    (hk : lenOk d a = true) (e : lenPureA a = some v) (ha : VRel m a (ρ x)) :
    Val P m w (do let d ← resolve ρ c ty; invoke d.target d.args) v := by
  have hq : (c.args.map ρ)[0]? = some (ρ x) := getElem?_map hx
  generalize ρ x = y at hq ha
  unfold lenPureA at e
  split at e <;> first | (cases e; done) | skip
  all_goals
    injection e with e
    subst e
    cases d <;> first | (cases hk; done) | skip
  · cases ha
    exact ⟨.int .i64 0, .int _ _, by simp [resolve, hc, invoke, builtin, Builtin.len_, ht, hq, run_underlying hd, goInt]⟩
  · rename_i s
    obtain rfl := str_inv ha
    have hsz : (⟨s.toArray⟩ : ByteArray).size = s.length := by simp [ByteArray.size]
    exact ⟨.int .i64 (s.length : Int), .int _ _, by simp [resolve, hc, invoke, builtin, Builtin.len_, ht, hq, run_underlying hd, goInt, hsz]⟩
  · obtain ⟨L, cc, _, rfl, _⟩ := sl_inv ha
    exact ⟨_, .int _ _, by simp [resolve, hc, invoke, builtin, Builtin.len_, ht, hq, run_underlying hd, goInt]⟩
theorem cap_run {c : Call} {x : Operand} {a v : V} {t : TypeId} {el : TypeId} {ty : TypeId} (hc : c.callee = .builtin .cap) (hx : c.args[0]? = some x) (ht : c.argTypes[0]? = some t) (hd : P.underlying t = some (.slice el))
    (e : capPureA a = some v) (ha : VRel m a (ρ x)) : Val P m w (do let d ← resolve ρ c ty; invoke d.target d.args) v := by
  have hq : (c.args.map ρ)[0]? = some (ρ x) := getElem?_map hx
  generalize ρ x = y at hq ha
  unfold capPureA at e
  split at e <;> first | (cases e; done) | skip
  all_goals
    injection e with e
    subst e
  · cases ha
    exact ⟨.int .i64 0, .int _ _, by simp [resolve, hc, invoke, builtin, Builtin.cap_, ht, hq, run_underlying hd, goInt]⟩
  · obtain ⟨L, cc, _, rfl, hcap⟩ := sl_inv ha
    dsimp only at hcap
    subst hcap
    exact ⟨_, .int _ _, by simp [resolve, hc, invoke, builtin, Builtin.cap_, ht, hq, run_underlying hd, goInt]⟩

theorem slData_run {c : Call} {x : Operand} {a : V} {p : Nat × Nat × Nat × Option Nat} {ty : TypeId} (hc : c.callee = .builtin .unsafeSliceData) (hx : c.args[0]? = some x) (hsz : c.args.size = 1) (hp : a.sl? = some p) (h0 : p.2.2.2.getD p.2.2.1 ≠ 0)
    (ha : VRel m a (ρ x)) : Val P m w (do let d ← resolve ρ c ty; invoke d.target d.args) (.ptr p.1 p.2.1) := by
  obtain ⟨id, off, len, cap⟩ := p
  obtain rfl := V.sl?_inv hp
  dsimp only at *
  obtain ⟨L, cc, hm, hρ, hcap⟩ := sl_inv ha
  have hcc : cc ≠ 0 := by
    cases cap with
    | none => have := hcap.2; simp at h0; omega
    | some c' => dsimp only at hcap; subst hcap; simpa using h0
  have hargs : c.args.map ρ = #[.slice (some ⟨L.b, L.d + off, none⟩) len cc] := by
    apply Array.ext
    · simp [hsz]
    · intro i h1 h2
      have : i = 0 := by simp at h2; omega
      subst this
      have hx' := getElem?_map (ρ := ρ) hx
      rw [Array.getElem?_eq_getElem h1] at hx'
      injection hx' with hx'
      rw [hx', hρ]; rfl
  have e : ∀ ats ty (a : Addr) l, (Builtin.unsafeSliceData_ ats ty #[.slice (some a) l cc]).run P w = .ok (.pointer (some a)) w := fun ats ty a l => by
    show (ite (cc ≠ 0) (pure (.pointer (some a))) _ : Sem Value).run P w = _
    rw [if_pos hcc]; rfl
  exact ⟨_, .ptr _ _ _ hm, by simp [resolve, hc, invoke, builtin, hargs, e]⟩
end
end Go.Proofs.Ytagbpjegdfhmpaa.AM
