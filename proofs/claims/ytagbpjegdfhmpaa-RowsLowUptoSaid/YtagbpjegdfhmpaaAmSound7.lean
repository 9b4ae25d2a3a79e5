/- The smaller machine's operations that don't look at memory, whole. -/
import Derived.Test.YtagbpjegdfhmpaaAmSound6
set_option linter.unusedSimpArgs false
set_option linter.unusedVariables false
namespace Go.Proofs.Ytagbpjegdfhmpaa.AM
open Go.RowKit (Below)

section
variable {P : Program} {m : Mu} {w : World} {ev : Operand → Option V} {ρ : Operand → Value}

theorem bin_ok {op : BinOp} {t : TypeId} {x y : Operand} {a b v : V} {a' b' : Value} (e : binA P op t a b = some v) (ha : VRel m a a') (hb : VRel m b b') :
    ∃ v', (do eqGuard op t x y a' b'; binOp op t a' b' : Sem Value).run P w = .ok v' w ∧ VRel m v v' := by
  unfold binA at e
  split at e
  · rename_i k p k' q
    obtain rfl := int_inv ha
    obtain rfl := int_inv hb
    by_cases hk : k = k'
    · subst hk
      simp only [decide_true] at e
      exact intA_ok e
    · simp only [hk, decide_false] at e; cases e
  · rename_i hni
    replace e := bnd_some.1 e; obtain ⟨r, hr, e⟩ := e
    injection e with e; subst e
    obtain ⟨h1, h2, h3⟩ := nilA_ok (w := w) hr ha hb
    refine ⟨.bool r, ?_, .bool r⟩
    rw [Sem.run_bind, eqGuard_nil h1 h2]
    simp only [Result.andThen_ok]
    have : binOp .eql t a' b' = (do pure (.bool (← Op.equal t a' b')) : Sem Value) := by
      replace hr := bnd_some.1 hr; obtain ⟨d, hd, hr⟩ := hr
      replace hr := bnd_some.1 hr; obtain ⟨p, hp, hr⟩ := hr
      replace hr := bnd_some.1 hr; obtain ⟨q, hq, hr⟩ := hr
      have n1 := nz_ok hp ha
      have n2 := nz_ok hq hb
      cases d <;> simp only [NzIs] at n1 <;> first | (exact n1.elim) | skip
      all_goals
        cases p <;> cases q <;> simp only [NzIs] at n1 n2
        all_goals
          (repeat (first | (obtain ⟨_, n1⟩ := n1) | (obtain ⟨_, n2⟩ := n2)))
          first | subst n1 | skip
          first | subst n2 | skip
          first | rfl | skip
    rw [this, Sem.run_bind, h3]
    rfl
  · rename_i hni
    replace e := bnd_some.1 e; obtain ⟨r, hr, e⟩ := e
    injection e with e; subst e
    obtain ⟨h1, h2, h3⟩ := nilA_ok (w := w) hr ha hb
    refine ⟨.bool (!r), ?_, .bool _⟩
    rw [Sem.run_bind, eqGuard_nil h1 h2]
    simp only [Result.andThen_ok]
    have : binOp .neq t a' b' = (do pure (.bool (!(← Op.equal t a' b'))) : Sem Value) := by
      replace hr := bnd_some.1 hr; obtain ⟨d, hd, hr⟩ := hr
      replace hr := bnd_some.1 hr; obtain ⟨p, hp, hr⟩ := hr
      replace hr := bnd_some.1 hr; obtain ⟨q, hq, hr⟩ := hr
      have n1 := nz_ok hp ha
      have n2 := nz_ok hq hb
      cases d <;> simp only [NzIs] at n1 <;> first | (exact n1.elim) | skip
      all_goals
        cases p <;> cases q <;> simp only [NzIs] at n1 n2
        all_goals
          (repeat (first | (obtain ⟨_, n1⟩ := n1) | (obtain ⟨_, n2⟩ := n2)))
          first | subst n1 | skip
          first | subst n2 | skip
          first | rfl | skip
    rw [this, Sem.run_bind, h3]
    rfl
  · cases e

theorem conv_ok {s d : TypeId} {x v : V} {x' : Value} (e : convA P s d x = some v) (hx : VRel m x x') : ∃ v', (convert s d x').run P w = .ok v' w ∧ VRel m v v' := by
  replace e := bnd_some.1 e; obtain ⟨sd, hs, e⟩ := e
  replace e := bnd_some.1 e; obtain ⟨dd, hd, e⟩ := e
  split at e
  · injection e with e; subst e
    obtain rfl := int_inv hx
    exact ⟨_, by simp [convert, run_underlying hs, run_underlying hd, Conv.intToInt], .int _ _⟩
  · injection e with e; subst e
    obtain rfl := str_inv hx
    exact ⟨_, by simp [convert, run_underlying hs, run_underlying hd], .str _⟩
  · cases e

theorem nilOk_ok {x v : V} {x' : Value} {o : Oper} {a : Operand} (ho : o.op = .nilCheck a) (e : nilOk x = some v) (hx : VRel m x x') (hρ : ρ a = x') : (execOp ρ o).run P w = .ok (.value x') w ∧ v = x := by
  unfold nilOk at e
  split at e
  · injection e with e; subst e
    obtain ⟨L, _, rfl⟩ := ptr_inv hx
    exact ⟨by simp [execOp, ho, hρ], rfl⟩
  · injection e with e; subst e
    cases hx
    exact ⟨by simp [execOp, ho, hρ], rfl⟩
  · injection e with e; subst e
    cases hx
    exact ⟨by simp [execOp, ho, hρ], rfl⟩
  · cases e
end
end Go.Proofs.Ytagbpjegdfhmpaa.AM
