/- A closed run of the smaller machine is a call in every world. -/
import Derived.Test.YtagbpjegdfhmpaaAmDraw3
import Derived.KernelRfl
set_option linter.unusedSimpArgs false
set_option linter.unusedVariables false
namespace Go.Proofs.Ytagbpjegdfhmpaa.AM
open Go.RowKit (Below)

section
variable {P : Program}

theorem run_ext {g : Nat} {fn : Func} {ex : Array Value → Sem Value} (hf : P.funcs[g]? = some fn) (hname : (fn.name == "runtime.NumGoroutine") = false) (hb : fn.body.isNone = true) (hn : Extern.findNext fn = none) (he : Extern.find fn = some ex) {args : Array Value} {v : Value} {w : World}
    (h : (ex args).run P w = .ok v w) : (callFunc g args).run P w = .ok (.value v) w := by
  have h1 : fn.name ≠ "runtime.NumGoroutine" := by simpa using hname
  have hb' : fn.body = none := by simpa using hb
  simp [callFunc, hf, h1, hb', hn, he, h]
theorem plainVals_inv {m : Mu} : ∀ {vs : List V} {xs xs' : List Value}, plainVals vs = some xs → VsRel m vs xs' → xs' = xs
  | [], xs, xs', e, h => by cases h; injection e
  | v :: vs, xs, xs', e, h => by
    cases h with
    | cons _ v' _ vs' hv hvs =>
      replace e := bnd_some.1 e; obtain ⟨x, h1, e⟩ := e
      replace e := bnd_some.1 e; obtain ⟨r, h2, e⟩ := e
      injection e with e; subst e
      rw [toValue_inv h1 hv, plainVals_inv h2 hvs]
def ekFun : Ek → Array Value → Sem Value
  | .noEscape => Extern.AbiNoEscape.same
  | .plain f => f
/-- What stands at a number of the list of externs. -/
def ExtOne (P : Program) (g : Nat) (e : Ek) : Prop :=
  ∃ fn, P.funcs[g]? = some fn ∧ (fn.name == "runtime.NumGoroutine") = false ∧ fn.body.isNone = true ∧ Extern.findNext fn = none ∧ Extern.find fn = some (ekFun e)
theorem getExt_mem : ∀ {ext : List (Nat × Ek)} {g : Nat} {e : Ek}, getExt ext g = some e → (g, e) ∈ ext
  | (i, x) :: r, g, e, h => by
    have h : cond (Nat.beq i g) (some x) (getExt r g) = some e := h
    cases hb : Nat.beq i g with
    | true =>
      rw [hb] at h
      injection h with h; subst h
      rw [Nat.eq_of_beq_eq_true hb]; exact List.mem_cons_self
    | false => rw [hb] at h; exact List.mem_cons_of_mem _ (getExt_mem h)
theorem ext_ok {ext : List (Nat × Ek)} (h : ∀ p ∈ ext, ExtOne P p.1 p.2) : ExtOK P ext := by
  intro g e hg m w args args' v hv hx
  obtain ⟨fn, h1, h2, h3, h4, h5⟩ := h _ (getExt_mem hg)
  cases e with
  | noEscape =>
    cases args with
    | nil => cases hx
    | cons a as =>
      cases as with
      | cons _ _ => cases hx
      | nil =>
        injection hx with hx; subst hx
        cases hv with
        | cons _ a' _ vs' ha has =>
          cases has
          exact ⟨a', ha, run_ext h1 h2 h3 h4 h5 rfl⟩
  | plain f =>
    replace hx := bnd_some.1 hx; obtain ⟨xs, k1, hx⟩ := hx
    replace hx := bnd_some.1 hx; obtain ⟨y, k2, hx⟩ := hx
    obtain rfl := plainVals_inv k1 hv
    exact ⟨y, ofValue_rel hx, run_ext h1 h2 h3 h4 h5 (prun_run k2)⟩

theorem named_ok (h : P.funcs.all (fun fn => !(fn.name == "runtime.NumGoroutine")) = true) (g : Nat) (fn : Func) (hg : P.funcs[g]? = some fn) : (fn.name == "runtime.NumGoroutine") = false := by
  have := Array.all_eq_true_iff_forall_mem.1 h fn (Array.mem_of_getElem? hg)
  simpa using this

/-- The package variables alone, none of them looked at. -/
def Mu.bare (n : Nat) : Mu := fun g => if g < n then some ⟨g, 0, 0, 0⟩ else none
theorem bare_rel (w : World) {n k : Nat} (hk : n ≤ k) : HRel n w.heap.size w (Mu.bare n) ⟨.lf, k⟩ w where
  below := .refl _ _
  n0 := Nat.le_refl _
  dom := fun id hid => by
    have : k ≤ id := hid
    simp only [Mu.bare]
    rw [if_neg (by omega)]
  objs := fun id o h => by cases (T.get_e id).symm.trans h
  inj := fun i j oi oj Li Lj h => by cases (T.get_e i).symm.trans h
  glob := fun g hg => ⟨⟨g, 0, 0, 0⟩, by simp [Mu.bare, hg], rfl, rfl⟩

/-- A closed call that answers with a plain value. -/
theorem closed_calls {C : Cfg} (hm : C.P.follows .mixedOrders = true) (hx : ∀ p ∈ C.ext, ExtOne C.P p.1 p.2) (hn : C.P.funcs.all (fun fn => !(fn.name == "runtime.NumGoroutine")) = true) {g : Nat} {fn : Func} {c : Code} (hg : C.P.funcs[g]? = some fn) (hb : fn.body = some c)
    {fuel k : Nat} (hk : C.P.globals.size ≤ k) {b : Bool} {h' : H} (e : callA C fuel g [] ⟨.lf, k⟩ = some (.bool b, h')) (w : World) :
    Calls C.P g #[] w fun e w' => e = .returned (.bool b) ∧ Below w.heap.size w w' := by
  have ok := (codeA_ok (N0 := w.heap.size) (w0 := w) (ext_ok hx) (draw_ok hm) (named_ok hn) fuel).2.2 g [] ⟨.lf, k⟩ _ h' e (Mu.bare C.P.globals.size) w [] (bare_rel w hk) .nil
  rcases ok with ⟨_, h2⟩ | ⟨v', m', w', h1, _, _⟩
  · refine h2.mono fun e w' he => ?_
    obtain ⟨m', v', rfl, hv, hw⟩ := he
    exact ⟨by rw [bool_inv hv], hw.good.rel.below⟩
  · rw [Go.MuLone.run_callFunc_enter hg (named_ok hn g fn hg) hb] at h1
    cases h1
end

def isT (x : Option (V × H)) : Bool := match x with | some (.bool b, _) => b | _ => false
theorem isT_some {x : Option (V × H)} (h : isT x = true) : ∃ h', x = some (.bool true, h') := by
  unfold isT at h
  split at h
  · rename_i b h'
    subst h; exact ⟨h', rfl⟩
  · cases h
end Go.Proofs.Ytagbpjegdfhmpaa.AM
