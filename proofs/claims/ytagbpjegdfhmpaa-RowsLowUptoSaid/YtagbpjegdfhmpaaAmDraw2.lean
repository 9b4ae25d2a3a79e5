/- Regions whose order is open: the run in the order of the text, and what each operation did in it. -/
import Derived.Test.YtagbpjegdfhmpaaAmDraw1
set_option linter.unusedSimpArgs false
set_option linter.unusedVariables false
namespace Go.Proofs.Ytagbpjegdfhmpaa.AM
open Go.RowKit (Below)

inductive Fact (P : Program) (call : FuncId → List V → H → Option (V × H)) (dsts : Nat → Option Tmp) (n base i : Nat) (o : Oper) (mk : Nat) (d d' : D) (v : V) : Prop where
  | skip : wantA dsts d.env o = some false → v = .undef → d' = { d with env := putT d.env n o.dst .undef } → Fact P call dsts n base i o mk d d' v
  | pure : wantA dsts d.env o = some true → kindOf P o = .pure → pureA P (evT P d.env) o = some v → d' = { d with env := putT d.env n o.dst v } → Fact P call dsts n base i o mk d d' v
  | load : wantA dsts d.env o = some true → kindOf P o = .load → loadA P (evT P d.env) o d.hb = some v → backOK (loadA P (evT P d.env) o) v mk d.bs = true → d' = { d with env := putT d.env n o.dst v, ws := (i, loadA P (evT P d.env) o, v) :: d.ws } → Fact P call dsts n base i o mk d d' v
  | alloc (r : Row) : wantA dsts d.env o = some true → kindOf P o = .alloc → allocA P (evT P d.env) o (base + i) = some (v, r) → d' = { d with env := putT d.env n o.dst v, h := d.h.set (base + i) (some (.row r)) } → Fact P call dsts n base i o mk d d' v
  | heavy (h' : H) : wantA dsts d.env o = some true → isHeavy (kindOf P o) = true → heavyA P call (evT P d.env) (kindOf P o) o (base + i) d.h = some (v, h') → againOK h' mk d.ws = true → d' = ⟨putT d.env n o.dst v, h', h', (i, d.hb) :: d.bs, d.ws⟩ → Fact P call dsts n base i o mk d d' v

section
variable {P : Program} {call : FuncId → List V → H → Option (V × H)}

theorem stepD_fact {dsts : Nat → Option Tmp} {n base i mk : Nat} {o : Oper} {d d' : D} (hw : wantA dsts d.env o = some true) (e : stepD P call n base i mk o d = some d') : ∃ v, Fact P call dsts n base i o mk d d' v := by
  unfold stepD at e
  have heavy : ∀ k, kindOf P o = k → isHeavy k = true → ((heavyA P call (evT P d.env) k o (base + i) d.h).bind fun r => grd (againOK r.2 mk d.ws) (some (⟨putT d.env n o.dst r.1, r.2, r.2, (i, d.hb) :: d.bs, d.ws⟩ : D))) = some d' → ∃ v, Fact P call dsts n base i o mk d d' v := by
    intro k hk hk' e
    subst hk
    replace e := bnd_some.1 e; obtain ⟨⟨v, h'⟩, hh, e⟩ := e
    replace e := grd_some.1 e; obtain ⟨hg, e⟩ := e
    injection e with e
    exact ⟨v, .heavy h' hw hk' hh hg e.symm⟩
  split at e
  · rename_i hk
    replace e := bnd_some.1 e; obtain ⟨v, hv, e⟩ := e
    injection e with e
    exact ⟨v, .pure hw hk hv e.symm⟩
  · rename_i hk
    replace e := bnd_some.1 e; obtain ⟨v, hv, e⟩ := e
    replace e := grd_some.1 e; obtain ⟨hg, e⟩ := e
    injection e with e
    exact ⟨v, .load hw hk hv hg e.symm⟩
  · rename_i hk
    replace e := bnd_some.1 e; obtain ⟨⟨v, r⟩, hv, e⟩ := e
    injection e with e
    exact ⟨v, .alloc r hw hk hv e.symm⟩
  · rename_i h1 h2 h3
    refine heavy _ rfl ?_ e
    cases hk : kindOf P o <;> first | rfl | exact absurd hk h1 | exact absurd hk h2 | exact absurd hk h3

theorem opsD_facts {dsts : Nat → Option Tmp} {n base : Nat} : ∀ (os : List Oper) (ms : List Nat) (i : Nat) (d d' : D), opsD P call dsts n base i os ms d = some d' →
    ∃ (dd : Nat → D) (val : Nat → V), dd 0 = d ∧ dd os.length = d' ∧ ∀ (k : Nat) (o : Oper) (mk : Nat), os[k]? = some o → ms[k]? = some mk → Fact P call dsts n base (i + k) o mk (dd k) (dd (k + 1)) (val k)
  | [], ms, i, d, d', e => by
    have e : some d = some d' := by cases ms <;> exact e
    injection e with e; subst e
    exact ⟨fun _ => d, fun _ => .undef, rfl, rfl, fun k o mk h => by simp at h⟩
  | o :: os, [], i, d, d', e => by cases e
  | o :: os, mk :: ms, i, d, d', e => by
    replace e : ((wantA dsts d.env o).bind fun b => (cond b (stepD P call n base i mk o d) (some { d with env := putT d.env n o.dst .undef })).bind fun d' => opsD P call dsts n base (i + 1) os ms d') = some d' := e
    replace e := bnd_some.1 e; obtain ⟨b, hb, e⟩ := e
    replace e := bnd_some.1 e; obtain ⟨d1, h1, e⟩ := e
    obtain ⟨dd, val, h2, h3, h4⟩ := opsD_facts os ms (i + 1) d1 d' e
    have hf : ∃ v, Fact P call dsts n base i o mk d d1 v := by
      cases b with
      | true => exact stepD_fact hb h1
      | false =>
        have h1 : some { d with env := putT d.env n o.dst .undef } = some d1 := h1
        injection h1 with h1
        exact ⟨.undef, .skip hb rfl h1.symm⟩
    obtain ⟨v, hf⟩ := hf
    refine ⟨fun k => match k with | 0 => d | k + 1 => dd k, fun k => match k with | 0 => v | k + 1 => val k, rfl, h3, fun k o' mk' h5 h6 => ?_⟩
    cases k with
    | zero =>
      simp only [List.getElem?_cons_zero, Option.some.injEq] at h5 h6
      subst h5; subst h6
      rw [Nat.add_zero]
      show Fact P call dsts n base i o mk d (dd 0) v
      rw [h2]; exact hf
    | succ k =>
      have := h4 k o' mk' h5 h6
      rwa [show i + 1 + k = i + (k + 1) by omega] at this
end

/-- The text's run of a region. -/
structure Run (P : Program) (call : FuncId → List V → H → Option (V × H)) (ops : Array Oper) (s : S) (d' : D) (dd : Nat → D) (val : Nat → V) : Prop where
  ok : regOK P ops = true
  zero : dd 0 = ⟨s.env, s.h.bump ops.size, s.h.bump ops.size, [], []⟩
  last : dd ops.size = d'
  fact : ∀ (i : Nat) (o : Oper) (mk : Nat), ops[i]? = some o → (masksOf ops.toList [])[i]? = some mk → Fact P call (dstOf ops) s.n s.h.next i o mk (dd i) (dd (i + 1)) (val i)
theorem drawA_run {P : Program} {call : FuncId → List V → H → Option (V × H)} {ops : Array Oper} {s s' : S} (e : drawA P call ops s = some s') :
    ∃ d' dd val, Run P call ops s d' dd val ∧ s' = ⟨d'.env, s.n, d'.h⟩ := by
  replace e := grd_some.1 e; obtain ⟨hok, e⟩ := e
  replace e := bnd_some.1 e; obtain ⟨d', h1, e⟩ := e
  injection e with e
  obtain ⟨dd, val, h2, h3, h4⟩ := opsD_facts _ _ _ _ _ h1
  refine ⟨d', dd, val, ⟨hok, h2, by simpa using h3, fun i o mk h5 h6 => ?_⟩, e.symm⟩
  have := h4 i o mk (by simpa using h5) h6
  rwa [Nat.zero_add] at this

theorem mask_of {ops : Array Oper} {i : Nat} {o : Oper} (h : ops[i]? = some o) : ∃ mk, (masksOf ops.toList [])[i]? = some mk := by
  have hlt : i < (masksOf ops.toList []).length := by
    rw [masksOf_len]
    have := (Array.getElem?_eq_some_iff.1 h).1
    simpa using this
  exact ⟨_, List.getElem?_eq_getElem hlt⟩

section
variable {P : Program} {call : FuncId → List V → H → Option (V × H)} {ops : Array Oper} {s : S} {d' : D} {dd : Nat → D} {val : Nat → V}

/-- A wanted operation that changes memory. -/
def Hv (P : Program) (ops : Array Oper) (dd : Nat → D) (i : Nat) : Prop := ∃ o, ops[i]? = some o ∧ isHeavy (kindOf P o) = true ∧ wantA (dstOf ops) (dd i).env o = some true
def Al (P : Program) (ops : Array Oper) (s : S) (dd : Nat → D) (val : Nat → V) (i : Nat) (r : Row) : Prop :=
  ∃ o, ops[i]? = some o ∧ kindOf P o = .alloc ∧ wantA (dstOf ops) (dd i).env o = some true ∧ allocA P (evT P (dd i).env) o (s.h.next + i) = some (val i, r)
theorem Al.same {i : Nat} {r r' : Row} (a : Al P ops s dd val i r) (b : Al P ops s dd val i r') : r = r' := by
  obtain ⟨o, h1, _, _, h2⟩ := a
  obtain ⟨o', h3, _, _, h4⟩ := b
  rw [h1] at h3; injection h3 with h3; subst h3
  rw [h2] at h4; injection h4 with h4; injection h4
theorem Al.lt {i : Nat} {r : Row} (a : Al P ops s dd val i r) : i < ops.size := by
  obtain ⟨o, h1, _⟩ := a
  exact (Array.getElem?_eq_some_iff.1 h1).1
theorem Hv.lt {i : Nat} (a : Hv P ops dd i) : i < ops.size := by
  obtain ⟨o, h1, _⟩ := a
  exact (Array.getElem?_eq_some_iff.1 h1).1

/-- What the step at i did to memory. -/
theorem Run.next (F : Run P call ops s d' dd val) {i : Nat} {o : Oper} (ho : ops[i]? = some o) :
    (dd (i + 1)).env = putT (dd i).env s.n o.dst (val i) ∧ (Hv P ops dd i → (dd (i + 1)).h = (dd (i + 1)).hb ∧ (i, (dd i).hb) ∈ (dd (i + 1)).bs) ∧
    (¬ Hv P ops dd i → (dd (i + 1)).hb = (dd i).hb ∧ ((∃ r, Al P ops s dd val i r ∧ (dd (i + 1)).h = (dd i).h.set (s.h.next + i) (some (.row r))) ∨ (∀ r, ¬ Al P ops s dd val i r) ∧ (dd (i + 1)).h = (dd i).h)) ∧
    (∀ x ∈ (dd i).bs, x ∈ (dd (i + 1)).bs) ∧ (∀ x ∈ (dd i).ws, x ∈ (dd (i + 1)).ws) := by
  obtain ⟨mk, hmk⟩ := mask_of ho
  have nohv : isHeavy (kindOf P o) = false → ¬ Hv P ops dd i := fun h ⟨o', h1, h2, _⟩ => by
    rw [ho] at h1; injection h1 with h1; subst h1; rw [h] at h2; cases h2
  have nohw : wantA (dstOf ops) (dd i).env o = some false → ¬ Hv P ops dd i := fun h ⟨o', h1, _, h2⟩ => by
    rw [ho] at h1; injection h1 with h1; subst h1; rw [h] at h2; cases h2
  have noal : kindOf P o ≠ .alloc → ∀ r, ¬ Al P ops s dd val i r := fun h r ⟨o', h1, h2, _⟩ => by
    rw [ho] at h1; injection h1 with h1; subst h1; exact h h2
  have noaw : wantA (dstOf ops) (dd i).env o = some false → ∀ r, ¬ Al P ops s dd val i r := fun h r ⟨o', h1, _, h2, _⟩ => by
    rw [ho] at h1; injection h1 with h1; subst h1; rw [h] at h2; cases h2
  cases F.fact i o mk ho hmk with
  | skip hw hv hd =>
    rw [hd, hv]
    exact ⟨rfl, fun h => absurd h (nohw hw), fun _ => ⟨rfl, .inr ⟨noaw hw, rfl⟩⟩, fun _ h => h, fun _ h => h⟩
  | pure hw hk hv hd =>
    rw [hd]
    exact ⟨rfl, fun h => absurd h (nohv (by rw [hk]; rfl)), fun _ => ⟨rfl, .inr ⟨noal (by rw [hk]; intro h; cases h), rfl⟩⟩, fun _ h => h, fun _ h => h⟩
  | load hw hk hv hb hd =>
    rw [hd]
    exact ⟨rfl, fun h => absurd h (nohv (by rw [hk]; rfl)), fun _ => ⟨rfl, .inr ⟨noal (by rw [hk]; intro h; cases h), rfl⟩⟩, fun _ h => h, fun _ h => List.mem_cons_of_mem _ h⟩
  | alloc r hw hk hv hd =>
    rw [hd]
    exact ⟨rfl, fun h => absurd h (nohv (by rw [hk]; rfl)), fun _ => ⟨rfl, .inl ⟨r, ⟨o, ho, hk, hw, hv⟩, rfl⟩⟩, fun _ h => h, fun _ h => h⟩
  | heavy h' hw hk hv hg hd =>
    rw [hd]
    exact ⟨rfl, fun _ => ⟨rfl, by simp⟩, fun h => absurd ⟨o, ho, hk, hw⟩ h, fun _ h => List.mem_cons_of_mem _ h, fun _ h => h⟩

theorem Run.bs (F : Run P call ops s d' dd val) {l : Nat} (hl : Hv P ops dd l) : ∀ i, l < i → i ≤ ops.size → (l, (dd l).hb) ∈ (dd i).bs := by
  intro i hi hn
  obtain ⟨k, rfl⟩ : ∃ k, i = l + 1 + k := ⟨i - (l + 1), by omega⟩
  clear hi
  induction k with
  | zero =>
    have hl' := hl
    obtain ⟨o, ho, _⟩ := hl'
    exact ((F.next ho).2.1 hl).2
  | succ k ih =>
    have ho : ops[l + 1 + k]? = some ops[l + 1 + k] := by simp
    exact (F.next ho).2.2.2.1 _ (ih (by omega))
theorem Run.ws (F : Run P call ops s d' dd val) {l : Nat} {o : Oper} (ho : ops[l]? = some o) (hk : kindOf P o = .load) (hw : wantA (dstOf ops) (dd l).env o = some true) :
    ∀ i, l < i → i ≤ ops.size → (l, loadA P (evT P (dd l).env) o, val l) ∈ (dd i).ws := by
  intro i hi hn
  obtain ⟨k, rfl⟩ : ∃ k, i = l + 1 + k := ⟨i - (l + 1), by omega⟩
  clear hi
  induction k with
  | zero =>
    obtain ⟨mk, hmk⟩ := mask_of ho
    cases F.fact l o mk ho hmk with
    | skip hw' _ _ => rw [hw] at hw'; cases hw'
    | pure _ hk' _ _ => rw [hk] at hk'; cases hk'
    | load _ _ _ _ hd => rw [Nat.add_zero, hd]; simp
    | alloc _ _ hk' _ _ => rw [hk] at hk'; cases hk'
    | heavy _ _ hk' _ _ _ => rw [hk] at hk'; cases hk'
  | succ k ih =>
    have ho : ops[l + 1 + k]? = some ops[l + 1 + k] := by simp
    exact (F.next ho).2.2.2.2 _ (ih (by omega))
/-- Between two operations that change memory it stays. -/
theorem Run.hb_same (F : Run P call ops s d' dd val) (p : Nat) : ∀ k, p + k ≤ ops.size → (∀ l, p ≤ l → l < p + k → ¬ Hv P ops dd l) → (dd (p + k)).hb = (dd p).hb := by
  intro k
  induction k with
  | zero => intro _ _; rfl
  | succ k ih =>
    intro hn h
    have ho : ops[p + k]? = some ops[p + k] := by simp
    rw [show p + (k + 1) = p + k + 1 by omega, ((F.next ho).2.2.1 (h _ (by omega) (by omega))).1]
    exact ih (by omega) fun l h1 h2 => h l h1 (by omega)
theorem backOK_mem {ld : H → Option V} {v : V} {mk : Nat} : ∀ (l : List (Nat × H)), backOK ld v mk l = true → ∀ x ∈ l, Nat.testBit mk x.1 = true ∨ ld x.2 = some v
  | (a, b) :: r, h, x, hx => by
    simp only [backOK, Bool.and_eq_true, Bool.or_eq_true] at h
    rcases List.mem_cons.1 hx with rfl | hx
    · refine h.1.imp_right fun h => ?_
      cases hl : ld b with
      | none => rw [hl] at h; cases h
      | some u => rw [hl] at h; rw [show v = u from sameV_eq h]
    · exact backOK_mem r h.2 x hx
theorem againOK_mem {h : H} {mk : Nat} : ∀ (l : List (Nat × (H → Option V) × V)), againOK h mk l = true → ∀ x ∈ l, Nat.testBit mk x.1 = true ∨ x.2.1 h = some x.2.2
  | (a, b, c) :: r, e, x, hx => by
    simp only [againOK, Bool.and_eq_true, Bool.or_eq_true] at e
    rcases List.mem_cons.1 hx with rfl | hx
    · refine e.1.imp_right fun e => ?_
      dsimp only
      cases hl : b h with
      | none => rw [hl] at e; cases e
      | some u => rw [hl] at e; rw [show c = u from sameV_eq e]
    · exact againOK_mem r e.2 x hx

/-- A load, at any of the memories that it may meet. -/
theorem Run.loads (F : Run P call ops s d' dd val) {i : Nat} {o : Oper} {mk : Nat} (ho : ops[i]? = some o) (hmk : (masksOf ops.toList [])[i]? = some mk) (hk : kindOf P o = .load) (hw : wantA (dstOf ops) (dd i).env o = some true)
    (p : Nat) (hp : p ≤ ops.size) (hlast : p = 0 ∨ ∃ q, p = q + 1 ∧ Hv P ops dd q) (h1 : ∀ l, Hv P ops dd l → p ≤ l → l < i → Nat.testBit mk l = false) (h2 : ∀ l mk', i < l → l < p → Hv P ops dd l → (masksOf ops.toList [])[l]? = some mk' → Nat.testBit mk' i = false) :
    loadA P (evT P (dd i).env) o (dd p).hb = some (val i) := by
  have hi : i < ops.size := (Array.getElem?_eq_some_iff.1 ho).1
  rcases Nat.lt_or_ge i p with hip | hip
  · rcases hlast with rfl | ⟨q, rfl, hq⟩
    · omega
    · obtain ⟨oq, hoq, hkq, hwq⟩ := hq
      obtain ⟨mq, hmq⟩ := mask_of hoq
      have hiq : i < q := by
        rcases Nat.lt_or_ge i q with h | h
        · exact h
        · have : i = q := by omega
          subst this
          rw [ho] at hoq; injection hoq with hoq; subst hoq
          rw [hk] at hkq; cases hkq
      cases F.fact q oq mq hoq hmq with
      | skip hw' _ _ => rw [hwq] at hw'; cases hw'
      | pure _ hk' _ _ => rw [hk'] at hkq; cases hkq
      | load _ hk' _ _ _ => rw [hk'] at hkq; cases hkq
      | alloc _ _ hk' _ _ => rw [hk'] at hkq; cases hkq
      | heavy h' _ _ _ hg hd =>
        have := againOK_mem _ hg _ (F.ws ho hk hw q hiq (by omega))
        rw [h2 q mq hiq (by omega) ⟨oq, hoq, hkq, hwq⟩ hmq] at this
        rw [hd]
        exact this.resolve_left (by simp)
  · have own : loadA P (evT P (dd i).env) o (dd i).hb = some (val i) ∧ backOK (loadA P (evT P (dd i).env) o) (val i) mk (dd i).bs = true := by
      cases F.fact i o mk ho hmk with
      | skip hw' _ _ => rw [hw] at hw'; cases hw'
      | pure _ hk' _ _ => rw [hk] at hk'; cases hk'
      | load _ _ hv hb _ => exact ⟨hv, hb⟩
      | alloc _ _ hk' _ _ => rw [hk] at hk'; cases hk'
      | heavy _ _ hk' _ _ _ => rw [hk] at hk'; cases hk'
    by_cases hex : ∃ l, p ≤ l ∧ l < i ∧ Hv P ops dd l
    · -- the first one
      have first : ∃ l, p ≤ l ∧ l < i ∧ Hv P ops dd l ∧ ∀ k, p ≤ k → k < l → ¬ Hv P ops dd k := by
        obtain ⟨l, hl⟩ := hex
        induction l using Nat.strongRecOn with
        | _ l ih =>
          by_cases hk : ∃ k, p ≤ k ∧ k < l ∧ Hv P ops dd k
          · obtain ⟨k, h3, h4, h5⟩ := hk
            exact ih k h4 ⟨h3, by omega, h5⟩
          · exact ⟨l, hl.1, hl.2.1, hl.2.2, fun k h3 h4 h5 => hk ⟨k, h3, h4, h5⟩⟩
      obtain ⟨l, h3, h4, h5, h6⟩ := first
      have e : (dd l).hb = (dd p).hb := by
        have := F.hb_same p (l - p) (by omega) fun k h7 h8 => h6 k h7 (by omega)
        rwa [show p + (l - p) = l by omega] at this
      have := backOK_mem _ own.2 _ (F.bs h5 i h4 (by omega))
      rw [h1 l h5 h3 h4] at this
      rw [← e]
      exact this.resolve_left (by simp)
    · have e : (dd i).hb = (dd p).hb := by
        have := F.hb_same p (i - p) (by omega) fun k h7 h8 h9 => hex ⟨k, h7, by omega, h9⟩
        rwa [show p + (i - p) = i by omega] at this
      rw [← e]
      exact own.1
end

/-! ### The environment behind a set of operations -/
noncomputable def E (s : S) (dst : Nat → Option Tmp) (val : Nat → V) (L : Nat → Bool) : Nat → T V
  | 0 => s.env
  | i + 1 => cond (L i) (putT (E s dst val L i) s.n (dst i) (val i)) (E s dst val L i)

theorem dstOf_at {ops : Array Oper} {k : Nat} {o : Oper} (h : ops[k]? = some o) : dstOf ops k = o.dst := by simp [dstOf, h]
theorem putT_same {n : Nat} {dst : Option Tmp} {v : V} {e e' : T V} {t : Nat} (h : e.get t = e'.get t) : (putT e n dst v).get t = (putT e' n dst v).get t := by
  cases dst with
  | none => exact h
  | some d =>
    show (cond (Nat.blt d n) (e.put d (some v)) e).get t = (cond (Nat.blt d n) (e'.put d (some v)) e').get t
    cases Nat.blt d n with
    | false => exact h
    | true =>
      show (e.put d (some v)).get t = (e'.put d (some v)).get t
      by_cases ht : t = d
      · subst ht; rw [T.put_get, T.put_get]
      · rw [T.put_get_other _ _ _ _ (Ne.symm ht), T.put_get_other _ _ _ _ (Ne.symm ht)]; exact h
theorem putT_other {n : Nat} {dst : Option Tmp} {v : V} {e : T V} {t : Nat} (h : dst ≠ some t) : (putT e n dst v).get t = e.get t := by
  cases dst with
  | none => rfl
  | some d =>
    show (cond (Nat.blt d n) (e.put d (some v)) e).get t = e.get t
    cases Nat.blt d n with
    | false => rfl
    | true => exact T.put_get_other _ _ _ _ (fun hd => h (by rw [hd]))

section
variable {P : Program} {call : FuncId → List V → H → Option (V × H)} {ops : Array Oper} {s : S} {d' : D} {dd : Nat → D} {val : Nat → V}
theorem Run.env (F : Run P call ops s d' dd val) : ∀ i, i ≤ ops.size → (dd i).env = E s (dstOf ops) val (fun _ => true) i := by
  intro i
  induction i with
  | zero => intro _; rw [F.zero]; rfl
  | succ i ih =>
    intro hi
    have ho : ops[i]? = some ops[i] := by simp
    rw [(F.next ho).1, ih (by omega)]
    show putT _ _ _ _ = putT _ _ _ _
    have : dstOf ops i = ops[i].dst := dstOf_at ho
    rw [this]
theorem E_congr (L L' : Nat → Bool) (n : Nat) (h : ∀ i, i < n → L i = L' i) : E s (dstOf ops) val L n = E s (dstOf ops) val L' n := by
  induction n with
  | zero => rfl
  | succ n ih =>
    simp only [E]
    rw [ih fun i hi => h i (by omega), h n (by omega)]

/-- What an operation looks at is there, whatever else has gone before. -/
theorem Run.looks (F : Run P call ops s d' dd val) {L : Nat → Bool} {j : Nat} {oj : Oper} {mj : Nat} (hj : ops[j]? = some oj) (hmj : (masksOf ops.toList [])[j]? = some mj) (hout : L j = false)
    (hmask : ∀ l, Nat.testBit mj l = true → L l = true) (hup : ∀ i mi, (masksOf ops.toList [])[i]? = some mi → L i = true → Nat.testBit mi j = true → L j = true) {t : Nat} (ht : t ∈ oj.looksAt ops) :
    (E s (dstOf ops) val L ops.size).get t = (dd j).env.get t := by
  have hn : j < ops.size := (Array.getElem?_eq_some_iff.1 hj).1
  rw [F.env j (by omega)]
  have below : ∀ k, k ≤ j → (E s (dstOf ops) val L k).get t = (E s (dstOf ops) val (fun _ => true) k).get t := by
    intro k
    induction k with
    | zero => intro _; rfl
    | succ k ih =>
      intro hk
      have ih := ih (by omega)
      simp only [E]
      cases hL : L k with
      | true => exact putT_same ih
      | false =>
        show (E s (dstOf ops) val L k).get t = (putT _ _ _ _).get t
        rw [putT_other, ih]
        have hk' : k < ops.size := by omega
        have ho : ops[k]? = some ops[k] := by simp
        intro hd
        have hd : ops[k].dst = some t := by rw [← dstOf_at ho]; exact hd
        rcases regOK_pair F.ok (show k < j by omega) ho hj hmj with h | ⟨_, h⟩
        · rw [hmask k h] at hL; cases hL
        · exact (Oper.apart_spec h).1 t hd ht
  have above : ∀ k, j ≤ k → k ≤ ops.size → (E s (dstOf ops) val L k).get t = (E s (dstOf ops) val L j).get t := by
    intro k hk
    obtain ⟨q, rfl⟩ : ∃ q, k = j + q := ⟨k - j, by omega⟩
    clear hk
    induction q with
    | zero => intro _; rfl
    | succ q ih =>
      intro hk
      rw [← ih (by omega)]
      rw [show j + (q + 1) = (j + q) + 1 by omega]
      simp only [E]
      cases hL : L (j + q) with
      | false => rfl
      | true =>
        show (putT _ _ _ _).get t = _
        rw [putT_other]
        intro hd
        have hk' : j + q < ops.size := by omega
        have ho : ops[j + q]? = some ops[j + q] := by simp
        have hd : ops[j + q].dst = some t := by rw [← dstOf_at ho]; exact hd
        cases q with
        | zero => rw [Nat.add_zero, hout] at hL; cases hL
        | succ q =>
          obtain ⟨mi, hmi⟩ := mask_of ho
          rcases regOK_pair F.ok (show j < j + (q + 1) by omega) hj ho hmi with h | ⟨_, h⟩
          · rw [hup _ mi hmi hL h] at hout; cases hout
          · exact (Oper.apart_spec h).2.2 t hd ht
  rw [above ops.size (by omega) (Nat.le_refl _), below j (Nat.le_refl _)]

/-- The environment behind one operation more. -/
theorem Run.put (F : Run P call ops s d' dd val) {L L' : Nat → Bool} {j : Nat} {oj : Oper} (hj : ops[j]? = some oj) (hout : L j = false) (hin : L' j = true) (hsame : ∀ i, i ≠ j → L' i = L i)
    (hup : ∀ i mi, (masksOf ops.toList [])[i]? = some mi → L i = true → Nat.testBit mi j = true → L j = true) (t : Nat) :
    (E s (dstOf ops) val L' ops.size).get t = (putT (E s (dstOf ops) val L ops.size) s.n oj.dst (val j)).get t := by
  have hn : j < ops.size := (Array.getElem?_eq_some_iff.1 hj).1
  have hdst : dstOf ops j = oj.dst := by simp [dstOf, hj]
  by_cases htj : oj.dst = some t
  · have key : ∀ k, j < k → k ≤ ops.size → (E s (dstOf ops) val L' k).get t = (putT (E s (dstOf ops) val L k) s.n oj.dst (val j)).get t := by
      intro k hk
      obtain ⟨q, rfl⟩ : ∃ q, k = j + 1 + q := ⟨k - (j + 1), by omega⟩
      clear hk
      induction q with
      | zero =>
        intro _
        show (E s (dstOf ops) val L' (j + 1)).get t = (putT (E s (dstOf ops) val L (j + 1)) s.n oj.dst (val j)).get t
        simp only [E, hin, hout, hdst, cond_true, cond_false]
        rw [E_congr L' L j fun i hi => hsame i (by omega)]
      | succ q ih =>
        intro hk
        have ih := ih (by omega)
        rw [show j + 1 + (q + 1) = (j + 1 + q) + 1 by omega]
        simp only [E]
        rw [hsame (j + 1 + q) (by omega)]
        cases hL : L (j + 1 + q) with
        | false => exact ih
        | true =>
          have hk' : j + 1 + q < ops.size := by omega
          have ho : ops[j + 1 + q]? = some ops[j + 1 + q] := by simp
          have hne : dstOf ops (j + 1 + q) ≠ some t := by
            intro hd
            have hd : ops[j + 1 + q].dst = some t := by rw [← dstOf_at ho]; exact hd
            obtain ⟨mi, hmi⟩ := mask_of ho
            rcases regOK_pair F.ok (show j < j + 1 + q by omega) hj ho hmi with h | ⟨_, h⟩
            · rw [hup _ mi hmi hL h] at hout; cases hout
            · exact (Oper.apart_spec h).2.1 t htj hd
          show (putT _ _ _ _).get t = (putT (putT _ _ _ _) _ _ _).get t
          rw [putT_other hne, ih]
          exact putT_same (putT_other hne).symm
    exact key ops.size hn (Nat.le_refl _)
  · rw [putT_other htj]
    have key : ∀ k, k ≤ ops.size → (E s (dstOf ops) val L' k).get t = (E s (dstOf ops) val L k).get t := by
      intro k
      induction k with
      | zero => intro _; rfl
      | succ k ih =>
        intro hk
        have ih := ih (by omega)
        simp only [E]
        by_cases hkj : k = j
        · subst hkj
          rw [hin, hout]
          show (putT _ _ _ _).get t = _
          rw [hdst, putT_other htj]; exact ih
        · rw [hsame k hkj]
          cases L k with
          | false => exact ih
          | true => exact putT_same ih
    exact key ops.size (Nat.le_refl _)
end
end Go.Proofs.Ytagbpjegdfhmpaa.AM
