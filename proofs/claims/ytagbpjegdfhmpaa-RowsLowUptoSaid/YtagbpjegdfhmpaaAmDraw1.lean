/- Regions whose order is open: what does not hang on the order. -/
import Derived.Test.YtagbpjegdfhmpaaAmCode
set_option linter.unusedSimpArgs false
set_option linter.unusedVariables false
namespace Go.Proofs.Ytagbpjegdfhmpaa.AM
open Go.RowKit (Below)

/-! ### The same operands, the same value -/
section
variable {P : Program} {ev ev' : Operand → Option V}

theorem partsOf_congr : ∀ (ps : List (Nat × Operand)), (∀ x ∈ ps.map (·.2), ev x = ev' x) → partsOf ev ps = partsOf ev' ps
  | [], _ => rfl
  | (i, x) :: ps, h => by
    have h1 : ev x = ev' x := h x (by simp)
    have h2 := partsOf_congr ps fun y hy => h y (by simp only [List.map_cons, List.mem_cons]; exact .inr hy)
    simp only [partsOf, h1, h2]
theorem evAll_congr : ∀ (xs : List Operand), (∀ x ∈ xs, ev x = ev' x) → evAll ev xs = evAll ev' xs
  | [], _ => rfl
  | x :: xs, h => by
    have h1 : ev x = ev' x := h x (by simp)
    have h2 := evAll_congr xs fun y hy => h y (by simp [hy])
    simp only [evAll, h1, h2]
theorem plainArgs_congr : ∀ (xs : List Operand), (∀ x ∈ xs, ev x = ev' x) → plainArgs ev xs = plainArgs ev' xs
  | [], _ => rfl
  | x :: xs, h => by
    have h1 : ev x = ev' x := h x (by simp)
    have h2 := plainArgs_congr xs fun y hy => h y (by simp [hy])
    simp only [plainArgs, h1, h2]
theorem plainA_congr {o : Oper} (hs : ∀ cs b, o.op ≠ .select cs b) (h : ∀ x ∈ o.op.operands, ev x = ev' x) : plainA P ev o = plainA P ev' o := by
  unfold plainA
  rw [plainArgs_congr (ev := ev) (ev' := ev') _ (fun x hx => h x (by simpa using hx))]
  have : execOp (plainEv ev) o = execOp (plainEv ev') o := execOp_congr o hs fun x hx => by simp only [plainEv, h x hx]
  rw [this]
theorem arg2_congr {c : Call} (h : ∀ x ∈ c.args, ev x = ev' x) : arg2 ev c = arg2 ev' c := by
  unfold arg2
  cases h0 : c.args[0]? with
  | none => rfl
  | some x =>
    cases h1 : c.args[1]? with
    | none => rfl
    | some y =>
      have e0 := h x (Array.mem_of_getElem? h0)
      have e1 := h y (Array.mem_of_getElem? h1)
      simp only [Option.bind_some, e0, e1]
theorem mem_args {c : Call} {x : Operand} (h : x ∈ c.args) : x ∈ c.operands := by simp [Call.operands, h]
theorem pureA_congr {o : Oper} (hs : ∀ cs b, o.op ≠ .select cs b) (h : ∀ x ∈ o.op.operands, ev x = ev' x) : pureA P ev o = pureA P ev' o := by
  have hp := plainA_congr (P := P) hs h
  obtain ⟨dst, op, type, pos, after, guard⟩ := o
  cases op <;> simp only [pureA] <;> simp only [Op.operands] at h <;> first | exact hp | skip
  case move x => exact h x (by simp)
  case assign x => exact h x (by simp)
  case pick c a b => rw [h c (by simp), h a (by simp), h b (by simp)]
  case build t ps => rw [partsOf_congr (ev := ev) (ev' := ev') _ (fun x hx => h x (by simpa using hx))]
  case nilCheck x => rw [h x (by simp)]
  case binOp op t x y u => rw [h x (by simp), h y (by simp), hp]
  case convert s d x => rw [h x (by simp), hp]
  case makeInterface t x => rw [h x (by simp)]
  case makeFunc fn first captured =>
    rw [evAll_congr (ev := ev) (ev' := ev') first.toList (fun x hx => h x (by simp; exact .inl (by simpa using hx))), evAll_congr (ev := ev) (ev' := ev') captured.toList (fun x hx => h x (by simp; exact .inr (by simpa using hx)))]
  case fieldAddr s x f => rw [h x (by simp)]
  case field s x f => rw [h x (by simp)]
  case indexAddr t x i => rw [h x (by simp), h i (by simp)]
  case index t x i => rw [h x (by simp), h i (by simp)]
  case extract t ix => rw [h t (by simp)]
  case call c =>
    have arg : ∀ {β : Type} (f : Operand → Option V → Option β), ((c.args[0]?).bind fun x => f x (ev x)) = ((c.args[0]?).bind fun x => f x (ev' x)) := fun f => by
      cases h0 : c.args[0]? with
      | none => rfl
      | some x => simp only [Option.bind_some, h x (mem_args (Array.mem_of_getElem? h0))]
    split
    · exact arg fun x q => q.bind fun a => (c.argTypes[0]?).bind fun t => (P.underlying t).bind fun d => grd (lenOk d a) (lenPureA a)
    · exact arg fun x q => q.bind fun a => (c.argTypes[0]?).bind fun t => (P.underlying t).bind fun | .slice _ => capPureA a | _ => none
    · exact hp
    · exact hp
    · exact arg fun x q => q.bind fun v => v.sl?.bind fun p => grd (!Nat.beq (p.2.2.2.getD p.2.2.1) 0 && Nat.beq c.args.size 1) (some (V.ptr p.1 p.2.1))
    · rfl
theorem optA_congr {x : Option Operand} (h : ∀ y ∈ x, ev y = ev' y) : optA ev x = optA ev' x := by
  cases x with
  | none => rfl
  | some y => simp only [optA, h y rfl]
theorem loadA_congr {o : Oper} (h : ∀ x ∈ o.op.operands, ev x = ev' x) : loadA P ev o = loadA P ev' o := by
  funext hp
  obtain ⟨dst, op, type, pos, after, guard⟩ := o
  cases op <;> simp only [loadA] <;> simp only [Op.operands] at h
  case load t a => rw [h a (by simp)]
  case slice t x lo hi mx =>
    rw [h x (by simp), optA_congr (ev := ev) (ev' := ev') (x := lo) (fun y hy => h y (by cases hy; simp)), optA_congr (ev := ev) (ev' := ev') (x := hi) (fun y hy => h y (by cases hy; simp)), optA_congr (ev := ev) (ev' := ev') (x := mx) (fun y hy => h y (by cases hy; simp))]
  case convert s d x => rw [h x (by simp)]
theorem allocA_congr {o : Oper} (h : ∀ x ∈ o.op.operands, ev x = ev' x) : allocA P ev o = allocA P ev' o := by
  funext nid
  obtain ⟨dst, op, type, pos, after, guard⟩ := o
  cases op <;> simp only [allocA] <;> simp only [Op.operands] at h
  case box t x => rw [h x (by simp)]
  case buildSlice t n ps => rw [partsOf_congr (ev := ev) (ev' := ev') _ (fun x hx => h x (by simpa using hx))]
  case makeSlice t l c => rw [h l (by simp), h c (by simp)]
  case convert s d x => rw [h x (by simp)]
theorem heavyA_congr {call : FuncId → List V → H → Option (V × H)} {o : Oper} (h : ∀ x ∈ o.op.operands, ev x = ev' x) : heavyA P call ev = heavyA P call ev ∧ ∀ k nid hp, heavyA P call ev k o nid hp = heavyA P call ev' k o nid hp := by
  refine ⟨rfl, fun k nid hp => ?_⟩
  cases k <;> simp only [heavyA]
  case loud =>
    obtain ⟨dst, op, type, pos, after, guard⟩ := o
    cases op <;> simp only [loudA] <;> simp only [Op.operands] at h
    case store t a x => rw [h a (by simp), h x (by simp)]
    case convert s d x => rw [h x (by simp)]
    case call c =>
      split
      · rename_i b hb
        have e2 := arg2_congr (ev := ev) (ev' := ev') (c := c) fun x hx => h x (mem_args hx)
        cases b <;> simp only [loudB, e2]
        cases h0 : c.args[0]? with
        | none => rfl
        | some x => simp only [Option.bind_some, h x (mem_args (Array.mem_of_getElem? h0))]
      · rfl
  case call =>
    obtain ⟨dst, op, type, pos, after, guard⟩ := o
    cases op <;> simp only [calleeA] <;> simp only [Op.operands] at h
    case call c =>
      split
      · rename_i f hf
        rw [h f (by simp [Call.operands, hf]), evAll_congr (ev := ev) (ev' := ev') _ (fun x hx => h x (mem_args (by simpa using hx)))]
      · rfl
end

/-! ### The same value -/
theorem same1_eq : ∀ {a b : V}, same1 a b = true → a = b := by
  intro a b h
  unfold same1 at h
  split at h <;> simp_all
  all_goals first | (obtain ⟨h1, h2⟩ := h; exact ⟨Nat.eq_of_beq_eq_true h1, Nat.eq_of_beq_eq_true h2⟩) | (obtain ⟨⟨⟨h1, h2⟩, h3⟩, h4⟩ := h; exact ⟨Nat.eq_of_beq_eq_true h1, Nat.eq_of_beq_eq_true h2, Nat.eq_of_beq_eq_true h3, h4⟩) | exact Nat.eq_of_beq_eq_true h
theorem sameL_eq : ∀ {a b : List V}, sameL a b = true → a = b
  | [], [], _ => rfl
  | x :: xs, y :: ys, h => by
    simp only [sameL, Bool.and_eq_true] at h
    rw [same1_eq h.1, sameL_eq h.2]
  | [], _ :: _, h => by simp [sameL] at h
  | _ :: _, [], h => by simp [sameL] at h
theorem sameV_eq {a b : V} (h : sameV a b = true) : a = b := by
  unfold sameV at h
  split at h
  · rw [sameL_eq h]
  · exact same1_eq h

/-! ### Which operations wait for which -/
theorem masksOf_len : ∀ (os : List Oper) (acc : List Nat), (masksOf os acc).length = acc.length + os.length
  | [], acc => by simp [masksOf]
  | o :: os, acc => by rw [masksOf, masksOf_len os]; simp; omega
theorem masksOf_old : ∀ (os : List Oper) (acc : List Nat) (i : Nat), i < acc.length → (masksOf os acc)[i]? = acc[i]?
  | [], acc, i, h => rfl
  | o :: os, acc, i, h => by
    rw [masksOf, masksOf_old os _ i (by simp; omega), List.getElem?_append_left h]
theorem masksOf_at (o : Oper) (os : List Oper) (acc : List Nat) : (masksOf (o :: os) acc)[acc.length]? = some (ancOf ((masksOf (o :: os) acc).take acc.length) o.after.toList) := by
  have e : masksOf (o :: os) acc = masksOf os (acc ++ [ancOf acc o.after.toList]) := rfl
  rw [e]
  have : (masksOf os (acc ++ [ancOf acc o.after.toList])).take acc.length = acc := by
    apply List.ext_getElem?
    intro k
    rw [List.getElem?_take]
    by_cases hk : k < acc.length
    · rw [if_pos hk, masksOf_old os _ _ (by simp; omega), List.getElem?_append_left hk]
    · rw [if_neg hk, List.getElem?_eq_none (by omega)]
  rw [this, masksOf_old os _ _ (by simp)]
  simp
theorem masksOf_get (os : List Oper) : ∀ (acc : List Nat) (i : Nat) (o : Oper), os[i]? = some o → (masksOf os acc)[acc.length + i]? = some (ancOf ((masksOf os acc).take (acc.length + i)) o.after.toList) := by
  induction os with
  | nil => intro acc i o h; simp at h
  | cons o os ih =>
    intro acc i o' h
    cases i with
    | zero =>
      simp only [List.getElem?_cons_zero, Option.some.injEq] at h
      subst h
      exact masksOf_at o os acc
    | succ i =>
      have h1 := ih (acc ++ [ancOf acc o.after.toList]) i o' h
      have e : masksOf (o :: os) acc = masksOf os (acc ++ [ancOf acc o.after.toList]) := rfl
      have l : (acc ++ [ancOf acc o.after.toList]).length + i = acc.length + (i + 1) := by simp; omega
      rw [l] at h1
      rw [e]
      exact h1
theorem ancOf_bit : ∀ (ms : List Nat) (es : List Edge) (j : Nat), Nat.testBit (ancOf ms es) j = true → ∃ e ∈ es, Region.binds .any e = true ∧ (e.on = j ∨ ∃ mk, ms[e.on]? = some mk ∧ Nat.testBit mk j = true)
  | ms, [], j, h => by simp [ancOf] at h
  | ms, e :: es, j, h => by
    simp only [ancOf] at h
    cases hb : Region.binds .any e with
    | false =>
      rw [hb] at h
      obtain ⟨e', h1, h2⟩ := ancOf_bit ms es j h
      exact ⟨e', by simp [h1], h2⟩
    | true =>
      rw [hb] at h
      simp only [cond_true, Nat.testBit_or, Bool.or_eq_true, lget_eq] at h
      rcases h with h | h | h
      · refine ⟨e, by simp, hb, .inl ?_⟩
        rw [Nat.testBit_two_pow] at h
        simpa using h
      · refine ⟨e, by simp, hb, .inr ?_⟩
        cases hm : ms[e.on]? with
        | none => rw [hm] at h; simp at h
        | some mk => rw [hm] at h; exact ⟨mk, rfl, h⟩
      · obtain ⟨e', h1, h2⟩ := ancOf_bit ms es j h
        exact ⟨e', by simp [h1], h2⟩

/-- What an operation waits for stands in each set that holds its edges and is closed. -/
theorem mask_listed {ops : Array Oper} {L : Nat → Prop} (closed : ∀ i o, ops[i]? = some o → L i → ∀ e ∈ o.after, Region.binds .any e = true → L e.on) :
    ∀ (i : Nat) (o : Oper) (mk : Nat), ops[i]? = some o → (masksOf ops.toList [])[i]? = some mk → (∀ e ∈ o.after, Region.binds .any e = true → L e.on) → ∀ j, Nat.testBit mk j = true → L j := by
  intro i
  induction i using Nat.strongRecOn with
  | _ i ih =>
    intro o mk ho hmk he j hj
    have h1 := masksOf_get ops.toList [] i o (by simpa using ho)
    simp only [List.length_nil, Nat.zero_add] at h1
    rw [hmk] at h1
    injection h1 with h1; subst h1
    obtain ⟨e, e1, e2, e3⟩ := ancOf_bit _ _ _ hj
    have e1 : e ∈ o.after := by simpa using e1
    have hL := he e e1 e2
    rcases e3 with rfl | ⟨mk', e4, e5⟩
    · exact hL
    · rw [List.getElem?_take] at e4
      have hlt : e.on < i := by
        by_cases h : e.on < i
        · exact h
        · rw [if_neg h] at e4; cases e4
      rw [if_pos hlt] at e4
      have hn : i < ops.size := (Array.getElem?_eq_some_iff.1 ho).1
      have ho' : ops[e.on]? = some ops[e.on] := by simp
      exact ih e.on hlt _ mk' ho' e4 (closed _ _ ho' hL) j e5

/-! ### What a region that may be drawn keeps -/
theorem laterOK_spec {P : Program} {ops : Array Oper} {i : Nat} {oi : Oper} {ki : Kd} : ∀ (os : List Oper) (ms : List Nat) (j : Nat), laterOK P ops i oi ki j os ms = true → ∀ (k : Nat) (o : Oper) (mk : Nat), os[k]? = some o → ms[k]? = some mk → Nat.testBit mk i = true ∨ (pairOK ki (kindOf P o) = true ∧ oi.apart ops o = true)
  | [], ms, j, h, k, o, mk, e, e' => by simp at e
  | o :: os, [], j, h, k, o', mk, e, e' => by simp at e'
  | o :: os, mk :: ms, j, h, k, o', mk', e, e' => by
    simp only [laterOK, Bool.and_eq_true, Bool.or_eq_true] at h
    cases k with
    | zero =>
      simp only [List.getElem?_cons_zero, Option.some.injEq] at e e'
      subst e; subst e'
      exact h.1
    | succ k => exact laterOK_spec os ms (j + 1) h.2 k o' mk' e e'
theorem allOK_spec {P : Program} {ops : Array Oper} : ∀ (os : List Oper) (ms : List Nat) (i : Nat), allOK P ops i os ms = true → ∀ (k : Nat) (o : Oper) (mk : Nat), os[k]? = some o → ms[k]? = some mk →
    (∀ e ∈ o.after, Region.binds .any e = true → e.on < i + k) ∧ ∀ (l : Nat) (o' : Oper) (mk' : Nat), k < l → os[l]? = some o' → ms[l]? = some mk' → Nat.testBit mk' (i + k) = true ∨ (pairOK (kindOf P o) (kindOf P o') = true ∧ o.apart ops o' = true)
  | [], ms, i, h, k, o, mk, e, e' => by simp at e
  | o :: os, [], i, h, k, o', mk, e, e' => by simp at e'
  | o :: os, mk :: ms, i, h, k, o', mk', e, e' => by
    simp only [allOK, Bool.and_eq_true] at h
    cases k with
    | zero =>
      simp only [List.getElem?_cons_zero, Option.some.injEq] at e e'
      subst e; subst e'
      refine ⟨fun ed he hb => ?_, fun l o2 mk2 hl e2 e2' => ?_⟩
      · have := Array.all_eq_true_iff_forall_mem.1 h.1.1 ed he
        simp only [hb, Bool.not_true, Bool.false_or] at this
        exact Nat.le_of_ble_eq_true this
      · obtain ⟨l, rfl⟩ : ∃ q, l = q + 1 := ⟨l - 1, by omega⟩
        exact laterOK_spec os ms (i + 1) h.1.2 l o2 mk2 e2 e2'
    | succ k =>
      obtain ⟨h1, h2⟩ := allOK_spec os ms (i + 1) h.2 k o' mk' e e'
      refine ⟨fun ed he hb => by have := h1 ed he hb; omega, fun l o2 mk2 hl e2 e2' => ?_⟩
      obtain ⟨l, rfl⟩ : ∃ q, l = q + 1 := ⟨l - 1, by omega⟩
      have := h2 l o2 mk2 (by omega) e2 e2'
      rwa [show i + (k + 1) = i + 1 + k by omega]
/-- Two operations of a region: the later one waits for the former, or either may come first. -/
theorem regOK_pair {P : Program} {ops : Array Oper} (h : regOK P ops = true) {i j : Nat} {oi oj : Oper} {mk : Nat} (hij : i < j) (hi : ops[i]? = some oi) (hj : ops[j]? = some oj) (hmk : (masksOf ops.toList [])[j]? = some mk) :
    Nat.testBit mk i = true ∨ (pairOK (kindOf P oi) (kindOf P oj) = true ∧ oi.apart ops oj = true) := by
  simp only [regOK, Bool.and_eq_true] at h
  have hlt : i < (masksOf ops.toList []).length := by
    rw [masksOf_len]
    have := (Array.getElem?_eq_some_iff.1 hi).1
    simpa using this
  have := (allOK_spec _ _ _ h.2 i oi _ (by simpa using hi) (List.getElem?_eq_getElem hlt)).2 j oj mk hij (by simpa using hj) hmk
  simpa using this
theorem regOK_back {P : Program} {ops : Array Oper} (h : regOK P ops = true) {i : Nat} {o : Oper} (hi : ops[i]? = some o) : ∀ e ∈ o.after, Region.binds .any e = true → e.on < i := by
  simp only [regOK, Bool.and_eq_true] at h
  have hlt : i < (masksOf ops.toList []).length := by
    rw [masksOf_len]
    have := (Array.getElem?_eq_some_iff.1 hi).1
    simpa using this
  have := (allOK_spec _ _ _ h.2 i o _ (by simpa using hi) (List.getElem?_eq_getElem hlt)).1
  simpa using this
end Go.Proofs.Ytagbpjegdfhmpaa.AM
