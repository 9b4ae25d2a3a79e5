/- A second, smaller machine for runs whose inputs are known: values, memory and the steps of the program's operations, to be reckoned by the kernel. -/
import Derived.WalkKit
import Derived.LoopN
import Derived.Still
import Derived.OrdersHeld
namespace Go.Proofs.Ytagbpjegdfhmpaa.AM

theorem beqf {a b : Nat} (h : a ≠ b) : Nat.beq a b = false := by
  cases e : Nat.beq a b
  · rfl
  · exact absurd (Nat.eq_of_beq_eq_true e) h

/-! ### Tables by number -/
inductive T (α : Type) where
  | lf : T α
  | n (v : Option α) (l r : T α) : T α

namespace T
variable {α : Type}
noncomputable def get (t : T α) : Nat → Option α :=
  T.rec (motive := fun _ => Nat → Option α) (fun _ => none)
    (fun v _ _ gl gr i => Bool.rec (Bool.rec (gr (i / 2 - 1)) (gl (i / 2)) (Nat.beq (i % 2) 1)) v (Nat.beq i 0)) t
noncomputable def sing (x : Option α) (f : Nat) : Nat → T α :=
  Nat.rec (motive := fun _ => Nat → T α) (fun _ => .lf)
   (fun _ g i => Bool.rec (Bool.rec (.n none .lf (g (i / 2 - 1))) (.n none (g (i / 2)) .lf) (Nat.beq (i % 2) 1)) (.n x .lf .lf) (Nat.beq i 0)) f
/-- The table with 'x' at 'i' (none: nothing is there). -/
noncomputable def put (t : T α) (i : Nat) (x : Option α) : T α :=
  T.rec (motive := fun _ => Nat → T α) (fun i => sing x (i + 1) i)
    (fun v l r gl gr i => Bool.rec (Bool.rec (.n v l (gr (i / 2 - 1))) (.n v (gl (i / 2)) r) (Nat.beq (i % 2) 1)) (.n x l r) (Nat.beq i 0)) t i

theorem get_e (i : Nat) : (T.lf : T α).get i = none := rfl
theorem get_n (v : Option α) (l r : T α) (i : Nat) : (T.n v l r).get i = if i = 0 then v else if i % 2 = 1 then l.get (i / 2) else r.get (i / 2 - 1) := by
  show (Bool.rec (Bool.rec (r.get (i / 2 - 1)) (l.get (i / 2)) (Nat.beq (i % 2) 1)) v (Nat.beq i 0) : Option α) = _
  by_cases h : i = 0
  · subst h; rfl
  · rw [show Nat.beq i 0 = false from beqf h, if_neg h]
    by_cases h1 : i % 2 = 1
    · rw [h1, if_pos rfl]; rfl
    · rw [show Nat.beq (i % 2) 1 = false from beqf h1, if_neg h1]
theorem put_n (v : Option α) (l r : T α) (i : Nat) (x : Option α) : (T.n v l r).put i x = if i = 0 then .n x l r else if i % 2 = 1 then .n v (l.put (i / 2) x) r else .n v l (r.put (i / 2 - 1) x) := by
  show (Bool.rec (Bool.rec (.n v l (r.put (i / 2 - 1) x)) (.n v (l.put (i / 2) x) r) (Nat.beq (i % 2) 1)) (.n x l r) (Nat.beq i 0) : T α) = _
  by_cases h : i = 0
  · subst h; rfl
  · rw [show Nat.beq i 0 = false from beqf h, if_neg h]
    by_cases h1 : i % 2 = 1
    · rw [h1, if_pos rfl]; rfl
    · rw [show Nat.beq (i % 2) 1 = false from beqf h1, if_neg h1]
theorem sing_succ (x : Option α) (f i : Nat) : sing x (f + 1) i = if i = 0 then .n x .lf .lf else if i % 2 = 1 then .n none (sing x f (i / 2)) .lf else .n none .lf (sing x f (i / 2 - 1)) := by
  show (Bool.rec (Bool.rec (.n none .lf (sing x f (i / 2 - 1))) (.n none (sing x f (i / 2)) .lf) (Nat.beq (i % 2) 1)) (.n x .lf .lf) (Nat.beq i 0) : T α) = _
  by_cases h : i = 0
  · subst h; rfl
  · rw [show Nat.beq i 0 = false from beqf h, if_neg h]
    by_cases h1 : i % 2 = 1
    · rw [h1, if_pos rfl]; rfl
    · rw [show Nat.beq (i % 2) 1 = false from beqf h1, if_neg h1]
theorem sing_get_other (x : Option α) : ∀ (f i j : Nat), i ≠ j → (sing x f i).get j = none := by
  intro f
  induction f with
  | zero => intro i j _; rfl
  | succ f ih =>
    intro i j h
    rw [sing_succ]
    by_cases h0 : i = 0
    · have hj : j ≠ 0 := by omega
      rw [if_pos h0, get_n, if_neg hj]; split <;> rfl
    · rw [if_neg h0]
      by_cases h1 : i % 2 = 1
      · rw [if_pos h1, get_n]
        by_cases hj : j = 0
        · rw [if_pos hj]
        · rw [if_neg hj]
          by_cases hj1 : j % 2 = 1
          · rw [if_pos hj1]; exact ih _ _ (by omega)
          · rw [if_neg hj1]; rfl
      · rw [if_neg h1, get_n]
        by_cases hj : j = 0
        · rw [if_pos hj]
        · rw [if_neg hj]
          by_cases hj1 : j % 2 = 1
          · rw [if_pos hj1]; rfl
          · rw [if_neg hj1]; exact ih _ _ (by omega)
theorem sing_get (x : Option α) : ∀ (f i : Nat), i < f → (sing x f i).get i = x := by
  intro f
  induction f with
  | zero => intro i h; omega
  | succ f ih =>
    intro i h
    rw [sing_succ]
    by_cases h0 : i = 0
    · subst h0; rfl
    · rw [if_neg h0]
      by_cases h1 : i % 2 = 1
      · rw [if_pos h1, get_n, if_neg h0, if_pos h1]; exact ih _ (by omega)
      · rw [if_neg h1, get_n, if_neg h0, if_neg h1]; exact ih _ (by omega)
theorem put_get_other (t : T α) (x : Option α) : ∀ (i j : Nat), i ≠ j → (t.put i x).get j = t.get j := by
  induction t with
  | lf => intro i j h; exact sing_get_other x (i + 1) i j h
  | n v l r ihl ihr =>
    intro i j h
    rw [put_n]
    by_cases h0 : i = 0
    · have hj : j ≠ 0 := by omega
      rw [if_pos h0, get_n, get_n, if_neg hj, if_neg hj]
    · rw [if_neg h0]
      by_cases h1 : i % 2 = 1
      · rw [if_pos h1, get_n, get_n]
        by_cases hj : j = 0
        · rw [if_pos hj, if_pos hj]
        · rw [if_neg hj, if_neg hj]
          by_cases hj1 : j % 2 = 1
          · rw [if_pos hj1, if_pos hj1]; exact ihl _ _ (by omega)
          · rw [if_neg hj1, if_neg hj1]
      · rw [if_neg h1, get_n, get_n]
        by_cases hj : j = 0
        · rw [if_pos hj, if_pos hj]
        · rw [if_neg hj, if_neg hj]
          by_cases hj1 : j % 2 = 1
          · rw [if_pos hj1, if_pos hj1]
          · rw [if_neg hj1, if_neg hj1]; exact ihr _ _ (by omega)
/-- What is read behind a 'put' is what was put. -/
theorem put_get (t : T α) (x : Option α) : ∀ (i : Nat), (t.put i x).get i = x := by
  induction t with
  | lf => intro i; exact sing_get x (i + 1) i (Nat.lt_succ_self i)
  | n v l r ihl ihr =>
    intro i
    rw [put_n]
    by_cases h0 : i = 0
    · subst h0; rfl
    · rw [if_neg h0]
      by_cases h1 : i % 2 = 1
      · rw [if_pos h1, get_n, if_neg h0, if_pos h1]; exact ihl _
      · rw [if_neg h1, get_n, if_neg h0, if_neg h1]; exact ihr _
theorem put_get_same (t : T α) (x : Option α) (i : Nat) (y : α) (h : (t.put i x).get i = some y) : x = some y := by rw [put_get] at h; exact h
end T
end Go.Proofs.Ytagbpjegdfhmpaa.AM
namespace Go.Proofs.Ytagbpjegdfhmpaa.AM

/-! ### Values and memory -/
inductive V where
  | undef
  | bool (b : Bool)
  | int (k : IntKind) (n : Int)
  | str (s : List UInt8)
  | ptr (id off : Nat)
  | nilptr
  /-- A slice over block 'id' from cell 'off' on; its capacity is 'cap' elements (none: up to the block's end, which isn't known). -/
  | sl (id off len : Nat) (cap : Option Nat)
  | nilsl
  | map (id : Nat)
  | nilmap
  | chan (id : Nat)
  | nilchan
  | func (fn : Fn) (first captured : List V)
  | nilfunc
  | iface (t : TypeId) (v : V)
  | nilif
  | agg (vs : List V)
  | tup (vs : List V)

/-- Where a block of the smaller machine lies: the block, by how many cells it is shifted, the cell behind the last one that a slice over it may reach, an element's cells. -/
structure Loc where
  b : Nat
  d : Nat
  e : Nat
  sz : Nat

abbrev Mu := Nat → Option Loc
def Mu.le (m m' : Mu) : Prop := ∀ id L, m id = some L → m' id = some L
theorem Mu.le.refl (m : Mu) : m.le m := fun _ _ h => h
theorem Mu.le.trans {a b c : Mu} (h : a.le b) (k : b.le c) : a.le c := fun i L e => k i L (h i L e)

mutual
inductive VRel (m : Mu) : V → Value → Prop where
  | undef : VRel m .undef (.tuple #[])
  | bool (b : Bool) : VRel m (.bool b) (.bool b)
  | int (k : IntKind) (n : Int) : VRel m (.int k n) (.int k n)
  | str (s : List UInt8) : VRel m (.str s) (.string ⟨s.toArray⟩)
  | ptr (id off : Nat) (L : Loc) : m id = some L → VRel m (.ptr id off) (.pointer (some ⟨L.b, L.d + off, none⟩))
  | nilptr : VRel m .nilptr (.pointer none)
  | slc (id off len c : Nat) (L : Loc) : m id = some L → VRel m (.sl id off len (some c)) (.slice (some ⟨L.b, L.d + off, none⟩) len c)
  | slo (id off len c : Nat) (L : Loc) : m id = some L → L.d + off + c * L.sz = L.e → len ≤ c → VRel m (.sl id off len none) (.slice (some ⟨L.b, L.d + off, none⟩) len c)
  | nilsl : VRel m .nilsl (.slice none 0 0)
  | map (id : Nat) (L : Loc) : m id = some L → VRel m (.map id) (.map (some L.b))
  | nilmap : VRel m .nilmap (.map none)
  | chan (id : Nat) (L : Loc) : m id = some L → VRel m (.chan id) (.chan (some L.b))
  | nilchan : VRel m .nilchan (.chan none)
  | func (fn : Fn) (f c : List V) (f' c' : List Value) : VsRel m f f' → VsRel m c c' → VRel m (.func fn f c) (.func fn f'.toArray c'.toArray)
  | nilfunc : VRel m .nilfunc .nilFunc
  | iface (t : TypeId) (v : V) (v' : Value) : VRel m v v' → VRel m (.iface t v) (.iface t v')
  | nilif : VRel m .nilif .nilIface
  | agg (vs : List V) (vs' : List Value) : VsRel m vs vs' → VRel m (.agg vs) (.agg vs'.toArray)
  | tup (vs : List V) (vs' : List Value) : VsRel m vs vs' → VRel m (.tup vs) (.tuple vs'.toArray)
inductive VsRel (m : Mu) : List V → List Value → Prop where
  | nil : VsRel m [] []
  | cons (v : V) (v' : Value) (vs : List V) (vs' : List Value) : VRel m v v' → VsRel m vs vs' → VsRel m (v :: vs) (v' :: vs')
end

mutual
theorem VRel.mono {m m' : Mu} (h : m.le m') : ∀ {v : V} {v' : Value}, VRel m v v' → VRel m' v v'
  | _, _, .undef => .undef
  | _, _, .bool b => .bool b
  | _, _, .int k n => .int k n
  | _, _, .str s => .str s
  | _, _, .ptr id off L e => .ptr id off L (h _ _ e)
  | _, _, .nilptr => .nilptr
  | _, _, .slc id off len c L e => .slc id off len c L (h _ _ e)
  | _, _, .slo id off len c L e e1 e2 => .slo id off len c L (h _ _ e) e1 e2
  | _, _, .nilsl => .nilsl
  | _, _, .map id L e => .map id L (h _ _ e)
  | _, _, .nilmap => .nilmap
  | _, _, .chan id L e => .chan id L (h _ _ e)
  | _, _, .nilchan => .nilchan
  | _, _, .func fn f c f' c' hf hc => .func fn f c f' c' (VsRel.mono h hf) (VsRel.mono h hc)
  | _, _, .nilfunc => .nilfunc
  | _, _, .iface t v v' e => .iface t v v' (VRel.mono h e)
  | _, _, .nilif => .nilif
  | _, _, .agg vs vs' e => .agg vs vs' (VsRel.mono h e)
  | _, _, .tup vs vs' e => .tup vs vs' (VsRel.mono h e)
theorem VsRel.mono {m m' : Mu} (h : m.le m') : ∀ {vs : List V} {vs' : List Value}, VsRel m vs vs' → VsRel m' vs vs'
  | _, _, .nil => .nil
  | _, _, .cons v v' vs vs' e es => .cons v v' vs vs' (VRel.mono h e) (VsRel.mono h es)
end

theorem VsRel.length {m : Mu} {vs : List V} {vs' : List Value} (h : VsRel m vs vs') : vs'.length = vs.length := by
  induction vs generalizing vs' with
  | nil => cases h; rfl
  | cons v vs ih => cases h with | cons _ v' _ vs' e es => simp [ih es]
theorem VsRel.get {m : Mu} {vs : List V} {vs' : List Value} (h : VsRel m vs vs') : ∀ {i : Nat} {v : V}, vs[i]? = some v → ∃ v', vs'[i]? = some v' ∧ VRel m v v' := by
  induction vs generalizing vs' with
  | nil => intro i v hi; simp at hi
  | cons x xs ih =>
    cases h with
    | cons _ x' _ xs' e es =>
      intro i v hi
      cases i with
      | zero => simp at hi; subst hi; exact ⟨x', rfl, e⟩
      | succ i => simpa using ih es (by simpa using hi)
theorem VsRel.append {m : Mu} {a b : List V} {a' b' : List Value} (h : VsRel m a a') (k : VsRel m b b') : VsRel m (a ++ b) (a' ++ b') := by
  induction a generalizing a' with
  | nil => cases h; exact k
  | cons x xs ih => cases h with | cons _ x' _ xs' e es => exact .cons _ _ _ _ e (ih es)
theorem VsRel.take {m : Mu} {a : List V} {a' : List Value} (h : VsRel m a a') : ∀ n, VsRel m (a.take n) (a'.take n) := by
  induction a generalizing a' with
  | nil => cases h; intro n; simp; exact .nil
  | cons x xs ih =>
    cases h with
    | cons _ x' _ xs' e es => intro n; cases n with | zero => exact .nil | succ n => exact .cons _ _ _ _ e (ih es n)
theorem VsRel.drop {m : Mu} {a : List V} {a' : List Value} (h : VsRel m a a') : ∀ n, VsRel m (a.drop n) (a'.drop n) := by
  induction a generalizing a' with
  | nil => cases h; intro n; simp; exact .nil
  | cons x xs ih =>
    cases h with
    | cons _ x' _ xs' e es => intro n; cases n with | zero => exact .cons _ _ _ _ e es | succ n => exact ih es n

/-- A closed value, as the text has it. -/
def ofCell : Value → Option V
  | .bool b => some (.bool b)
  | .int k n => some (.int k n)
  | .string s => some (.str s.data.toList)
  | .pointer none => some .nilptr
  | .slice none 0 0 => some .nilsl
  | .map none => some .nilmap
  | .chan none => some .nilchan
  | .nilFunc => some .nilfunc
  | .nilIface => some .nilif
  | _ => none
def ofCells : List Value → Option (List V)
  | [] => some []
  | v :: vs => match ofCell v, ofCells vs with
    | some x, some xs => some (x :: xs)
    | _, _ => none
def ofPlain : Value → Option V
  | .agg cs => (ofCells cs.toList).map .agg
  | v => ofCell v
def ofValue : Value → Option V
  | .iface t v => (ofPlain v).map (.iface t)
  | v => ofPlain v
theorem ofCell_rel {m : Mu} {v : Value} {x : V} (h : ofCell v = some x) : VRel m x v := by
  unfold ofCell at h
  split at h <;> first | (injection h with h; subst h; constructor) | cases h
theorem ofCells_rel {m : Mu} : ∀ {vs : List Value} {xs : List V}, ofCells vs = some xs → VsRel m xs vs
  | [], xs, h => by simp [ofCells] at h; subst h; exact .nil
  | v :: vs, xs, h => by
    unfold ofCells at h
    split at h
    · rename_i x xs' h1 h2; injection h with h; subst h; exact .cons _ _ _ _ (ofCell_rel h1) (ofCells_rel h2)
    · cases h
theorem ofPlain_rel {m : Mu} {v : Value} {x : V} (h : ofPlain v = some x) : VRel m x v := by
  unfold ofPlain at h
  split at h
  · rename_i cs
    cases hc : ofCells cs.toList with
    | none => simp [hc] at h
    | some xs => simp [hc] at h; subst h; simpa using VRel.agg xs cs.toList (ofCells_rel hc)
  · exact ofCell_rel h
theorem ofValue_rel {m : Mu} {v : Value} {x : V} (h : ofValue v = some x) : VRel m x v := by
  unfold ofValue at h
  split at h
  · rename_i t v
    cases hc : ofPlain v with
    | none => simp [hc] at h
    | some y => simp [hc] at h; subst h; exact .iface _ _ _ (ofPlain_rel hc)
  · exact ofPlain_rel h

def V.cells : V → List V
  | .agg vs => vs
  | v => [v]
/-- What one cell can hold. -/
def V.one : V → Bool
  | .agg _ | .tup _ | .undef => false
  | _ => true
theorem VRel.cells {m : Mu} {v : V} {v' : Value} (h : VRel m v v') : VsRel m v.cells v'.cells.toList := by
  cases h with
  | agg vs vs' e => simpa [V.cells, Value.cells] using e
  | _ => simp only [V.cells, Value.cells]; exact .cons _ _ _ _ (by constructor <;> assumption) .nil
end Go.Proofs.Ytagbpjegdfhmpaa.AM
