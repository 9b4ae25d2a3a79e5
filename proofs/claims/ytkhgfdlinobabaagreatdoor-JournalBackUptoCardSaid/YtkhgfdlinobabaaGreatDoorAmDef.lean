/- A second, smaller machine for runs whose inputs are known: values, memory and the steps of the program's operations, to be reckoned by the kernel. -/
import Derived.WalkKit
import Derived.LoopN
import Derived.Still
import Derived.OrdersHeld
import Derived.Laws.IdiomCopy
import Derived.Laws.Rows
import Derived.Below
set_option linter.unusedSimpArgs false
set_option linter.unusedVariables false
namespace Go.Proofs.YtkhgfdlinobabaaGreatDoor.AM

theorem beqf {a b : Nat} (h : a ≠ b) : Nat.beq a b = false := by
  cases e : Nat.beq a b
  · rfl
  · exact absurd (Nat.eq_of_beq_eq_true e) h

/-! ### Tables by number -/
inductive T (α : Type) where
  | lf : T α
  | n (v : Option α) (l r : T α) : T α

namespace T
variable {α : Type}
noncomputable def get (t : T α) : Nat → Option α :=
  T.rec (motive := fun _ => Nat → Option α) (fun _ => none)
    (fun v _ _ gl gr i => Bool.rec (Bool.rec (gr (i / 2 - 1)) (gl (i / 2)) (Nat.beq (i % 2) 1)) v (Nat.beq i 0)) t
noncomputable def sing (x : Option α) (f : Nat) : Nat → T α :=
  Nat.rec (motive := fun _ => Nat → T α) (fun _ => .lf)
   (fun _ g i => Bool.rec (Bool.rec (.n none .lf (g (i / 2 - 1))) (.n none (g (i / 2)) .lf) (Nat.beq (i % 2) 1)) (.n x .lf .lf) (Nat.beq i 0)) f
/-- The table with 'x' at 'i' (none: nothing is there). -/
noncomputable def put (t : T α) (i : Nat) (x : Option α) : T α :=
  T.rec (motive := fun _ => Nat → T α) (fun i => sing x (i + 1) i)
    (fun v l r gl gr i => Bool.rec (Bool.rec (.n v l (gr (i / 2 - 1))) (.n v (gl (i / 2)) r) (Nat.beq (i % 2) 1)) (.n x l r) (Nat.beq i 0)) t i

theorem get_e (i : Nat) : (T.lf : T α).get i = none := rfl
theorem get_n (v : Option α) (l r : T α) (i : Nat) : (T.n v l r).get i = if i = 0 then v else if i % 2 = 1 then l.get (i / 2) else r.get (i / 2 - 1) := by
  show (Bool.rec (Bool.rec (r.get (i / 2 - 1)) (l.get (i / 2)) (Nat.beq (i % 2) 1)) v (Nat.beq i 0) : Option α) = _
  by_cases h : i = 0
  · subst h; rfl
  · rw [show Nat.beq i 0 = false from beqf h, if_neg h]
    by_cases h1 : i % 2 = 1
    · rw [h1, if_pos rfl]; rfl
    · rw [show Nat.beq (i % 2) 1 = false from beqf h1, if_neg h1]
theorem put_n (v : Option α) (l r : T α) (i : Nat) (x : Option α) : (T.n v l r).put i x = if i = 0 then .n x l r else if i % 2 = 1 then .n v (l.put (i / 2) x) r else .n v l (r.put (i / 2 - 1) x) := by
  show (Bool.rec (Bool.rec (.n v l (r.put (i / 2 - 1) x)) (.n v (l.put (i / 2) x) r) (Nat.beq (i % 2) 1)) (.n x l r) (Nat.beq i 0) : T α) = _
  by_cases h : i = 0
  · subst h; rfl
  · rw [show Nat.beq i 0 = false from beqf h, if_neg h]
    by_cases h1 : i % 2 = 1
    · rw [h1, if_pos rfl]; rfl
    · rw [show Nat.beq (i % 2) 1 = false from beqf h1, if_neg h1]
theorem sing_succ (x : Option α) (f i : Nat) : sing x (f + 1) i = if i = 0 then .n x .lf .lf else if i % 2 = 1 then .n none (sing x f (i / 2)) .lf else .n none .lf (sing x f (i / 2 - 1)) := by
  show (Bool.rec (Bool.rec (.n none .lf (sing x f (i / 2 - 1))) (.n none (sing x f (i / 2)) .lf) (Nat.beq (i % 2) 1)) (.n x .lf .lf) (Nat.beq i 0) : T α) = _
  by_cases h : i = 0
  · subst h; rfl
  · rw [show Nat.beq i 0 = false from beqf h, if_neg h]
    by_cases h1 : i % 2 = 1
    · rw [h1, if_pos rfl]; rfl
    · rw [show Nat.beq (i % 2) 1 = false from beqf h1, if_neg h1]
theorem sing_get_other (x : Option α) : ∀ (f i j : Nat), i ≠ j → (sing x f i).get j = none := by
  intro f
  induction f with
  | zero => intro i j _; rfl
  | succ f ih =>
    intro i j h
    rw [sing_succ]
    by_cases h0 : i = 0
    · have hj : j ≠ 0 := by omega
      rw [if_pos h0, get_n, if_neg hj]; split <;> rfl
    · rw [if_neg h0]
      by_cases h1 : i % 2 = 1
      · rw [if_pos h1, get_n]
        by_cases hj : j = 0
        · rw [if_pos hj]
        · rw [if_neg hj]
          by_cases hj1 : j % 2 = 1
          · rw [if_pos hj1]; exact ih _ _ (by omega)
          · rw [if_neg hj1]; rfl
      · rw [if_neg h1, get_n]
        by_cases hj : j = 0
        · rw [if_pos hj]
        · rw [if_neg hj]
          by_cases hj1 : j % 2 = 1
          · rw [if_pos hj1]; rfl
          · rw [if_neg hj1]; exact ih _ _ (by omega)
theorem sing_get (x : Option α) : ∀ (f i : Nat), i < f → (sing x f i).get i = x := by
  intro f
  induction f with
  | zero => intro i h; omega
  | succ f ih =>
    intro i h
    rw [sing_succ]
    by_cases h0 : i = 0
    · subst h0; rfl
    · rw [if_neg h0]
      by_cases h1 : i % 2 = 1
      · rw [if_pos h1, get_n, if_neg h0, if_pos h1]; exact ih _ (by omega)
      · rw [if_neg h1, get_n, if_neg h0, if_neg h1]; exact ih _ (by omega)
theorem put_get_other (t : T α) (x : Option α) : ∀ (i j : Nat), i ≠ j → (t.put i x).get j = t.get j := by
  induction t with
  | lf => intro i j h; exact sing_get_other x (i + 1) i j h
  | n v l r ihl ihr =>
    intro i j h
    rw [put_n]
    by_cases h0 : i = 0
    · have hj : j ≠ 0 := by omega
      rw [if_pos h0, get_n, get_n, if_neg hj, if_neg hj]
    · rw [if_neg h0]
      by_cases h1 : i % 2 = 1
      · rw [if_pos h1, get_n, get_n]
        by_cases hj : j = 0
        · rw [if_pos hj, if_pos hj]
        · rw [if_neg hj, if_neg hj]
          by_cases hj1 : j % 2 = 1
          · rw [if_pos hj1, if_pos hj1]; exact ihl _ _ (by omega)
          · rw [if_neg hj1, if_neg hj1]
      · rw [if_neg h1, get_n, get_n]
        by_cases hj : j = 0
        · rw [if_pos hj, if_pos hj]
        · rw [if_neg hj, if_neg hj]
          by_cases hj1 : j % 2 = 1
          · rw [if_pos hj1, if_pos hj1]
          · rw [if_neg hj1, if_neg hj1]; exact ihr _ _ (by omega)
/-- What is read behind a 'put' is what was put. -/
theorem put_get (t : T α) (x : Option α) : ∀ (i : Nat), (t.put i x).get i = x := by
  induction t with
  | lf => intro i; exact sing_get x (i + 1) i (Nat.lt_succ_self i)
  | n v l r ihl ihr =>
    intro i
    rw [put_n]
    by_cases h0 : i = 0
    · subst h0; rfl
    · rw [if_neg h0]
      by_cases h1 : i % 2 = 1
      · rw [if_pos h1, get_n, if_neg h0, if_pos h1]; exact ihl _
      · rw [if_neg h1, get_n, if_neg h0, if_neg h1]; exact ihr _
theorem put_get_same (t : T α) (x : Option α) (i : Nat) (y : α) (h : (t.put i x).get i = some y) : x = some y := by rw [put_get] at h; exact h
end T
end Go.Proofs.YtkhgfdlinobabaaGreatDoor.AM
namespace Go.Proofs.YtkhgfdlinobabaaGreatDoor.AM

/-! ### Values and memory -/
inductive V where
  | undef
  | bool (b : Bool)
  | int (k : IntKind) (n : Int)
  | str (s : List UInt8)
  | ptr (id off : Nat)
  | nilptr
  /-- A slice over block 'id' from cell 'off' on; its capacity is 'cap' elements (none: up to the block's end, which isn't known). -/
  | sl (id off len : Nat) (cap : Option Nat)
  | nilsl
  | map (id : Nat)
  | nilmap
  | chan (id : Nat)
  | nilchan
  | func (fn : Fn) (first captured : List V)
  | nilfunc
  | iface (t : TypeId) (v : V)
  | nilif
  | agg (vs : List V)
  | tup (vs : List V)

/-- Where a block of the smaller machine lies: the block, by how many cells it is shifted, the cell behind the last one that a slice over it may reach, an element's cells. -/
structure Loc where
  b : Nat
  d : Nat
  e : Nat
  sz : Nat

abbrev Mu := Nat → Option Loc
def Mu.le (m m' : Mu) : Prop := ∀ id L, m id = some L → m' id = some L
theorem Mu.le.refl (m : Mu) : m.le m := fun _ _ h => h
theorem Mu.le.trans {a b c : Mu} (h : a.le b) (k : b.le c) : a.le c := fun i L e => k i L (h i L e)

mutual
inductive VRel (m : Mu) : V → Value → Prop where
  | undef : VRel m .undef (.tuple #[])
  | bool (b : Bool) : VRel m (.bool b) (.bool b)
  | int (k : IntKind) (n : Int) : VRel m (.int k n) (.int k n)
  | str (s : List UInt8) : VRel m (.str s) (.string ⟨s.toArray⟩)
  | ptr (id off : Nat) (L : Loc) : m id = some L → VRel m (.ptr id off) (.pointer (some ⟨L.b, L.d + off, none⟩))
  | nilptr : VRel m .nilptr (.pointer none)
  | slc (id off len c : Nat) (L : Loc) : m id = some L → VRel m (.sl id off len (some c)) (.slice (some ⟨L.b, L.d + off, none⟩) len c)
  | slo (id off len c : Nat) (L : Loc) : m id = some L → L.d + off + c * L.sz = L.e → len ≤ c → VRel m (.sl id off len none) (.slice (some ⟨L.b, L.d + off, none⟩) len c)
  | nilsl : VRel m .nilsl (.slice none 0 0)
  | map (id : Nat) (L : Loc) : m id = some L → VRel m (.map id) (.map (some L.b))
  | nilmap : VRel m .nilmap (.map none)
  | chan (id : Nat) (L : Loc) : m id = some L → VRel m (.chan id) (.chan (some L.b))
  | nilchan : VRel m .nilchan (.chan none)
  | func (fn : Fn) (f c : List V) (f' c' : List Value) : VsRel m f f' → VsRel m c c' → VRel m (.func fn f c) (.func fn f'.toArray c'.toArray)
  | nilfunc : VRel m .nilfunc .nilFunc
  | iface (t : TypeId) (v : V) (v' : Value) : VRel m v v' → VRel m (.iface t v) (.iface t v')
  | nilif : VRel m .nilif .nilIface
  | agg (vs : List V) (vs' : List Value) : VsRel m vs vs' → VRel m (.agg vs) (.agg vs'.toArray)
  | tup (vs : List V) (vs' : List Value) : VsRel m vs vs' → VRel m (.tup vs) (.tuple vs'.toArray)
inductive VsRel (m : Mu) : List V → List Value → Prop where
  | nil : VsRel m [] []
  | cons (v : V) (v' : Value) (vs : List V) (vs' : List Value) : VRel m v v' → VsRel m vs vs' → VsRel m (v :: vs) (v' :: vs')
end

mutual
theorem VRel.mono {m m' : Mu} (h : m.le m') : ∀ {v : V} {v' : Value}, VRel m v v' → VRel m' v v'
  | _, _, .undef => .undef
  | _, _, .bool b => .bool b
  | _, _, .int k n => .int k n
  | _, _, .str s => .str s
  | _, _, .ptr id off L e => .ptr id off L (h _ _ e)
  | _, _, .nilptr => .nilptr
  | _, _, .slc id off len c L e => .slc id off len c L (h _ _ e)
  | _, _, .slo id off len c L e e1 e2 => .slo id off len c L (h _ _ e) e1 e2
  | _, _, .nilsl => .nilsl
  | _, _, .map id L e => .map id L (h _ _ e)
  | _, _, .nilmap => .nilmap
  | _, _, .chan id L e => .chan id L (h _ _ e)
  | _, _, .nilchan => .nilchan
  | _, _, .func fn f c f' c' hf hc => .func fn f c f' c' (VsRel.mono h hf) (VsRel.mono h hc)
  | _, _, .nilfunc => .nilfunc
  | _, _, .iface t v v' e => .iface t v v' (VRel.mono h e)
  | _, _, .nilif => .nilif
  | _, _, .agg vs vs' e => .agg vs vs' (VsRel.mono h e)
  | _, _, .tup vs vs' e => .tup vs vs' (VsRel.mono h e)
theorem VsRel.mono {m m' : Mu} (h : m.le m') : ∀ {vs : List V} {vs' : List Value}, VsRel m vs vs' → VsRel m' vs vs'
  | _, _, .nil => .nil
  | _, _, .cons v v' vs vs' e es => .cons v v' vs vs' (VRel.mono h e) (VsRel.mono h es)
end

theorem VsRel.length {m : Mu} {vs : List V} {vs' : List Value} (h : VsRel m vs vs') : vs'.length = vs.length := by
  induction vs generalizing vs' with
  | nil => cases h; rfl
  | cons v vs ih => cases h with | cons _ v' _ vs' e es => simp [ih es]
theorem VsRel.get {m : Mu} {vs : List V} {vs' : List Value} (h : VsRel m vs vs') : ∀ {i : Nat} {v : V}, vs[i]? = some v → ∃ v', vs'[i]? = some v' ∧ VRel m v v' := by
  induction vs generalizing vs' with
  | nil => intro i v hi; simp at hi
  | cons x xs ih =>
    cases h with
    | cons _ x' _ xs' e es =>
      intro i v hi
      cases i with
      | zero => simp at hi; subst hi; exact ⟨x', rfl, e⟩
      | succ i => simpa using ih es (by simpa using hi)
theorem VsRel.append {m : Mu} {a b : List V} {a' b' : List Value} (h : VsRel m a a') (k : VsRel m b b') : VsRel m (a ++ b) (a' ++ b') := by
  induction a generalizing a' with
  | nil => cases h; exact k
  | cons x xs ih => cases h with | cons _ x' _ xs' e es => exact .cons _ _ _ _ e (ih es)
theorem VsRel.take {m : Mu} {a : List V} {a' : List Value} (h : VsRel m a a') : ∀ n, VsRel m (a.take n) (a'.take n) := by
  induction a generalizing a' with
  | nil => cases h; intro n; simp; exact .nil
  | cons x xs ih =>
    cases h with
    | cons _ x' _ xs' e es => intro n; cases n with | zero => exact .nil | succ n => exact .cons _ _ _ _ e (ih es n)
theorem VsRel.drop {m : Mu} {a : List V} {a' : List Value} (h : VsRel m a a') : ∀ n, VsRel m (a.drop n) (a'.drop n) := by
  induction a generalizing a' with
  | nil => cases h; intro n; simp; exact .nil
  | cons x xs ih =>
    cases h with
    | cons _ x' _ xs' e es => intro n; cases n with | zero => exact .cons _ _ _ _ e es | succ n => exact ih es n

/-- A closed value, as the text has it. -/
def ofCell : Value → Option V
  | .bool b => some (.bool b)
  | .int k n => some (.int k n)
  | .string s => some (.str s.data.toList)
  | .pointer none => some .nilptr
  | .slice none 0 0 => some .nilsl
  | .map none => some .nilmap
  | .chan none => some .nilchan
  | .nilFunc => some .nilfunc
  | .nilIface => some .nilif
  | _ => none
def ofCells : List Value → Option (List V)
  | [] => some []
  | v :: vs => match ofCell v, ofCells vs with
    | some x, some xs => some (x :: xs)
    | _, _ => none
def ofPlain : Value → Option V
  | .agg cs => (ofCells cs.toList).map .agg
  | v => ofCell v
def ofValue : Value → Option V
  | .iface t v => (ofPlain v).map (.iface t)
  | v => ofPlain v
theorem ofCell_rel {m : Mu} {v : Value} {x : V} (h : ofCell v = some x) : VRel m x v := by
  unfold ofCell at h
  split at h <;> first | (injection h with h; subst h; constructor) | cases h
theorem ofCells_rel {m : Mu} : ∀ {vs : List Value} {xs : List V}, ofCells vs = some xs → VsRel m xs vs
  | [], xs, h => by simp [ofCells] at h; subst h; exact .nil
  | v :: vs, xs, h => by
    unfold ofCells at h
    split at h
    · rename_i x xs' h1 h2; injection h with h; subst h; exact .cons _ _ _ _ (ofCell_rel h1) (ofCells_rel h2)
    · cases h
theorem ofPlain_rel {m : Mu} {v : Value} {x : V} (h : ofPlain v = some x) : VRel m x v := by
  unfold ofPlain at h
  split at h
  · rename_i cs
    cases hc : ofCells cs.toList with
    | none => simp [hc] at h
    | some xs => simp [hc] at h; subst h; simpa using VRel.agg xs cs.toList (ofCells_rel hc)
  · exact ofCell_rel h
theorem ofValue_rel {m : Mu} {v : Value} {x : V} (h : ofValue v = some x) : VRel m x v := by
  unfold ofValue at h
  split at h
  · rename_i t v
    cases hc : ofPlain v with
    | none => simp [hc] at h
    | some y => simp [hc] at h; subst h; exact .iface _ _ _ (ofPlain_rel hc)
  · exact ofPlain_rel h

def V.cells : V → List V
  | .agg vs => vs
  | v => [v]
/-- What one cell can hold. -/
def V.one : V → Bool
  | .agg _ | .tup _ | .undef => false
  | _ => true
theorem VRel.cells {m : Mu} {v : V} {v' : Value} (h : VRel m v v') : VsRel m v.cells v'.cells.toList := by
  cases h with
  | agg vs vs' e => simpa [V.cells, Value.cells] using e
  | _ => simp only [V.cells, Value.cells]; exact .cons _ _ _ _ (by constructor <;> assumption) .nil
end Go.Proofs.YtkhgfdlinobabaaGreatDoor.AM

/- The smaller machine: memory, and what each operation does. -/
namespace Go.Proofs.YtkhgfdlinobabaaGreatDoor.AM

noncomputable def lget {α : Type} (l : List α) : Nat → Option α :=
  List.rec (motive := fun _ => Nat → Option α) (fun _ => none) (fun a _ ih i => Nat.rec (motive := fun _ => Option α) (some a) (fun j _ => ih j) i) l
theorem lget_eq {α : Type} (l : List α) : ∀ i, lget l i = l[i]? := by
  induction l with
  | nil => intro i; rfl
  | cons a l ih => intro i; cases i with | zero => rfl | succ i => exact ih i
def grd {α : Type} (b : Bool) (x : Option α) : Option α := cond b x none
def osel {α β : Type} (x : Option α) (n : β) (s : α → β) : β := match x with | none => n | some a => s a
theorem grd_some {α : Type} {b : Bool} {x : Option α} {y : α} : grd b x = some y ↔ b = true ∧ x = some y := by cases b <;> simp [grd]
theorem bnd_some {α β : Type} {x : Option α} {f : α → Option β} {y : β} : x.bind f = some y ↔ ∃ a, x = some a ∧ f a = some y := Option.bind_eq_some_iff

def V.ptr? : V → Option (Nat × Nat)
  | .ptr id off => some (id, off)
  | _ => none
theorem V.ptr?_inv {x : V} {p : Nat × Nat} (h : x.ptr? = some p) : x = .ptr p.1 p.2 := by cases x <;> simp [V.ptr?] at h; subst h; rfl
def V.sl? : V → Option (Nat × Nat × Nat × Option Nat)
  | .sl id off len cap => some (id, off, len, cap)
  | _ => none
theorem V.sl?_inv {x : V} {p : Nat × Nat × Nat × Option Nat} (h : x.sl? = some p) : x = .sl p.1 p.2.1 p.2.2.1 p.2.2.2 := by cases x <;> simp [V.sl?] at h; subst h; rfl
def V.str? : V → Option (List UInt8)
  | .str s => some s
  | _ => none
theorem V.str?_inv {x : V} {p : List UInt8} (h : x.str? = some p) : x = .str p := by cases x <;> simp [V.str?] at h; subst h; rfl
def V.agg? : V → Option (List V)
  | .agg s => some s
  | _ => none
theorem V.agg?_inv {x : V} {p : List V} (h : x.agg? = some p) : x = .agg p := by cases x <;> simp [V.agg?] at h; subst h; rfl
/-- A whole number that isn't negative. -/
def V.nat? : V → Option (IntKind × Nat)
  | .int k (.ofNat n) => some (k, n)
  | _ => none
theorem V.nat?_inv {x : V} {p : IntKind × Nat} (h : x.nat? = some p) : x = .int p.1 (p.2 : Int) := by
  unfold V.nat? at h
  split at h
  · injection h with h; subst h; rfl
  · cases h

structure Row where
  cs : List V
  elem : TypeId
  sz : Nat
  frz : Nat
  st : Bool
  ro : Bool
  ex : Bool

inductive O where
  | row (r : Row)
  | map (es : List (V × V × Nat)) (clock : Nat)
  | siter (s : List UInt8) (pos : Nat)
  | miter (map : Option Nat) (since : Nat) (seen : List Nat) (last : Nat)

structure H where
  objs : T O
  next : Nat

noncomputable def H.get (h : H) (id : Nat) : Option O := h.objs.get id
noncomputable def H.set (h : H) (id : Nat) (o : Option O) : H := ⟨h.objs.put id o, h.next⟩
noncomputable def rowOf (h : H) (id : Nat) : Option Row := (h.get id).bind fun | .row r => some r | _ => none

def isAggB (P : Program) (t : TypeId) : Option Bool := (P.underlying t).bind fun | .struct _ | .array _ _ => some true | _ => some false
def szOf (P : Program) (t : TypeId) : Option Nat := (P.info? t).bind fun i => some i.size
def bytesOf' (P : Program) (t : TypeId) : Option Nat := (P.info? t).bind fun i => some i.bytes
def zeroOf (P : Program) (t : TypeId) : Option V := (P.info? t).bind fun i => i.zero.bind ofPlain

def splice (cs : List V) (off : Nat) (vs : List V) : List V := cs.take off ++ (vs ++ cs.drop (off + vs.length))

noncomputable def partA (P : Program) (t : TypeId) (vs : List V) (off : Nat) : Option V :=
  (isAggB P t).bind fun b => cond b ((szOf P t).bind fun n => grd (Nat.ble (off + n) vs.length) (some (.agg ((vs.drop off).take n)))) (lget vs off)
noncomputable def loadAtA (P : Program) (t : TypeId) (a : V) (h : H) : Option V :=
  a.ptr?.bind fun p => (rowOf h p.1).bind fun r => partA P t r.cs p.2
noncomputable def putCells (h : H) (id off : Nat) (vs : List V) : Option H :=
  (rowOf h id).bind fun r => grd (!r.ro && Nat.ble r.frz off && Nat.ble (off + vs.length) r.cs.length && vs.all V.one)
    (some (h.set id (some (.row { r with cs := splice r.cs off vs }))))
noncomputable def storeAtA (P : Program) (t : TypeId) (a v : V) (h : H) : Option H :=
  a.ptr?.bind fun p => (szOf P t).bind fun n => grd (Nat.beq v.cells.length n) (putCells h p.1 p.2 v.cells)
def boxA (t : TypeId) (v : V) (nid : Nat) : V × Row := (.ptr nid 0, ⟨v.cells, t, 1, 0, false, false, true⟩)
noncomputable def fieldAtA (P : Program) (s : TypeId) (x : V) (f : Nat) : Option V :=
  x.ptr?.bind fun p => (P.underlying s).bind fun
  | .struct fs => (fs[f]?).bind fun fd => (szOf P fd.type).bind fun n => grd (!Nat.beq n 0) (some (.ptr p.1 (p.2 + fd.offset)))
  | _ => none
noncomputable def fieldA (P : Program) (s : TypeId) (x : V) (f : Nat) : Option V :=
  x.agg?.bind fun vs => (P.underlying s).bind fun
  | .struct fs => (fs[f]?).bind fun fd => partA P fd.type vs fd.offset
  | _ => none
/-- An index below a length. -/
noncomputable def idx (i : V) (len : Nat) : Option Nat := i.nat?.bind fun n => grd (Nat.blt n.2 len) (some n.2)
noncomputable def indexAtA (P : Program) (t : TypeId) (x i : V) : Option V :=
  (P.underlying t).bind fun
  | .slice el => x.sl?.bind fun p => (idx i p.2.2.1).bind fun n => (szOf P el).bind fun s => some (.ptr p.1 (p.2.1 + n * s))
  | .array len el => x.ptr?.bind fun p => (idx i len).bind fun n => (szOf P el).bind fun s => some (.ptr p.1 (p.2 + n * s))
  | _ => none
noncomputable def indexA (P : Program) (t : TypeId) (x i : V) : Option V :=
  (P.underlying t).bind fun
  | .string => x.str?.bind fun s => (idx i s.length).bind fun n => (lget s n).bind fun b => some (.int .u8 b.toNat)
  | .array len el => x.agg?.bind fun vs => (idx i len).bind fun n => (szOf P el).bind fun s => partA P el vs (n * s)
  | _ => none
/-- A slice's bound: at most 'y', or 'd' where none stands. -/
noncomputable def bnd (x : Option V) (d y : Nat) : Option Nat :=
  osel x (some d) (fun v => v.nat?.bind fun n => grd (Nat.ble n.2 y) (some n.2))
noncomputable def cutA (id off s l h m : Nat) : V := cond (Nat.beq m l) (.sl id off (h - l) (some 0)) (.sl id (off + l * s) (h - l) (some (m - l)))
noncomputable def sliceStrA (x : V) (lo hi mx : Option V) : Option V :=
  grd mx.isNone (x.str?.bind fun s => (bnd hi s.length s.length).bind fun h => (bnd lo 0 h).bind fun l => some (.str ((s.drop l).take (h - l))))
noncomputable def sliceSlA (P : Program) (el : TypeId) (x : V) (lo hi mx : Option V) (q : H) : Option V :=
  x.sl?.bind fun p => (szOf P el).bind fun s =>
    osel mx (osel p.2.2.2 ((rowOf q p.1).bind fun r => (bnd hi p.2.2.1 p.2.2.1).bind fun h => (bnd lo 0 h).bind fun l => grd ((Nat.blt l p.2.2.1 || Nat.beq l 0) && Nat.beq r.sz s) (some (.sl p.1 (p.2.1 + l * s) (h - l) none))) (fun c => (bnd hi p.2.2.1 c).bind fun h => (bnd lo 0 h).bind fun l => some (cutA p.1 p.2.1 s l h c))) (fun m' => (bnd (some m') 0 (p.2.2.2.getD p.2.2.1)).bind fun m => grd hi.isSome ((bnd hi p.2.2.1 m).bind fun h => (bnd lo 0 h).bind fun l => some (cutA p.1 p.2.1 s l h m)))
noncomputable def sliceNilA (x : V) (lo hi mx : Option V) : Option V :=
  match x with
  | .nilsl => grd mx.isNone ((bnd hi 0 0).bind fun h => (bnd lo 0 h).bind fun _ => some .nilsl)
  | _ => none
noncomputable def sliceAtA (P : Program) (t : TypeId) (x : V) (lo hi mx : Option V) (q : H) : Option V :=
  (P.underlying t).bind fun
  | .string => sliceStrA x lo hi mx
  | .slice el => (sliceSlA P el x lo hi mx q).or ((szOf P el).bind fun _ => sliceNilA x lo hi mx)
  | .array n el => grd mx.isNone (x.ptr?.bind fun p => (szOf P el).bind fun s => (bnd hi n n).bind fun h => (bnd lo 0 h).bind fun l => some (cutA p.1 p.2 s l h n))
  | _ => none

/-- A part of a struct or of an array laid over its cells. -/
noncomputable def fillA (place : Nat → Option (Nat × Nat)) (cells : List V) : List (Nat × V) → Option (List V)
  | [] => some cells
  | (i, v) :: rest => (place i).bind fun p => grd (Nat.beq v.cells.length p.2 && Nat.ble (p.1 + p.2) cells.length) (fillA place (splice cells p.1 v.cells) rest)
noncomputable def partsOf (ev : Operand → Option V) : List (Nat × Operand) → Option (List (Nat × V))
  | [] => some []
  | (i, x) :: rest => (ev x).bind fun v => (partsOf ev rest).bind fun vs => some ((i, v) :: vs)
noncomputable def evAll (ev : Operand → Option V) : List Operand → Option (List V)
  | [] => some []
  | x :: rest => (ev x).bind fun v => (evAll ev rest).bind fun vs => some (v :: vs)
noncomputable def placesOf (P : Program) : List Field → Option (List (Nat × Nat))
  | [] => some []
  | f :: fs => (szOf P f.type).bind fun n => (placesOf P fs).bind fun r => some ((f.offset, n) :: r)
noncomputable def buildA (P : Program) (t : TypeId) (parts : List (Nat × V)) : Option V :=
  (zeroOf P t).bind fun z => (P.underlying t).bind fun
  | .struct fs => (placesOf P fs.toList).bind fun ps => (fillA (lget ps) z.cells parts).bind fun cs => some (.agg cs)
  | .array _ el => (szOf P el).bind fun s => (fillA (fun i => some (i * s, s)) z.cells parts).bind fun cs => some (.agg cs)
  | _ => none
def rep (z : List V) : Nat → List V
  | 0 => []
  | n + 1 => z ++ rep z n
noncomputable def buildSliceA (P : Program) (t : TypeId) (len : Nat) (parts : List (Nat × V)) (nid : Nat) : Option (V × Row) :=
  (P.underlying t).bind fun
  | .slice el => (szOf P el).bind fun s => (zeroOf P el).bind fun z => grd (Nat.ble (len * s) 65536 && Nat.beq z.cells.length s && !Nat.beq s 0)
      ((fillA (fun i => some (i * s, s)) (rep z.cells len) parts).bind fun cs => some (.sl nid 0 len (some len), ⟨cs, el, s, 0, false, false, true⟩))
  | _ => none
noncomputable def makeSliceA (P : Program) (t : TypeId) (l c : V) (nid : Nat) : Option (V × Row) :=
  l.nat?.bind fun l => c.nat?.bind fun c => (P.underlying t).bind fun
  | .slice el => (szOf P el).bind fun s => (bytesOf' P el).bind fun by_ => (zeroOf P el).bind fun z =>
          grd (Nat.ble l.2 c.2 && Nat.ble c.2 1048576 && Nat.ble (c.2 * by_) 1048576 && Nat.beq z.cells.length s && !Nat.beq s 0)
            (some (.sl nid 0 l.2 (some c.2), ⟨rep z.cells c.2, el, s, 0, false, false, true⟩))
  | _ => none

/-- The first n elements' cells of a slice or a text. -/
noncomputable def firstA (s : Nat) (n : Nat) (x : V) (h : H) : Option (List V) :=
  match x with
  | .nilsl => some []
  | .str b => some ((b.take n).map fun c => .int .u8 c.toNat)
  | .sl id off _ _ => (rowOf h id).bind fun r => grd (Nat.ble (off + n * s) r.cs.length) (some ((r.cs.drop off).take (n * s)))
  | _ => none
def lenA : V → Option Nat
  | .nilsl => some 0
  | .str b => some b.length
  | .sl _ _ len _ => some len
  | _ => none
/-- append to nil. -/
noncomputable def appNilA (el : TypeId) (k by_ n : Nat) (new : List V) (nid : Nat) (h : H) : Option (V × H) :=
  cond (Nat.beq n 0) (some (.nilsl, h)) (grd (Nat.ble (n * by_) 1099511627776) (some (.sl nid 0 n none, h.set nid (some (.row ⟨new, el, k, 0, false, false, false⟩)))))
/-- append where a new row must be made. -/
noncomputable def appGrowA (el : TypeId) (k by_ : Nat) (s : V) (len n : Nat) (new : List V) (nid : Nat) (h : H) : Option (V × H) :=
  grd (Nat.ble ((len + n) * by_) 1099511627776) ((firstA k len s h).bind fun old => some (.sl nid 0 (len + n) none, h.set nid (some (.row ⟨old ++ new, el, k, 0, false, false, false⟩))))
/-- append in place. -/
noncomputable def appInA (k id off len n : Nat) (cap : Option Nat) (new : List V) (h : H) : Option (V × H) :=
  (putCells h id (off + len * k) new).bind fun h' => some (.sl id off (len + n) cap, h')
/-- append where it isn't known whether there is room: the old row is given up. -/
noncomputable def appMoveA (el : TypeId) (k by_ : Nat) (s : V) (id off len n : Nat) (r : Row) (new : List V) (nid : Nat) (h : H) : Option (V × H) :=
  grd (!r.ro && !r.st && Nat.beq r.sz k && Nat.beq r.elem el && (Nat.beq off 0 || Nat.beq r.frz 0) && Nat.ble r.frz (off + len * k) && Nat.ble ((len + n) * by_) 1099511627776)
    ((firstA k len s h).bind fun old => some (.sl nid 0 (len + n) none, (h.set id none).set nid (some (.row ⟨old ++ new, el, k, r.frz, false, false, false⟩))))
noncomputable def appSlA (el : TypeId) (k by_ : Nat) (s : V) (id off len : Nat) (cap : Option Nat) (n : Nat) (new : List V) (nid : Nat) (h : H) : Option (V × H) :=
  osel cap (cond (Nat.beq n 0) (some (s, h)) ((rowOf h id).bind fun r => cond (Nat.ble (off + (len + n) * k) r.cs.length) (grd (Nat.beq r.sz k) (appInA k id off len n none new h)) (appMoveA el k by_ s id off len n r new nid h))) (fun c => cond (Nat.ble (len + n) c) (appInA k id off len n (some c) new h) (appGrowA el k by_ s len n new nid h))
def zerosA (P : Program) : Option TypeId → Option Bool
  | none => some false
  | some t => (P.underlying t).bind fun | .int _ => some true | _ => some false
/-- What is appended: how many elements, and their cells (zeros: 'append(s, make([]T, n)...)'). -/
noncomputable def newA (zeros : Bool) (k : Nat) (z : V) (x : V) (h : H) : Option (Nat × List V) :=
  cond zeros (x.nat?.bind fun n => grd (Nat.ble n.2 1048576) (some (n.2, rep z.cells n.2))) ((lenA x).bind fun n => (firstA k n x h).bind fun new => some (n, new))
noncomputable def appendA (P : Program) (st : TypeId) (xt : Option TypeId) (s x : V) (nid : Nat) (h : H) : Option (V × H) :=
  (zerosA P xt).bind fun zeros => (P.underlying st).bind fun
  | .slice el => (szOf P el).bind fun k => (bytesOf' P el).bind fun by_ => (zeroOf P el).bind fun z => (newA zeros k z x h).bind fun q =>
      grd (q.2.all V.one && !Nat.beq k 0 && !Nat.beq by_ 0 && Nat.beq z.cells.length k && Nat.beq q.2.length (q.1 * k) && Nat.ble (q.1 * by_) 1099511627776)
      (match s with
      | .nilsl => appNilA el k by_ q.1 q.2 nid h
      | .sl id off len cap => appSlA el k by_ s id off len cap q.1 q.2 nid h
      | _ => none)
  | _ => none
noncomputable def copyA (P : Program) (dt : TypeId) (d x : V) (h : H) : Option (V × H) :=
  (P.underlying dt).bind fun
  | .slice el => (szOf P el).bind fun k => (lenA x).bind fun n => (lenA d).bind fun m =>
      (firstA k (Nat.min n m) x h).bind fun new => (match d with
        | .nilsl => some (.int .i64 (Nat.min n m), h)
        | .sl id off _ _ => (putCells h id off new).bind fun h' => some (.int .i64 (Nat.min n m), h')
        | _ => none)
  | _ => none
end Go.Proofs.YtkhgfdlinobabaaGreatDoor.AM

/- How a state of the smaller machine stands to a world, and what keeps it so. -/
namespace Go.Proofs.YtkhgfdlinobabaaGreatDoor.AM
open Go.RowKit (Below)

def FrzOk (r : Row) (d : Nat) (fz : Nat × Nat) (size : Nat) : Prop :=
  (r.st = false ∧ (fz.1 = fz.2 ∨ ∃ q, q ≤ r.frz ∧ fz = (d, d + q))) ∨ (r.st = true ∧ r.frz = 0 ∧ size ≤ fz.1)
theorem FrzOk.free {r : Row} {d : Nat} {fz : Nat × Nat} {size j : Nat} (h : FrzOk r d fz size) (hj : d + r.frz ≤ j) (hs : j < size) : (fz.1 ≤ j && j < fz.2) = false := by
  rcases h with ⟨_, h2 | ⟨q, h1, rfl⟩⟩ | ⟨_, h1, h2⟩ <;> simp <;> omega

structure RowRel (m : Mu) (w : World) (L : Loc) (r : Row) (c : Array Value) (fz : Nat × Nat) : Prop where
  at_ : w.heap[L.b]? = some (.cells c r.elem fz)
  sz : L.sz = r.sz
  fits : L.d + r.cs.length ≤ L.e
  ends : L.e ≤ c.size
  vals : VsRel m r.cs ((c.toList.drop L.d).take r.cs.length)
  frz : FrzOk r L.d fz c.size
  ex : r.ex = true → L.d = 0 ∧ c.size = r.cs.length

inductive EsRel (m : Mu) : List (V × V × Nat) → List MapEntry → Prop where
  | nil : EsRel m [] []
  | cons (k v : V) (n : Nat) (k' v' : Value) (es : List (V × V × Nat)) (es' : List MapEntry) : VRel m k k' → VRel m v v' → EsRel m es es' → EsRel m ((k, v, n) :: es) (⟨k', v', n⟩ :: es')
theorem EsRel.mono {m m' : Mu} (h : m.le m') {es : List (V × V × Nat)} {es' : List MapEntry} (k : EsRel m es es') : EsRel m' es es' := by
  induction k with
  | nil => exact .nil
  | cons k v n k' v' es es' hk hv _ ih => exact .cons _ _ _ _ _ _ _ (hk.mono h) (hv.mono h) ih

def O.ro : O → Bool
  | .row r => r.ro
  | _ => false
def ORel (m : Mu) (w : World) (L : Loc) : O → Prop
  | .row r => ∃ c fz, RowRel m w L r c fz
  | .map es clock => ∃ es' : Array MapEntry, w.heap[L.b]? = some (.map es' clock) ∧ EsRel m es es'.toList
  | .siter s pos => w.heap[L.b]? = some (.stringIter ⟨s.toArray⟩ pos)
  | .miter mp since seen last => ∃ mp' : Option Nat, w.heap[L.b]? = some (.mapIter mp' since seen.toArray last) ∧
      (match mp with | none => mp' = none | some id => ∃ L', m id = some L' ∧ mp' = some L'.b)
theorem ORel.mono {m m' : Mu} (h : m.le m') {w : World} {L : Loc} {o : O} (k : ORel m w L o) : ORel m' w L o := by
  cases o with
  | row r => obtain ⟨c, fz, k⟩ := k; exact ⟨c, fz, { k with vals := k.vals.mono h }⟩
  | map es clock => obtain ⟨es', h1, h2⟩ := k; exact ⟨es', h1, h2.mono h⟩
  | siter s pos => exact k
  | miter mp since seen last =>
    obtain ⟨mp', h1, h2⟩ := k
    refine ⟨mp', h1, ?_⟩
    cases mp with
    | none => exact h2
    | some id => obtain ⟨L', e, e'⟩ := h2; exact ⟨L', h _ _ e, e'⟩
theorem ORel.heap {m : Mu} {w w' : World} {L : Loc} {o : O} (k : ORel m w L o) (h : w'.heap[L.b]? = w.heap[L.b]?) : ORel m w' L o := by
  cases o with
  | row r => obtain ⟨c, fz, k⟩ := k; exact ⟨c, fz, { k with at_ := h ▸ k.at_ }⟩
  | map es clock => obtain ⟨es', h1, h2⟩ := k; exact ⟨es', h ▸ h1, h2⟩
  | siter s pos => exact (show w'.heap[L.b]? = _ from h ▸ k)
  | miter mp since seen last => obtain ⟨mp', h1, h2⟩ := k; exact ⟨mp', h ▸ h1, h2⟩

/-- NG: so many package variables lie at the begin of memory. N0: below this block nothing is written. w0: the world at the begin. -/
structure HRel (NG N0 : Nat) (w0 : World) (m : Mu) (h : H) (w : World) : Prop where
  below : Below N0 w0 w
  n0 : N0 ≤ w.heap.size
  dom : ∀ id, h.next ≤ id → m id = none
  objs : ∀ id o, h.get id = some o → ∃ L, m id = some L ∧ L.b < w.heap.size ∧ (o.ro = false → N0 ≤ L.b) ∧ ORel m w L o
  inj : ∀ i j oi oj Li Lj, h.get i = some oi → h.get j = some oj → m i = some Li → m j = some Lj → Li.b = Lj.b → i = j
  glob : ∀ g, g < NG → ∃ L, m g = some L ∧ L.b = g ∧ L.d = 0

/-- w' is w but for the block b (and for the count of draws). -/
structure Same1 (b : Nat) (w w' : World) : Prop where
  os : w'.os = w.os
  tape : w'.tape = w.tape
  output : w'.output = w.output
  size : w'.heap.size = w.heap.size
  rest : ∀ k, k ≠ b → w'.heap[k]? = w.heap[k]?
theorem Same1.below {b N0 : Nat} {w w' : World} (h : Same1 b w w') (hb : N0 ≤ b) : Below N0 w w' :=
  ⟨h.os, h.tape, h.output, by rw [h.size]; exact Nat.le_refl _, fun k hk => h.rest k (by omega)⟩

section
variable {NG N0 : Nat} {w0 : World} {m : Mu} {h : H} {w : World}
theorem HRel.loc (R : HRel NG N0 w0 m h w) {id : Nat} {o : O} (hg : h.get id = some o) : ∃ L, m id = some L ∧ L.b < w.heap.size ∧ (o.ro = false → N0 ≤ L.b) ∧ ORel m w L o := R.objs id o hg
/-- The same memory: only draws lie between. -/
theorem HRel.drawn (R : HRel NG N0 w0 m h w) {w' : World} (hh : w'.heap = w.heap) (h1 : w'.os = w.os) (h2 : w'.tape = w.tape) (h3 : w'.output = w.output) : HRel NG N0 w0 m h w' where
  below := R.below.trans ⟨h1, h2, h3, by rw [hh]; exact Nat.le_refl _, fun k _ => by rw [hh]⟩
  n0 := by rw [hh]; exact R.n0
  dom := R.dom
  objs := fun id o hg => by obtain ⟨L, e1, e2, e3, e4⟩ := R.objs id o hg; exact ⟨L, e1, by rw [hh]; exact e2, e3, e4.heap (by rw [hh])⟩
  inj := R.inj
  glob := R.glob
/-- What stands in a block that no object had stays there, and no object takes that block. -/
def Frm (m : Mu) (h : H) (w : World) (m' : Mu) (h' : H) (w' : World) : Prop :=
  ∀ b, b < w.heap.size → (∀ id o L, h.get id = some o → m id = some L → L.b ≠ b) → w'.heap[b]? = w.heap[b]? ∧ (∀ id o L, h'.get id = some o → m' id = some L → L.b ≠ b)
theorem Frm.refl (m : Mu) (h : H) (w : World) : Frm m h w m h w := fun _ _ hb => ⟨rfl, hb⟩
structure Good (NG N0 : Nat) (w0 : World) (m : Mu) (h : H) (w : World) (m' : Mu) (h' : H) (w' : World) : Prop where
  rel : HRel NG N0 w0 m' h' w'
  frm : Frm m h w m' h' w'
  size : w.heap.size ≤ w'.heap.size
theorem HRel.same (R : HRel NG N0 w0 m h w) : Good NG N0 w0 m h w m h w := ⟨R, Frm.refl _ _ _, Nat.le_refl _⟩
theorem Good.trans {m1 m2 m3 : Mu} {h1 h2 h3 : H} {w1 w2 w3 : World} (a : Good NG N0 w0 m1 h1 w1 m2 h2 w2) (b : Good NG N0 w0 m2 h2 w2 m3 h3 w3) : Good NG N0 w0 m1 h1 w1 m3 h3 w3 where
  rel := b.rel
  frm := fun k hk hb => by
    obtain ⟨e1, e2⟩ := a.frm k hk hb
    obtain ⟨e3, e4⟩ := b.frm k (Nat.lt_of_lt_of_le hk a.size) e2
    exact ⟨e3.trans e1, e4⟩
  size := Nat.le_trans a.size b.size
theorem HRel.set (R : HRel NG N0 w0 m h w) {id : Nat} {o o' : O} {L : Loc} (hg : h.get id = some o) (hm : m id = some L) (ho : o.ro = false) {w' : World} (hS : Same1 L.b w w')
    (hO : ORel m w' L o') : Good NG N0 w0 m h w m (h.set id (some o')) w' := by
  have hb : N0 ≤ L.b := by
    obtain ⟨L', e1, _, e3, _⟩ := R.objs id o hg
    rw [hm] at e1; injection e1 with e1; subst e1; exact e3 ho
  have old : ∀ j, j ≠ id → (h.set id (some o')).get j = h.get j := fun j hj => T.put_get_other _ _ _ _ (Ne.symm hj)
  have own : ∀ y, (h.set id (some o')).get id = some y → y = o' := fun y hy => (Option.some.inj (T.put_get_same _ _ _ _ hy)).symm
  refine ⟨⟨R.below.trans (hS.below hb), by rw [hS.size]; exact R.n0, R.dom, fun j oj hj => ?_, fun i j oi oj Li Lj hi hj => ?_, R.glob⟩, fun b' hb' hn => ⟨hS.rest _ (fun e => hn id o L hg hm e.symm), fun i oi Li hi hmi => ?_⟩, by rw [hS.size]; exact Nat.le_refl _⟩
  · by_cases hij : j = id
    · subst hij
      obtain rfl := own _ hj
      obtain ⟨L', e1, e2, _, _⟩ := R.objs j o hg
      rw [hm] at e1; injection e1 with e1; subst e1
      exact ⟨L, hm, by rw [hS.size]; exact e2, fun _ => hb, hO⟩
    · rw [old j hij] at hj
      obtain ⟨L', e1, e2, e3, e4⟩ := R.objs j oj hj
      refine ⟨L', e1, by rw [hS.size]; exact e2, e3, e4.heap (hS.rest _ ?_)⟩
      intro e
      exact hij (R.inj j id oj o L' L hj hg e1 hm e)
  · have hi' : ∃ x, h.get i = some x := by
      by_cases e : i = id
      · subst e; exact ⟨o, hg⟩
      · rw [old i e] at hi; exact ⟨oi, hi⟩
    have hj' : ∃ x, h.get j = some x := by
      by_cases e : j = id
      · subst e; exact ⟨o, hg⟩
      · rw [old j e] at hj; exact ⟨oj, hj⟩
    obtain ⟨x, hx⟩ := hi'
    obtain ⟨y, hy⟩ := hj'
    exact fun a b c => R.inj i j x y Li Lj hx hy a b c
  · by_cases e : i = id
    · subst e; exact hn i o Li hg hmi
    · rw [old i e] at hi; exact hn i oi Li hi hmi
theorem HRel.kill (R : HRel NG N0 w0 m h w) (id : Nat) : HRel NG N0 w0 m (h.set id none) w := by
  have old : ∀ j, j ≠ id → (h.set id none).get j = h.get j := fun j hj => T.put_get_other _ _ _ _ (Ne.symm hj)
  have own : ∀ y, (h.set id none).get id ≠ some y := fun y hy => by have := T.put_get_same _ _ _ _ hy; cases this
  refine ⟨R.below, R.n0, R.dom, fun j oj hj => ?_, fun i j oi oj Li Lj hi hj => ?_, R.glob⟩
  · have e : j ≠ id := fun e => own oj (e ▸ hj)
    exact R.objs j oj (old j e ▸ hj)
  · have e : j ≠ id := fun e => own oj (e ▸ hj)
    have e' : i ≠ id := fun e => own oi (e ▸ hi)
    exact R.inj i j oi oj Li Lj (old i e' ▸ hi) (old j e ▸ hj)

def Mu.upd (m : Mu) (i : Nat) (L : Loc) : Mu := fun j => if j = i then some L else m j
theorem Mu.le_upd {m : Mu} {i : Nat} {L : Loc} (h : m i = none) : m.le (m.upd i L) := fun j L' e => by
  unfold Mu.upd
  by_cases hj : j = i
  · subst hj; rw [h] at e; cases e
  · rw [if_neg hj]; exact e
theorem Mu.upd_at (m : Mu) (i : Nat) (L : Loc) : m.upd i L i = some L := by simp [Mu.upd]
theorem Mu.upd_ne (m : Mu) {i j : Nat} (L : Loc) (h : j ≠ i) : m.upd i L j = m j := by simp [Mu.upd, h]

/-- m' is m but for what stands at nid. -/
structure Ext (m m' : Mu) (nid : Nat) : Prop where
  le : m.le m'
  rest : ∀ id, id ≠ nid → m' id = m id
theorem Ext.refl (m : Mu) (nid : Nat) : Ext m m nid := ⟨Mu.le.refl m, fun _ _ => rfl⟩
theorem Ext.upd {m : Mu} {nid : Nat} {L : Loc} (h : m nid = none) : Ext m (m.upd nid L) nid := ⟨Mu.le_upd h, fun _ e => Mu.upd_ne _ _ e⟩

/-- A new object at a block that no other object has. -/
theorem HRel.put0 (R : HRel NG N0 w0 m h w) {o : O} {L : Loc} {nid : Nat} (hf : m nid = none) (hn : nid < h.next) {w' : World} (hB : Below N0 w w') (hb : N0 ≤ L.b) (hlt : L.b < w'.heap.size)
    (hold : ∀ j oj Lj, h.get j = some oj → m j = some Lj → Lj.b ≠ L.b ∧ w'.heap[Lj.b]? = w.heap[Lj.b]?) (hO : ORel (m.upd nid L) w' L o) :
    Ext m (m.upd nid L) nid ∧ HRel NG N0 w0 (m.upd nid L) (h.set nid (some o)) w' := by
  have hle : m.le (m.upd nid L) := Mu.le_upd hf
  have old : ∀ j, j ≠ nid → (h.set nid (some o)).get j = h.get j := fun j hj => T.put_get_other _ _ _ _ (Ne.symm hj)
  have own : ∀ y, (h.set nid (some o)).get nid = some y → y = o := fun y hy => (Option.some.inj (T.put_get_same _ _ _ _ hy)).symm
  refine ⟨Ext.upd hf, R.below.trans hB, Nat.le_trans R.n0 hB.size, fun id hid => ?_, fun j oj hj => ?_, fun i j oi oj Li Lj hi hj ei ej eb => ?_, fun g hg => ?_⟩
  · have hid' : h.next ≤ id := hid
    rw [Mu.upd_ne _ _ (by omega)]; exact R.dom _ hid'
  · by_cases hij : j = nid
    · subst hij
      obtain rfl := own _ hj
      exact ⟨L, Mu.upd_at _ _ _, hlt, fun _ => hb, hO⟩
    · rw [old j hij] at hj
      obtain ⟨L', e1, e2, e3, e4⟩ := R.objs j oj hj
      exact ⟨L', hle _ _ e1, Nat.lt_of_lt_of_le e2 hB.size, e3, (e4.mono hle).heap (hold j oj L' hj e1).2⟩
  · by_cases hi0 : i = nid
    · by_cases hj0 : j = nid
      · rw [hi0, hj0]
      · subst hi0
        rw [old j hj0] at hj
        rw [Mu.upd_ne _ _ hj0] at ej
        rw [Mu.upd_at] at ei
        injection ei with ei; subst ei
        exact absurd eb.symm (hold j oj Lj hj ej).1
    · rw [old i hi0] at hi
      rw [Mu.upd_ne _ _ hi0] at ei
      by_cases hj0 : j = nid
      · subst hj0
        rw [Mu.upd_at] at ej
        injection ej with ej; subst ej
        exact absurd eb (hold i oi Li hi ei).1
      · rw [old j hj0] at hj
        rw [Mu.upd_ne _ _ hj0] at ej
        exact R.inj i j oi oj Li Lj hi hj ei ej eb
  · obtain ⟨L', e1, e2⟩ := R.glob g hg
    exact ⟨L', hle _ _ e1, e2⟩
theorem HRel.put (R : HRel NG N0 w0 m h w) {o : O} {L : Loc} {nid : Nat} (hf : m nid = none) (hn : nid < h.next) {w' : World} (hB : Below N0 w w') (hb : N0 ≤ L.b) (hlt : L.b < w'.heap.size)
    (hold : ∀ j oj Lj, h.get j = some oj → m j = some Lj → Lj.b ≠ L.b ∧ w'.heap[Lj.b]? = w.heap[Lj.b]?) (hO : ORel (m.upd nid L) w' L o)
    (hfr : ∀ b, b < w.heap.size → (∀ id o L, h.get id = some o → m id = some L → L.b ≠ b) → w'.heap[b]? = w.heap[b]? ∧ L.b ≠ b) :
    Ext m (m.upd nid L) nid ∧ Good NG N0 w0 m h w (m.upd nid L) (h.set nid (some o)) w' := by
  obtain ⟨p1, p2⟩ := R.put0 hf hn hB hb hlt hold hO
  refine ⟨p1, p2, fun b hbk hnb => ⟨(hfr b hbk hnb).1, fun i oi Li hi hmi => ?_⟩, hB.size⟩
  by_cases e : i = nid
  · subst e
    rw [Mu.upd_at] at hmi
    injection hmi with hmi; subst hmi
    exact (hfr b hbk hnb).2
  · rw [show (h.set nid (some o)).get i = h.get i from T.put_get_other _ _ _ _ (Ne.symm e)] at hi
    rw [Mu.upd_ne _ _ e] at hmi
    exact hnb i oi Li hi hmi
theorem HRel.killed (R : HRel NG N0 w0 m h w) (id : Nat) : Good NG N0 w0 m h w m (h.set id none) w :=
  ⟨R.kill id, fun b hb hn => ⟨rfl, fun j oj Lj hj ej => by
    have e : j ≠ id := fun e => by subst e; have := T.put_get_same _ _ _ _ hj; cases this
    rw [show (h.set id none).get j = h.get j from T.put_get_other _ _ _ _ (Ne.symm e)] at hj
    exact hn j oj Lj hj ej⟩, Nat.le_refl _⟩
/-- An object in a new block. -/
theorem HRel.alloc (R : HRel NG N0 w0 m h w) {o : O} {L : Loc} {nid : Nat} (hf : m nid = none) (hn : nid < h.next) (x : Obj) {w' : World} (hw : w'.heap = w.heap.push x) (h1 : w'.os = w.os) (h2 : w'.tape = w.tape) (h3 : w'.output = w.output) (hb : L.b = w.heap.size)
    (hO : ORel (m.upd nid L) w' L o) : Ext m (m.upd nid L) nid ∧ Good NG N0 w0 m h w (m.upd nid L) (h.set nid (some o)) w' := by
  have hk : ∀ k, k < w.heap.size → w'.heap[k]? = w.heap[k]? := fun k hk => by rw [hw, Array.getElem?_push, if_neg (by omega)]
  refine R.put hf hn ⟨h1, h2, h3, by rw [hw]; simp, fun k hk' => hk k (by have := R.n0; omega)⟩ (by rw [hb]; exact R.n0) (by rw [hw, hb]; simp) (fun j oj Lj hj ej => ?_) hO (fun b hb' _ => ⟨hk b hb', by rw [hb]; omega⟩)
  obtain ⟨L', e1, e2, _, _⟩ := R.objs j oj hj
  rw [ej] at e1; injection e1 with e1; subst e1
  exact ⟨by omega, hk _ e2⟩
end

theorem rowOf_some {h : H} {id : Nat} {r : Row} (e : rowOf h id = some r) : h.get id = some (.row r) := by
  unfold rowOf at e
  obtain ⟨o, h1, h2⟩ := bnd_some.1 e
  cases o <;> simp at h2
  subst h2; exact h1

/-! ### Cells -/
theorem addr_add (b o j : Nat) : (⟨b, o, none⟩ : Addr).add j = ⟨b, o + j, none⟩ := by unfold Addr.add; split <;> simp_all

theorem set_take {α : Type} (l r : List α) (o n : Nat) (v : α) (h : o < l.length) : (l.set o v).take (o + 1) ++ (r ++ (l.set o v).drop (o + 1 + n)) = l.take o ++ ((v :: r) ++ l.drop (o + (n + 1))) := by
  have e1 : (l.set o v).take (o + 1) = l.take o ++ [v] := by
    rw [List.take_add_one, List.take_set, List.set_eq_of_length_le (by simp; omega)]
    simp [List.getElem?_set, h]
  have e2 : (l.set o v).drop (o + 1 + n) = l.drop (o + (n + 1)) := by
    rw [List.drop_set_of_lt (by omega)]
    congr 1; omega
  rw [e1, e2]
  simp
theorem modify_at {α : Type} (a : Array α) (i : Nat) (f : α → α) (x : α) (h : a[i]? = some x) : (a.modify i f)[i]? = some (f x) := by simp [Array.getElem?_modify, h]
theorem modify_other {α : Type} (a : Array α) (i k : Nat) (f : α → α) (h : k ≠ i) : (a.modify i f)[k]? = a[k]? := by
  rw [Array.getElem?_modify, if_neg (Ne.symm h)]
theorem setCell_heap (w : World) (b o : Nat) (v : Value) (c : Array Value) (t : TypeId) (fz : Nat × Nat) (h : w.heap[b]? = some (.cells c t fz)) :
    (w.setCell ⟨b, o, none⟩ v).heap[b]? = some (.cells (c.setIfInBounds o v) t fz) :=
  modify_at _ _ _ _ h
theorem setCells_same (b : Nat) : ∀ (vs : List Value) (o : Nat) (w : World), Same1 b w (w.setCells b o vs)
  | [], _, _ => ⟨rfl, rfl, rfl, rfl, fun _ _ => rfl⟩
  | v :: r, o, w => by
    have ih := setCells_same b r (o + 1) (w.setCell ⟨b, o, none⟩ v)
    have h0 : Same1 b w (w.setCell ⟨b, o, none⟩ v) := ⟨rfl, rfl, rfl, by simp [World.setCell], fun k hk => modify_other _ _ _ _ hk⟩
    rw [World.setCells]
    exact ⟨ih.os.trans h0.os, ih.tape.trans h0.tape, ih.output.trans h0.output, ih.size.trans h0.size, fun k hk => (ih.rest k hk).trans (h0.rest k hk)⟩
theorem setCells_heap (b : Nat) (t : TypeId) (fz : Nat × Nat) : ∀ (vs : List Value) (o : Nat) (w : World) (c : Array Value), w.heap[b]? = some (.cells c t fz) → o + vs.length ≤ c.size →
    ∃ c', (w.setCells b o vs).heap[b]? = some (.cells c' t fz) ∧ c'.toList = c.toList.take o ++ (vs ++ c.toList.drop (o + vs.length))
  | [], o, w, c, h, _ => ⟨c, h, by simp⟩
  | v :: r, o, w, c, h, hl => by
    simp only [List.length_cons] at hl
    obtain ⟨c', h1, h2⟩ := setCells_heap b t fz r (o + 1) (w.setCell ⟨b, o, none⟩ v) _ (setCell_heap w b o v c t fz h) (by simp; omega)
    refine ⟨c', by rw [World.setCells]; exact h1, ?_⟩
    rw [h2, Array.toList_setIfInBounds, List.length_cons, set_take _ _ _ _ _ (by simp; omega)]
theorem RowRel.cellAt {m : Mu} {w : World} {L : Loc} {r : Row} {c : Array Value} {fz : Nat × Nat} (R : RowRel m w L r c fz) (j : Nat) : w.cell? ⟨L.b, L.d + j, none⟩ = (c.toList.drop L.d)[j]? := by
  simp [World.cell?, R.at_]
theorem RowRel.load {m : Mu} {w : World} {L : Loc} {r : Row} {c : Array Value} {fz : Nat × Nat} (R : RowRel m w L r c fz) {i : Nat} {v : V} (h : r.cs[i]? = some v) :
    ∃ v', w.cell? ⟨L.b, L.d + i, none⟩ = some v' ∧ VRel m v v' := by
  obtain ⟨v', h1, h2⟩ := R.vals.get h
  refine ⟨v', ?_, h2⟩
  rw [R.cellAt]
  have hi : i < r.cs.length := (List.getElem?_eq_some_iff.1 h).1
  rw [List.getElem?_take, if_pos hi] at h1
  exact h1
theorem RowRel.loads {P : Program} {m : Mu} {w : World} {L : Loc} {r : Row} {c : Array Value} {fz : Nat × Nat} (R : RowRel m w L r c fz) (off n : Nat) (h : off + n ≤ r.cs.length) :
    ∃ vs, (loadCells ⟨L.b, L.d + off, none⟩ n).run P w = .ok vs.toArray w ∧ VsRel m ((r.cs.drop off).take n) vs := by
  have hv := (R.vals.drop off).take n
  refine ⟨_, ?_, hv⟩
  have hlen : (List.take n (List.drop off (List.take r.cs.length (List.drop L.d c.toList)))).length = n := by
    have := R.fits; have := R.ends
    simp; omega
  have := run_loadCells_list (P := P) w ⟨L.b, L.d + off, none⟩ (List.take n (List.drop off (List.take r.cs.length (List.drop L.d c.toList)))) (fun j v hj => by
    rw [addr_add, Nat.add_assoc, R.cellAt]
    have hj' : j < n := by have := (List.getElem?_eq_some_iff.1 hj).1; omega
    rw [List.getElem?_take, if_pos hj', List.getElem?_drop, List.getElem?_take, if_pos (by omega)] at hj
    exact hj)
  rw [hlen] at this
  exact this
theorem VRel.one {m : Mu} {v : V} {v' : Value} (h : VRel m v v') (h1 : v.one = true) : v'.oneCell' = true := by
  cases h <;> first | rfl | (simp [V.one] at h1)
theorem VsRel.one {m : Mu} {vs : List V} {vs' : List Value} (h : VsRel m vs vs') (h1 : vs.all V.one = true) : ∀ v ∈ vs', v.oneCell' = true := by
  induction vs generalizing vs' with
  | nil => cases h; simp
  | cons x xs ih =>
    cases h with
    | cons _ x' _ xs' e es =>
      simp only [List.all_cons, Bool.and_eq_true] at h1
      intro v hv
      cases hv with
      | head => exact e.one h1.1
      | tail _ hv => exact ih es h1.2 v hv

/-- Cells stored in a row (from 'off' on, up to the row's end, even behind what is known of it). -/
theorem RowRel.stores {P : Program} {m : Mu} {w : World} {L : Loc} {r : Row} {c : Array Value} {fz : Nat × Nat} (R : RowRel m w L r c fz) (off : Nat) {vs : List V} {vs' : List Value} (hv : VsRel m vs vs')
    (h1 : vs.all V.one = true) (hf : r.frz ≤ off) (hl : L.d + off + vs.length ≤ L.e) :
    ∃ w' c', (storeCells ⟨L.b, L.d + off, none⟩ vs').run P w = .ok () w' ∧ Same1 L.b w w' ∧ w'.heap[L.b]? = some (.cells c' r.elem fz) ∧
      c'.toList = c.toList.take (L.d + off) ++ (vs' ++ c.toList.drop (L.d + off + vs'.length)) ∧ c'.size = c.size := by
  have hlen := hv.length
  have hend := R.ends
  have hst := run_storeCells_cells (P := P) L.b (L.d + off) vs' 0 w (fun j hj => by
      rw [show L.d + off + 0 + j = L.d + (off + j) by omega, R.cellAt, List.getElem?_eq_getElem (by simp; omega)]; rfl)
    (fun j hj => by
      simp only [World.frozen?, R.at_, Nat.add_zero]
      exact R.frz.free (by omega) (by omega)) (hv.one h1)
  obtain ⟨c', e1, e2⟩ := setCells_heap L.b r.elem fz vs' (L.d + off) w c R.at_ (by omega)
  refine ⟨_, c', by simpa using hst, setCells_same _ _ _ _, by simpa using e1, e2, ?_⟩
  have := congrArg List.length e2
  simp only [List.length_append, List.length_take, List.length_drop, Array.length_toList] at this
  omega
end Go.Proofs.YtkhgfdlinobabaaGreatDoor.AM
