/- The smaller machine: memory, and what each operation does. -/
import Derived.Test.YtagbpjegdfhmpaaAmDef
namespace Go.Proofs.Ytagbpjegdfhmpaa.AM

noncomputable def lget {α : Type} (l : List α) : Nat → Option α :=
  List.rec (motive := fun _ => Nat → Option α) (fun _ => none) (fun a _ ih i => Nat.rec (motive := fun _ => Option α) (some a) (fun j _ => ih j) i) l
theorem lget_eq {α : Type} (l : List α) : ∀ i, lget l i = l[i]? := by
  induction l with
  | nil => intro i; rfl
  | cons a l ih => intro i; cases i with | zero => rfl | succ i => exact ih i
def grd {α : Type} (b : Bool) (x : Option α) : Option α := cond b x none
def osel {α β : Type} (x : Option α) (n : β) (s : α → β) : β := match x with | none => n | some a => s a
theorem grd_some {α : Type} {b : Bool} {x : Option α} {y : α} : grd b x = some y ↔ b = true ∧ x = some y := by cases b <;> simp [grd]
theorem bnd_some {α β : Type} {x : Option α} {f : α → Option β} {y : β} : x.bind f = some y ↔ ∃ a, x = some a ∧ f a = some y := Option.bind_eq_some_iff

def V.ptr? : V → Option (Nat × Nat)
  | .ptr id off => some (id, off)
  | _ => none
theorem V.ptr?_inv {x : V} {p : Nat × Nat} (h : x.ptr? = some p) : x = .ptr p.1 p.2 := by cases x <;> simp [V.ptr?] at h; subst h; rfl
def V.sl? : V → Option (Nat × Nat × Nat × Option Nat)
  | .sl id off len cap => some (id, off, len, cap)
  | _ => none
theorem V.sl?_inv {x : V} {p : Nat × Nat × Nat × Option Nat} (h : x.sl? = some p) : x = .sl p.1 p.2.1 p.2.2.1 p.2.2.2 := by cases x <;> simp [V.sl?] at h; subst h; rfl
def V.str? : V → Option (List UInt8)
  | .str s => some s
  | _ => none
theorem V.str?_inv {x : V} {p : List UInt8} (h : x.str? = some p) : x = .str p := by cases x <;> simp [V.str?] at h; subst h; rfl
def V.agg? : V → Option (List V)
  | .agg s => some s
  | _ => none
theorem V.agg?_inv {x : V} {p : List V} (h : x.agg? = some p) : x = .agg p := by cases x <;> simp [V.agg?] at h; subst h; rfl
/-- A whole number that isn't negative. -/
def V.nat? : V → Option (IntKind × Nat)
  | .int k (.ofNat n) => some (k, n)
  | _ => none
theorem V.nat?_inv {x : V} {p : IntKind × Nat} (h : x.nat? = some p) : x = .int p.1 (p.2 : Int) := by
  unfold V.nat? at h
  split at h
  · injection h with h; subst h; rfl
  · cases h

structure Row where
  cs : List V
  elem : TypeId
  sz : Nat
  frz : Nat
  st : Bool
  ro : Bool
  ex : Bool

inductive O where
  | row (r : Row)
  | map (es : List (V × V × Nat)) (clock : Nat)
  | siter (s : List UInt8) (pos : Nat)
  | miter (map : Option Nat) (since : Nat) (seen : List Nat) (last : Nat)

structure H where
  objs : T O
  next : Nat

noncomputable def H.get (h : H) (id : Nat) : Option O := h.objs.get id
noncomputable def H.set (h : H) (id : Nat) (o : Option O) : H := ⟨h.objs.put id o, h.next⟩
noncomputable def rowOf (h : H) (id : Nat) : Option Row := (h.get id).bind fun | .row r => some r | _ => none

def isAggB (P : Program) (t : TypeId) : Option Bool := (P.underlying t).bind fun | .struct _ | .array _ _ => some true | _ => some false
def szOf (P : Program) (t : TypeId) : Option Nat := (P.info? t).bind fun i => some i.size
def bytesOf' (P : Program) (t : TypeId) : Option Nat := (P.info? t).bind fun i => some i.bytes
def zeroOf (P : Program) (t : TypeId) : Option V := (P.info? t).bind fun i => i.zero.bind ofPlain

def splice (cs : List V) (off : Nat) (vs : List V) : List V := cs.take off ++ (vs ++ cs.drop (off + vs.length))

noncomputable def partA (P : Program) (t : TypeId) (vs : List V) (off : Nat) : Option V :=
  (isAggB P t).bind fun b => cond b ((szOf P t).bind fun n => grd (Nat.ble (off + n) vs.length) (some (.agg ((vs.drop off).take n)))) (lget vs off)
noncomputable def loadAtA (P : Program) (t : TypeId) (a : V) (h : H) : Option V :=
  a.ptr?.bind fun p => (rowOf h p.1).bind fun r => partA P t r.cs p.2
noncomputable def putCells (h : H) (id off : Nat) (vs : List V) : Option H :=
  (rowOf h id).bind fun r => grd (!r.ro && Nat.ble r.frz off && Nat.ble (off + vs.length) r.cs.length && vs.all V.one)
    (some (h.set id (some (.row { r with cs := splice r.cs off vs }))))
noncomputable def storeAtA (P : Program) (t : TypeId) (a v : V) (h : H) : Option H :=
  a.ptr?.bind fun p => (szOf P t).bind fun n => grd (Nat.beq v.cells.length n) (putCells h p.1 p.2 v.cells)
def boxA (t : TypeId) (v : V) (nid : Nat) : V × Row := (.ptr nid 0, ⟨v.cells, t, 1, 0, false, false, true⟩)
noncomputable def fieldAtA (P : Program) (s : TypeId) (x : V) (f : Nat) : Option V :=
  x.ptr?.bind fun p => (P.underlying s).bind fun
  | .struct fs => (fs[f]?).bind fun fd => (szOf P fd.type).bind fun n => grd (!Nat.beq n 0) (some (.ptr p.1 (p.2 + fd.offset)))
  | _ => none
noncomputable def fieldA (P : Program) (s : TypeId) (x : V) (f : Nat) : Option V :=
  x.agg?.bind fun vs => (P.underlying s).bind fun
  | .struct fs => (fs[f]?).bind fun fd => partA P fd.type vs fd.offset
  | _ => none
/-- An index below a length. -/
noncomputable def idx (i : V) (len : Nat) : Option Nat := i.nat?.bind fun n => grd (Nat.blt n.2 len) (some n.2)
noncomputable def indexAtA (P : Program) (t : TypeId) (x i : V) : Option V :=
  (P.underlying t).bind fun
  | .slice el => x.sl?.bind fun p => (idx i p.2.2.1).bind fun n => (szOf P el).bind fun s => some (.ptr p.1 (p.2.1 + n * s))
  | .array len el => x.ptr?.bind fun p => (idx i len).bind fun n => (szOf P el).bind fun s => some (.ptr p.1 (p.2 + n * s))
  | _ => none
noncomputable def indexA (P : Program) (t : TypeId) (x i : V) : Option V :=
  (P.underlying t).bind fun
  | .string => x.str?.bind fun s => (idx i s.length).bind fun n => (lget s n).bind fun b => some (.int .u8 b.toNat)
  | .array len el => x.agg?.bind fun vs => (idx i len).bind fun n => (szOf P el).bind fun s => partA P el vs (n * s)
  | _ => none
/-- A slice's bound: at most 'y', or 'd' where none stands. -/
noncomputable def bnd (x : Option V) (d y : Nat) : Option Nat :=
  osel x (some d) (fun v => v.nat?.bind fun n => grd (Nat.ble n.2 y) (some n.2))
noncomputable def cutA (id off s l h m : Nat) : V := cond (Nat.beq m l) (.sl id off (h - l) (some 0)) (.sl id (off + l * s) (h - l) (some (m - l)))
noncomputable def sliceStrA (x : V) (lo hi mx : Option V) : Option V :=
  grd mx.isNone (x.str?.bind fun s => (bnd hi s.length s.length).bind fun h => (bnd lo 0 h).bind fun l => some (.str ((s.drop l).take (h - l))))
noncomputable def sliceSlA (P : Program) (el : TypeId) (x : V) (lo hi mx : Option V) (q : H) : Option V :=
  x.sl?.bind fun p => (szOf P el).bind fun s =>
    osel mx (osel p.2.2.2 ((rowOf q p.1).bind fun r => (bnd hi p.2.2.1 p.2.2.1).bind fun h => (bnd lo 0 h).bind fun l => grd ((Nat.blt l p.2.2.1 || Nat.beq l 0) && Nat.beq r.sz s) (some (.sl p.1 (p.2.1 + l * s) (h - l) none))) (fun c => (bnd hi p.2.2.1 c).bind fun h => (bnd lo 0 h).bind fun l => some (cutA p.1 p.2.1 s l h c))) (fun m' => (bnd (some m') 0 (p.2.2.2.getD p.2.2.1)).bind fun m => grd hi.isSome ((bnd hi p.2.2.1 m).bind fun h => (bnd lo 0 h).bind fun l => some (cutA p.1 p.2.1 s l h m)))
noncomputable def sliceNilA (x : V) (lo hi mx : Option V) : Option V :=
  match x with
  | .nilsl => grd mx.isNone ((bnd hi 0 0).bind fun h => (bnd lo 0 h).bind fun _ => some .nilsl)
  | _ => none
noncomputable def sliceAtA (P : Program) (t : TypeId) (x : V) (lo hi mx : Option V) (q : H) : Option V :=
  (P.underlying t).bind fun
  | .string => sliceStrA x lo hi mx
  | .slice el => (sliceSlA P el x lo hi mx q).or ((szOf P el).bind fun _ => sliceNilA x lo hi mx)
  | .array n el => grd mx.isNone (x.ptr?.bind fun p => (szOf P el).bind fun s => (bnd hi n n).bind fun h => (bnd lo 0 h).bind fun l => some (cutA p.1 p.2 s l h n))
  | _ => none

/-- A part of a struct or of an array laid over its cells. -/
noncomputable def fillA (place : Nat → Option (Nat × Nat)) (cells : List V) : List (Nat × V) → Option (List V)
  | [] => some cells
  | (i, v) :: rest => (place i).bind fun p => grd (Nat.beq v.cells.length p.2 && Nat.ble (p.1 + p.2) cells.length) (fillA place (splice cells p.1 v.cells) rest)
noncomputable def partsOf (ev : Operand → Option V) : List (Nat × Operand) → Option (List (Nat × V))
  | [] => some []
  | (i, x) :: rest => (ev x).bind fun v => (partsOf ev rest).bind fun vs => some ((i, v) :: vs)
noncomputable def evAll (ev : Operand → Option V) : List Operand → Option (List V)
  | [] => some []
  | x :: rest => (ev x).bind fun v => (evAll ev rest).bind fun vs => some (v :: vs)
noncomputable def placesOf (P : Program) : List Field → Option (List (Nat × Nat))
  | [] => some []
  | f :: fs => (szOf P f.type).bind fun n => (placesOf P fs).bind fun r => some ((f.offset, n) :: r)
noncomputable def buildA (P : Program) (t : TypeId) (parts : List (Nat × V)) : Option V :=
  (zeroOf P t).bind fun z => (P.underlying t).bind fun
  | .struct fs => (placesOf P fs.toList).bind fun ps => (fillA (lget ps) z.cells parts).bind fun cs => some (.agg cs)
  | .array _ el => (szOf P el).bind fun s => (fillA (fun i => some (i * s, s)) z.cells parts).bind fun cs => some (.agg cs)
  | _ => none
def rep (z : List V) : Nat → List V
  | 0 => []
  | n + 1 => z ++ rep z n
noncomputable def buildSliceA (P : Program) (t : TypeId) (len : Nat) (parts : List (Nat × V)) (nid : Nat) : Option (V × Row) :=
  (P.underlying t).bind fun
  | .slice el => (szOf P el).bind fun s => (zeroOf P el).bind fun z => grd (Nat.ble (len * s) 65536 && Nat.beq z.cells.length s && !Nat.beq s 0)
      ((fillA (fun i => some (i * s, s)) (rep z.cells len) parts).bind fun cs => some (.sl nid 0 len (some len), ⟨cs, el, s, 0, false, false, true⟩))
  | _ => none
noncomputable def makeSliceA (P : Program) (t : TypeId) (l c : V) (nid : Nat) : Option (V × Row) :=
  l.nat?.bind fun l => c.nat?.bind fun c => (P.underlying t).bind fun
  | .slice el => (szOf P el).bind fun s => (bytesOf' P el).bind fun by_ => (zeroOf P el).bind fun z =>
          grd (Nat.ble l.2 c.2 && Nat.ble c.2 1048576 && Nat.ble (c.2 * by_) 1048576 && Nat.beq z.cells.length s && !Nat.beq s 0)
            (some (.sl nid 0 l.2 (some c.2), ⟨rep z.cells c.2, el, s, 0, false, false, true⟩))
  | _ => none

/-- The first n elements' cells of a slice or a text. -/
noncomputable def firstA (s : Nat) (n : Nat) (x : V) (h : H) : Option (List V) :=
  match x with
  | .nilsl => some []
  | .str b => some ((b.take n).map fun c => .int .u8 c.toNat)
  | .sl id off _ _ => (rowOf h id).bind fun r => grd (Nat.ble (off + n * s) r.cs.length) (some ((r.cs.drop off).take (n * s)))
  | _ => none
def lenA : V → Option Nat
  | .nilsl => some 0
  | .str b => some b.length
  | .sl _ _ len _ => some len
  | _ => none
/-- append to nil. -/
noncomputable def appNilA (el : TypeId) (k by_ n : Nat) (new : List V) (nid : Nat) (h : H) : Option (V × H) :=
  cond (Nat.beq n 0) (some (.nilsl, h)) (grd (Nat.ble (n * by_) 1099511627776) (some (.sl nid 0 n none, h.set nid (some (.row ⟨new, el, k, 0, false, false, false⟩)))))
/-- append where a new row must be made. -/
noncomputable def appGrowA (el : TypeId) (k by_ : Nat) (s : V) (len n : Nat) (new : List V) (nid : Nat) (h : H) : Option (V × H) :=
  grd (Nat.ble ((len + n) * by_) 1099511627776) ((firstA k len s h).bind fun old => some (.sl nid 0 (len + n) none, h.set nid (some (.row ⟨old ++ new, el, k, 0, false, false, false⟩))))
/-- append in place. -/
noncomputable def appInA (k id off len n : Nat) (cap : Option Nat) (new : List V) (h : H) : Option (V × H) :=
  (putCells h id (off + len * k) new).bind fun h' => some (.sl id off (len + n) cap, h')
/-- append where it isn't known whether there is room: the old row is given up. -/
noncomputable def appMoveA (el : TypeId) (k by_ : Nat) (s : V) (id off len n : Nat) (r : Row) (new : List V) (nid : Nat) (h : H) : Option (V × H) :=
  grd (!r.ro && !r.st && Nat.beq r.sz k && Nat.beq r.elem el && (Nat.beq off 0 || Nat.beq r.frz 0) && Nat.ble r.frz (off + len * k) && Nat.ble ((len + n) * by_) 1099511627776)
    ((firstA k len s h).bind fun old => some (.sl nid 0 (len + n) none, (h.set id none).set nid (some (.row ⟨old ++ new, el, k, r.frz, false, false, false⟩))))
noncomputable def appSlA (el : TypeId) (k by_ : Nat) (s : V) (id off len : Nat) (cap : Option Nat) (n : Nat) (new : List V) (nid : Nat) (h : H) : Option (V × H) :=
  osel cap (cond (Nat.beq n 0) (some (s, h)) ((rowOf h id).bind fun r => cond (Nat.ble (off + (len + n) * k) r.cs.length) (grd (Nat.beq r.sz k) (appInA k id off len n none new h)) (appMoveA el k by_ s id off len n r new nid h))) (fun c => cond (Nat.ble (len + n) c) (appInA k id off len n (some c) new h) (appGrowA el k by_ s len n new nid h))
def zerosA (P : Program) : Option TypeId → Option Bool
  | none => some false
  | some t => (P.underlying t).bind fun | .int _ => some true | _ => some false
/-- What is appended: how many elements, and their cells (zeros: 'append(s, make([]T, n)...)'). -/
noncomputable def newA (zeros : Bool) (k : Nat) (z : V) (x : V) (h : H) : Option (Nat × List V) :=
  cond zeros (x.nat?.bind fun n => grd (Nat.ble n.2 1048576) (some (n.2, rep z.cells n.2))) ((lenA x).bind fun n => (firstA k n x h).bind fun new => some (n, new))
noncomputable def appendA (P : Program) (st : TypeId) (xt : Option TypeId) (s x : V) (nid : Nat) (h : H) : Option (V × H) :=
  (zerosA P xt).bind fun zeros => (P.underlying st).bind fun
  | .slice el => (szOf P el).bind fun k => (bytesOf' P el).bind fun by_ => (zeroOf P el).bind fun z => (newA zeros k z x h).bind fun q =>
      grd (q.2.all V.one && !Nat.beq k 0 && !Nat.beq by_ 0 && Nat.beq z.cells.length k && Nat.beq q.2.length (q.1 * k) && Nat.ble (q.1 * by_) 1099511627776)
      (match s with
      | .nilsl => appNilA el k by_ q.1 q.2 nid h
      | .sl id off len cap => appSlA el k by_ s id off len cap q.1 q.2 nid h
      | _ => none)
  | _ => none
noncomputable def copyA (P : Program) (dt : TypeId) (d x : V) (h : H) : Option (V × H) :=
  (P.underlying dt).bind fun
  | .slice el => (szOf P el).bind fun k => (lenA x).bind fun n => (lenA d).bind fun m =>
      (firstA k (Nat.min n m) x h).bind fun new => (match d with
        | .nilsl => some (.int .i64 (Nat.min n m), h)
        | .sl id off _ _ => (putCells h id off new).bind fun h' => some (.int .i64 (Nat.min n m), h')
        | _ => none)
  | _ => none
end Go.Proofs.Ytagbpjegdfhmpaa.AM
