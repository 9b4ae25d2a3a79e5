/- The smaller machine: operations, regions, calls. -/
import Derived.Test.YtagbpjegdfhmpaaAmOps
set_option linter.unusedVariables false
namespace Go.Proofs.Ytagbpjegdfhmpaa.AM

/-! ### Values without places, for what is left to the model's own text -/
def toCells : List V → Option (List Value)
  | [] => some []
  | .bool b :: vs => (toCells vs).bind fun r => some (.bool b :: r)
  | .int k n :: vs => (toCells vs).bind fun r => some (.int k n :: r)
  | .str s :: vs => (toCells vs).bind fun r => some (.string ⟨s.toArray⟩ :: r)
  | .nilptr :: vs => (toCells vs).bind fun r => some (.pointer none :: r)
  | .nilsl :: vs => (toCells vs).bind fun r => some (.slice none 0 0 :: r)
  | .nilmap :: vs => (toCells vs).bind fun r => some (.map none :: r)
  | .nilif :: vs => (toCells vs).bind fun r => some (.nilIface :: r)
  | _ :: _ => none
def toValue : V → Option Value
  | .bool b => some (.bool b)
  | .int k n => some (.int k n)
  | .str s => some (.string ⟨s.toArray⟩)
  | .nilptr => some (.pointer none)
  | .nilsl => some (.slice none 0 0)
  | .nilmap => some (.map none)
  | .nilif => some .nilIface
  | .agg vs => (toCells vs).bind fun r => some (.agg r.toArray)
  | _ => none
/-- A run that asks nothing of the world. -/
def prun {α : Type} (P : Program) : Sem α → Option α
  | .pure a => some a
  | .program k => prun P (k P)
  | .mark _ k => prun P k
  | _ => none
def plainArgs (ev : Operand → Option V) : List Operand → Option Unit
  | [] => some ()
  | x :: xs => (ev x).bind fun v => (toValue v).bind fun _ => plainArgs ev xs
noncomputable def plainEv (ev : Operand → Option V) (x : Operand) : Value := (((ev x).bind toValue).getD undef)
/-- By the model's own text, where no operand names a place. -/
noncomputable def plainA (P : Program) (ev : Operand → Option V) (o : Oper) : Option V :=
  (plainArgs ev o.op.operands.toList).bind fun _ => (prun P (execOp (plainEv ev) o)).bind fun
  | .value v => ofValue v
  | _ => none

/-! ### Operations that don't look at memory -/
noncomputable def intA (op : BinOp) (k : IntKind) (a b : Int) : Option V :=
  match op with
  | .add => some (.int k (k.wrap (a + b)))
  | .sub => some (.int k (k.wrap (a - b)))
  | .mul => some (.int k (k.wrap (a * b)))
  | .eql => some (.bool (a == b))
  | .neq => some (.bool (a != b))
  | .lss => some (.bool (decide (a < b)))
  | .leq => some (.bool (decide (a ≤ b)))
  | .gtr => some (.bool (decide (a > b)))
  | .geq => some (.bool (decide (a ≥ b)))
  | _ => none
/-- Is it nil? (Of the kinds that can be.) -/
def nz : TypeDesc → V → Option Bool
  | .pointer _, .nilptr => some true
  | .pointer _, .ptr _ _ => some false
  | .slice _, .nilsl => some true
  | .slice _, .sl _ _ _ _ => some false
  | .map _ _, .nilmap => some true
  | .map _ _, .map _ => some false
  | .interface _, .nilif => some true
  | .interface _, .iface _ _ => some false
  | .func _ _ _, .nilfunc => some true
  | .func _ _ _, .func _ _ _ => some false
  | _, _ => none
/-- Something against nil, or a place against itself. -/
noncomputable def nilA (P : Program) (t : TypeId) (x y : V) : Option Bool :=
  (P.underlying t).bind fun d => (nz d x).bind fun a => (nz d y).bind fun b =>
    cond (a && b) (match d with | .interface _ => none | _ => some true)
      (cond (a || b) (some false)
        (match d with
         | .pointer el => x.ptr?.bind fun p => y.ptr?.bind fun q => (szOf P el).bind fun n => grd (!Nat.beq n 0 && Nat.beq p.1 q.1) (some (Nat.beq p.2 q.2))
         | _ => none))
noncomputable def binA (P : Program) (op : BinOp) (t : TypeId) (x y : V) : Option V :=
  match op, x, y with
  | op, .int k a, .int k' b => cond (decide (k = k')) (intA op k a b) none
  | .eql, x, y => (nilA P t x y).bind fun b => some (.bool b)
  | .neq, x, y => (nilA P t x y).bind fun b => some (.bool (!b))
  | _, _, _ => none
noncomputable def convA (P : Program) (s d : TypeId) (x : V) : Option V :=
  (P.underlying s).bind fun sd => (P.underlying d).bind fun dd =>
  match sd, dd, x with
  | _, .int k, .int _ n => some (.int k (k.wrap n))
  | _, .string, .str b => some (.str b)
  | _, _, _ => none
def nilOk : V → Option V
  | .ptr i o => some (.ptr i o)
  | .func (.func f) a b => some (.func (.func f) a b)
  | .iface t v => some (.iface t v)
  | _ => none
def capPureA : V → Option V
  | .nilsl => some (.int .i64 0)
  | .sl _ _ _ (some c) => some (.int .i64 c)
  | _ => none
def lenPureA : V → Option V
  | .nilsl => some (.int .i64 0)
  | .str b => some (.int .i64 b.length)
  | .sl _ _ len _ => some (.int .i64 len)
  | _ => none
def lenOk : TypeDesc → V → Bool
  | .string, .str _ => true
  | .slice _, .nilsl => true
  | .slice _, .sl _ _ _ _ => true
  | _, _ => false
noncomputable def pureA (P : Program) (ev : Operand → Option V) (o : Oper) : Option V :=
  match o.op with
  | .move x => ev x
  | .assign x => ev x
  | .pick c a b => (ev c).bind fun | .bool q => cond q (ev a) (ev b) | _ => none
  | .build t ps => (partsOf ev ps.toList).bind fun vs => buildA P t vs
  | .nilCheck x => (ev x).bind nilOk
  | .binOp op t x y _ => (ev x).bind fun a => (ev y).bind fun b => (binA P op t a b).or (plainA P ev o)
  | .unOp _ _ _ => plainA P ev o
  | .convert s d x => (ev x).bind fun a => (convA P s d a).or (plainA P ev o)
  | .makeInterface t x => (ev x).bind fun v => (P.underlying t).bind fun | .interface _ => none | _ => some (.iface t v)
  | .makeFunc fn first captured => (evAll ev first.toList).bind fun f => (evAll ev captured.toList).bind fun c => some (.func fn f c)
  | .fieldAddr s x f => (ev x).bind fun v => fieldAtA P s v f
  | .field s x f => (ev x).bind fun v => fieldA P s v f
  | .indexAddr t x i => (ev x).bind fun v => (ev i).bind fun j => indexAtA P t v j
  | .index t x i => (ev x).bind fun v => (ev i).bind fun j => indexA P t v j
  | .extract t ix => (ev t).bind fun | .tup vs => lget vs ix | _ => none
  | .typeAssert _ _ _ _ => plainA P ev o
  | .call c => (match c.callee with
      | .builtin .len => (c.args[0]?).bind fun x => (ev x).bind fun a => (c.argTypes[0]?).bind fun t => (P.underlying t).bind fun d => grd (lenOk d a) (lenPureA a)
      | .builtin .cap => (c.args[0]?).bind fun x => (ev x).bind fun a => (c.argTypes[0]?).bind fun t => (P.underlying t).bind fun | .slice _ => capPureA a | _ => none
      | .builtin .min | .builtin .max => plainA P ev o
      | .builtin .unsafeSliceData => (c.args[0]?).bind fun x => (ev x).bind fun v => v.sl?.bind fun p => grd (!Nat.beq (p.2.2.2.getD p.2.2.1) 0 && Nat.beq c.args.size 1) (some (.ptr p.1 p.2.1))
      | _ => none)
  | _ => none

/-! ### Operations that look at memory and leave it -/
noncomputable def optA (ev : Operand → Option V) (x : Option Operand) : Option (Option V) :=
  match x with
  | none => some none
  | some x => (ev x).bind fun v => some (some v)
/-- The bytes of a row as a text. -/
def bytesOfCells : List V → Option (List UInt8)
  | [] => some []
  | .int .u8 n :: vs => (bytesOfCells vs).bind fun r => some (UInt8.ofNat n.toNat :: r)
  | _ :: _ => none
def slLenA : V → Option Nat
  | .nilsl => some 0
  | .sl _ _ len _ => some len
  | _ => none
noncomputable def bytesStrA (P : Program) (s d : TypeId) (v : V) (h : H) : Option V :=
  (P.underlying s).bind fun
  | .slice e => (P.underlying e).bind fun
    | .int .u8 => (P.underlying d).bind fun
      | .string => (slLenA v).bind fun n => (firstA 1 n v h).bind fun cs => (bytesOfCells cs).bind fun bs => some (.str bs)
      | _ => none
    | _ => none
  | _ => none
/-- A pointer to unsafe.Pointer and back. -/
noncomputable def uptrA (P : Program) (s d : TypeId) (v : V) (h : H) : Option V :=
  v.ptr?.bind fun p => (rowOf h p.1).bind fun r => (P.underlying s).bind fun sd => (P.underlying d).bind fun dd =>
  match sd, dd with
  | .pointer t, .unsafePointer => (szOf P t).bind fun n => grd (!Nat.beq n 0 && Nat.blt p.2 r.cs.length) (some v)
  | .unsafePointer, .pointer u => (szOf P u).bind fun n => grd (r.ex && liesAt P P.depth r.elem (r.cs.length / P.cellsOf r.elem) p.2 u 1) (some v)
  | _, _ => none
noncomputable def loadA (P : Program) (ev : Operand → Option V) (o : Oper) (h : H) : Option V :=
  match o.op with
  | .load t a => (ev a).bind fun v => loadAtA P t v h
  | .slice t x lo hi mx => (ev x).bind fun v => (optA ev lo).bind fun l => (optA ev hi).bind fun u => (optA ev mx).bind fun c => sliceAtA P t v l u c h
  | .convert s d x => (ev x).bind fun v => (bytesStrA P s d v h).or (uptrA P s d v h)
  | _ => none

/-! ### Operations that make a row -/
noncomputable def strBytesA (P : Program) (s d : TypeId) (v : V) (nid : Nat) : Option (V × Row) :=
  v.str?.bind fun b => (P.underlying s).bind fun _ => (P.underlying d).bind fun
  | .slice e => (P.underlying e).bind fun
    | .int .u8 => grd (Nat.ble b.length 1048576) (some (.sl nid 0 b.length none, ⟨b.map fun c => .int .u8 c.toNat, e, 1, 0, true, false, false⟩))
    | _ => none
  | _ => none
noncomputable def allocA (P : Program) (ev : Operand → Option V) (o : Oper) (nid : Nat) : Option (V × Row) :=
  match o.op with
  | .alloc t => (zeroOf P t).bind fun z => some (boxA t z nid)
  | .box t x => (ev x).bind fun v => some (boxA t v nid)
  | .buildSlice t len ps => (partsOf ev ps.toList).bind fun vs => buildSliceA P t len vs nid
  | .makeSlice t l c => (ev l).bind fun l => (ev c).bind fun c => makeSliceA P t l c nid
  | .convert s d x => (ev x).bind fun v => strBytesA P s d v nid
  | _ => none

/-! ### Operations that change memory, but calls of functions -/
noncomputable def clearA (P : Program) (t : TypeId) (s : V) (h : H) : Option (V × H) :=
  (P.underlying t).bind fun
  | .slice el => (zeroOf P el).bind fun z => (match s with
      | .nilsl => some (.tup [], h)
      | .sl id off len _ => (putCells h id off (rep z.cells len)).bind fun h' => grd (!Nat.beq len 0 && !Nat.beq z.cells.length 0) (some (.tup [], h'))
      | _ => none)
  | _ => none
noncomputable def markA (P : Program) (s d : TypeId) (x : V) (h : H) : Option (V × H) :=
  x.sl?.bind fun p => (rowOf h p.1).bind fun r => (P.underlying s).bind fun
  | .slice _ => (P.underlying d).bind fun
    | .slice e => (P.underlying e).bind fun
      | .int .u8 => grd (Nat.beq s d && !r.st && Nat.beq r.frz 0 && !r.ro) (some (x, h.set p.1 (some (.row { r with st := true }))))
      | _ => none
    | _ => none
  | _ => none
noncomputable def unsafeStrA (P : Program) (pt : TypeId) (a n : V) (h : H) : Option (V × H) :=
  a.ptr?.bind fun p => n.nat?.bind fun n => (rowOf h p.1).bind fun r => (P.underlying pt).bind fun
  | .pointer e => grd (Nat.beq p.2 0 && !Nat.beq n.2 0 && !r.st && !r.ro && Nat.ble n.2 r.cs.length && Nat.ble n.2 1048576 && Nat.beq (P.cellsOf r.elem) 1 && sameLayout P P.depth r.elem e)
      ((bytesOfCells (r.cs.take n.2)).bind fun bs => some (.str bs, h.set p.1 (some (.row { r with frz := Nat.max r.frz n.2 }))))
  | _ => none
noncomputable def arg2 (ev : Operand → Option V) (c : Call) : Option (V × V) :=
  grd (Nat.beq c.args.size 2) ((c.args[0]?).bind fun x => (c.args[1]?).bind fun y => (ev x).bind fun a => (ev y).bind fun b => some (a, b))
noncomputable def loudB (P : Program) (ev : Operand → Option V) (c : Call) (b : Builtin) (nid : Nat) (h : H) : Option (V × H) :=
  match b with
  | .append => (arg2 ev c).bind fun p => (c.argTypes[0]?).bind fun st => appendA P st (c.argTypes[1]?) p.1 p.2 nid h
  | .copy => (arg2 ev c).bind fun p => (c.argTypes[0]?).bind fun dt => copyA P dt p.1 p.2 h
  | .clear => grd (Nat.beq c.args.size 1) ((c.args[0]?).bind fun x => (ev x).bind fun s => (c.argTypes[0]?).bind fun t => clearA P t s h)
  | .unsafeString => (arg2 ev c).bind fun p => (c.argTypes[0]?).bind fun pt => unsafeStrA P pt p.1 p.2 h
  | _ => none
noncomputable def loudA (P : Program) (ev : Operand → Option V) (o : Oper) (nid : Nat) (h : H) : Option (V × H) :=
  match o.op with
  | .store t a x => (ev a).bind fun a => (ev x).bind fun v => (storeAtA P t a v h).bind fun h' => some (.undef, h')
  | .convert s d x => (ev x).bind fun v => markA P s d v h
  | .call c => (match c.callee with
      | .builtin b => loudB P ev c b nid h
      | _ => none)
  | _ => none

/-- A call of a function: which, and with what. -/
noncomputable def calleeA (ev : Operand → Option V) (o : Oper) : Option (FuncId × List V) :=
  match o.op with
  | .call c => (match c.callee with
      | .value f => (ev f).bind fun
          | .func (.func g) first captured => (evAll ev c.args.toList).bind fun as => some (g, first ++ as ++ captured)
          | _ => none
      | _ => none)
  | _ => none

inductive Ek where
  | noEscape
  | plain (f : Array Value → Sem Value)
def plainVals : List V → Option (List Value)
  | [] => some []
  | v :: vs => (toValue v).bind fun x => (plainVals vs).bind fun r => some (x :: r)
noncomputable def extA (P : Program) (e : Ek) (args : List V) : Option V :=
  match e with
  | .noEscape => (match args with | [x] => some x | _ => none)
  | .plain f => (plainVals args).bind fun vs => (prun P (f vs.toArray)).bind ofValue

structure Cfg where
  P : Program
  ext : List (Nat × Ek)

inductive X where
  | norm
  | exit (id : Nat)
  | ret

structure S where
  env : T V
  n : Nat
  h : H

noncomputable def evT (P : Program) (env : T V) : Operand → Option V
  | .tmp t => env.get t
  | .const v => ofValue v
  | .global g => grd (Nat.blt g P.globals.size) (some (.ptr g 0))
  | .func f => some (.func (.func f) [] [])
noncomputable def putT (env : T V) (n : Nat) (dst : Option Tmp) (v : V) : T V :=
  osel dst env fun d => cond (Nat.blt d n) (env.put d (some v)) env
def H.bump (h : H) (n : Nat) : H := ⟨h.objs, h.next + n⟩
noncomputable def wantA (dsts : Nat → Option Tmp) (env : T V) (o : Oper) : Option Bool :=
  osel o.guard (some true) fun g => (dsts g.1).bind fun t => (env.get t).bind fun | .bool q => some (q == g.2) | .undef => some false | _ => none

noncomputable def getExt : List (Nat × Ek) → Nat → Option Ek
  | [], _ => none
  | (i, e) :: r, f => cond (Nat.beq i f) (some e) (getExt r f)

inductive Kd where
  | pure | load | alloc | loud | call
/-- What kind of operation it is. -/
noncomputable def kindOf (P : Program) (o : Oper) : Kd :=
  match o.op with
  | .alloc _ | .box _ _ | .buildSlice _ _ _ | .makeSlice _ _ _ => .alloc
  | .load _ _ | .slice _ _ _ _ _ => .load
  | .store _ _ _ => .loud
  | .convert s d _ => (match P.underlying s, P.underlying d with
      | some (.slice _), some .string => .load
      | some .string, some (.slice _) => .alloc
      | some (.slice _), some (.slice _) => .loud
      | some (.pointer _), some .unsafePointer => .load
      | some .unsafePointer, some (.pointer _) => .load
      | _, _ => .pure)
  | .call c => (match c.callee with
      | .value _ => .call
      | .builtin .len | .builtin .cap | .builtin .min | .builtin .max | .builtin .unsafeSliceData => .pure
      | _ => .loud)
  | _ => .pure
/-- An operation that changes memory: what it gives, and memory behind it. -/
noncomputable def heavyA (P : Program) (call : FuncId → List V → H → Option (V × H)) (ev : Operand → Option V) (k : Kd) (o : Oper) (nid : Nat) (h : H) : Option (V × H) :=
  match k with
  | .loud => loudA P ev o nid h
  | .call => (calleeA ev o).bind fun c => call c.1 c.2 h
  | _ => none
/-- One operation, in the order of the text. -/
noncomputable def stepA (P : Program) (call : FuncId → List V → H → Option (V × H)) (o : Oper) (s : S) : Option S :=
  match kindOf P o with
  | .pure => (pureA P (evT P s.env) o).bind fun v => some ⟨putT s.env s.n o.dst v, s.n, s.h⟩
  | .load => (loadA P (evT P s.env) o s.h).bind fun v => some ⟨putT s.env s.n o.dst v, s.n, s.h⟩
  | .alloc => (allocA P (evT P s.env) o s.h.next).bind fun r => some ⟨putT s.env s.n o.dst r.1, s.n, (s.h.bump 1).set s.h.next (some (.row r.2))⟩
  | k => (heavyA P call (evT P s.env) k o s.h.next (s.h.bump 1)).bind fun r => some ⟨putT s.env s.n o.dst r.1, s.n, r.2⟩
noncomputable def opsA (P : Program) (call : FuncId → List V → H → Option (V × H)) (dsts : Nat → Option Tmp) : List Oper → S → Option S
  | [], s => some s
  | o :: os, s => (wantA dsts s.env o).bind fun b => (cond b (stepA P call o s) (some ⟨putT s.env s.n o.dst .undef, s.n, s.h⟩)).bind fun s' => opsA P call dsts os s'
noncomputable def dstOf (ops : Array Oper) (i : Nat) : Option Tmp := (ops[i]?).bind (·.dst)

/-! ### Regions whose order is open -/
def same1 : V → V → Bool
  | .bool a, .bool b => a == b
  | .int k a, .int l b => decide (k = l) && decide (a = b)
  | .str a, .str b => decide (a = b)
  | .ptr i a, .ptr j b => Nat.beq i j && Nat.beq a b
  | .nilptr, .nilptr => true
  | .sl i a l c, .sl j b q d => Nat.beq i j && Nat.beq a b && Nat.beq l q && decide (c = d)
  | .nilsl, .nilsl => true
  | .map i, .map j => Nat.beq i j
  | .nilmap, .nilmap => true
  | .nilif, .nilif => true
  | .nilfunc, .nilfunc => true
  | _, _ => false
def sameL : List V → List V → Bool
  | [], [] => true
  | a :: as, b :: bs => same1 a b && sameL as bs
  | _, _ => false
def sameV : V → V → Bool
  | .agg a, .agg b => sameL a b
  | a, b => same1 a b
/-- Which operations an operation waits for, as bits. -/
noncomputable def ancOf (masks : List Nat) : List Edge → Nat
  | [] => 0
  | e :: es => cond (Region.binds .any e) ((2 ^ e.on) ||| ((lget masks e.on).getD 0 ||| ancOf masks es)) (ancOf masks es)
noncomputable def masksOf : List Oper → List Nat → List Nat
  | [], acc => acc
  | o :: os, acc => masksOf os (acc ++ [ancOf acc o.after.toList])
def isHeavy : Kd → Bool
  | .loud | .call => true
  | _ => false
/-- May two operations come in either order (the one of the first kind stands first in the text)? -/
def pairOK : Kd → Kd → Bool
  | .pure, _ | _, .pure => true
  | .load, _ => true
  | .alloc, k => !isHeavy k
  | _, k => !isHeavy k
noncomputable def laterOK (P : Program) (ops : Array Oper) (i : Nat) (oi : Oper) (ki : Kd) : Nat → List Oper → List Nat → Bool
  | j, o :: os, mk :: ms => (Nat.testBit mk i || (pairOK ki (kindOf P o) && oi.apart ops o)) && laterOK P ops i oi ki (j + 1) os ms
  | _, [], _ => true
  | _, _, [] => false
noncomputable def allOK (P : Program) (ops : Array Oper) : Nat → List Oper → List Nat → Bool
  | i, o :: os, mk :: ms => o.after.all (fun e => !Region.binds .any e || Nat.blt e.on i) && laterOK P ops i o (kindOf P o) (i + 1) os ms && allOK P ops (i + 1) os ms
  | _, [], _ => true
  | _, _, [] => false
noncomputable def regOK (P : Program) (ops : Array Oper) : Bool := Region.noSelect ops && allOK P ops 0 ops.toList (masksOf ops.toList [])
/-- A load again, in the memories that it may meet besides. -/
noncomputable def backOK (ld : H → Option V) (v : V) (mk : Nat) : List (Nat × H) → Bool
  | [] => true
  | (l, hp) :: r => (Nat.testBit mk l || osel (ld hp) false (sameV v)) && backOK ld v mk r
noncomputable def againOK (h : H) (mk : Nat) : List (Nat × (H → Option V) × V) → Bool
  | [] => true
  | (i, ld, v) :: r => (Nat.testBit mk i || osel (ld h) false (sameV v)) && againOK h mk r
structure D where
  env : T V
  h : H
  hb : H
  bs : List (Nat × H)
  ws : List (Nat × (H → Option V) × V)
noncomputable def stepD (P : Program) (call : FuncId → List V → H → Option (V × H)) (n base i mk : Nat) (o : Oper) (d : D) : Option D :=
  match kindOf P o with
  | .pure => (pureA P (evT P d.env) o).bind fun v => some { d with env := putT d.env n o.dst v }
  | .load => (loadA P (evT P d.env) o d.hb).bind fun v => grd (backOK (loadA P (evT P d.env) o) v mk d.bs) (some { d with env := putT d.env n o.dst v, ws := (i, loadA P (evT P d.env) o, v) :: d.ws })
  | .alloc => (allocA P (evT P d.env) o (base + i)).bind fun r => some { d with env := putT d.env n o.dst r.1, h := d.h.set (base + i) (some (.row r.2)) }
  | k => (heavyA P call (evT P d.env) k o (base + i) d.h).bind fun r => grd (againOK r.2 mk d.ws) (some ⟨putT d.env n o.dst r.1, r.2, r.2, (i, d.hb) :: d.bs, d.ws⟩)
noncomputable def opsD (P : Program) (call : FuncId → List V → H → Option (V × H)) (dsts : Nat → Option Tmp) (n base : Nat) : Nat → List Oper → List Nat → D → Option D
  | i, o :: os, mk :: ms, d => (wantA dsts d.env o).bind fun b => (cond b (stepD P call n base i mk o d) (some { d with env := putT d.env n o.dst .undef })).bind fun d' => opsD P call dsts n base (i + 1) os ms d'
  | _, [], _, d => some d
  | _, _, [], _ => none
noncomputable def drawA (P : Program) (call : FuncId → List V → H → Option (V × H)) (ops : Array Oper) (s : S) : Option S :=
  grd (regOK P ops) ((opsD P call (dstOf ops) s.n s.h.next 0 ops.toList (masksOf ops.toList []) ⟨s.env, s.h.bump ops.size, s.h.bump ops.size, [], []⟩).bind fun d => some ⟨d.env, s.n, d.h⟩)

noncomputable def resultsA (P : Program) (env : T V) (h : H) : List ResultVar → Option (List V)
  | [] => some []
  | .tmp t :: rs => (env.get t).bind fun v => (resultsA P env h rs).bind fun vs => some (v :: vs)
  | .cell a t :: rs => (env.get a).bind fun p => (loadAtA P t p h).bind fun v => (resultsA P env h rs).bind fun vs => some (v :: vs)
def oneOf : List V → V
  | [v] => v
  | vs => .tup vs
noncomputable def putArgs : List V → Nat → T V → T V
  | [], _, e => e
  | v :: vs, i, e => putArgs vs (i + 1) (e.put i (some v))
noncomputable def undefs : Nat → Nat → T V → T V
  | 0, _, e => e
  | k + 1, i, e => undefs k (i + 1) (e.put i (some .undef))

mutual
noncomputable def codeA (C : Cfg) : Nat → Code → S → Option (X × S)
  | 0, _, _ => none
  | f + 1, c, s =>
    match c with
    | .skip | .label _ => some (.norm, s)
    | .ret => some (.ret, s)
    | .exit id => some (.exit id, s)
    | .seq a b => (codeA C f a s).bind fun
        | (.norm, s') => codeA C f b s'
        | r => some r
    | .cond x a b => (evT C.P s.env x).bind fun
        | .bool q => cond q (codeA C f a s) (codeA C f b s)
        | _ => none
    | .block id c => (codeA C f c s).bind fun
        | (.exit i, s') => some (cond (Nat.beq i id) .norm (.exit i), s')
        | r => some r
    | .loop c => (codeA C f c s).bind fun
        | (.norm, s') => codeA C f (.loop c) s'
        | r => some r
    | .scope c => codeA C f c s
    | .region _ ops draw => (cond draw (drawA C.P (callA C f) ops s) (opsA C.P (callA C f) (dstOf ops) ops.toList s)).bind fun s' => some (.norm, s')
    | _ => none
noncomputable def callA (C : Cfg) : Nat → FuncId → List V → H → Option (V × H)
  | 0, _, _, _ => none
  | f + 1, g, args, h =>
    osel (getExt C.ext g)
      ((C.P.funcs[g]?).bind fun fn => fn.body.bind fun c =>
        (codeA C f c ⟨putArgs args 0 .lf, args.length + (fn.ntmps - args.length), h⟩).bind fun
        | (.exit _, _) => none
        | (_, s) => (resultsA C.P s.env s.h fn.results.toList).bind fun vs => some (oneOf vs, s.h))
      (fun e => (extA C.P e args).bind fun v => some (v, h))
end
end Go.Proofs.Ytagbpjegdfhmpaa.AM
