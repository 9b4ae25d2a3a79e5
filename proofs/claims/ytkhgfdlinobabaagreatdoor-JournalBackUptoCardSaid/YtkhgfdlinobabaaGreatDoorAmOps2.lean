/- The smaller machine: operations, regions, calls. -/
import Derived.Test.YtkhgfdlinobabaaGreatDoorAmSound
set_option linter.unusedSimpArgs false
set_option linter.unusedVariables false
namespace Go.Proofs.YtkhgfdlinobabaaGreatDoor.AM

/-! ### Values without places, for what is left to the model's own text -/
def toCells : List V → Option (List Value)
  | [] => some []
  | .bool b :: vs => (toCells vs).bind fun r => some (.bool b :: r)
  | .int k n :: vs => (toCells vs).bind fun r => some (.int k n :: r)
  | .str s :: vs => (toCells vs).bind fun r => some (.string ⟨s.toArray⟩ :: r)
  | .nilptr :: vs => (toCells vs).bind fun r => some (.pointer none :: r)
  | .nilsl :: vs => (toCells vs).bind fun r => some (.slice none 0 0 :: r)
  | .nilmap :: vs => (toCells vs).bind fun r => some (.map none :: r)
  | .nilif :: vs => (toCells vs).bind fun r => some (.nilIface :: r)
  | _ :: _ => none
def toValue : V → Option Value
  | .bool b => some (.bool b)
  | .int k n => some (.int k n)
  | .str s => some (.string ⟨s.toArray⟩)
  | .nilptr => some (.pointer none)
  | .nilsl => some (.slice none 0 0)
  | .nilmap => some (.map none)
  | .nilif => some .nilIface
  | .agg vs => (toCells vs).bind fun r => some (.agg r.toArray)
  | _ => none
/-- A run that asks nothing of the world. -/
def prun {α : Type} (P : Program) : Sem α → Option α
  | .pure a => some a
  | .program k => prun P (k P)
  | .mark _ k => prun P k
  | _ => none
def plainArgs (ev : Operand → Option V) : List Operand → Option Unit
  | [] => some ()
  | x :: xs => (ev x).bind fun v => (toValue v).bind fun _ => plainArgs ev xs
noncomputable def plainEv (ev : Operand → Option V) (x : Operand) : Value := (((ev x).bind toValue).getD undef)
/-- By the model's own text, where no operand names a place. -/
noncomputable def plainA (P : Program) (ev : Operand → Option V) (o : Oper) : Option V :=
  (plainArgs ev o.op.operands.toList).bind fun _ => (prun P (execOp (plainEv ev) o)).bind fun
  | .value v => ofValue v
  | _ => none

/-! ### Operations that don't look at memory -/
noncomputable def intA (op : BinOp) (k : IntKind) (a b : Int) : Option V :=
  match op with
  | .add => some (.int k (k.wrap (a + b)))
  | .sub => some (.int k (k.wrap (a - b)))
  | .mul => some (.int k (k.wrap (a * b)))
  | .eql => some (.bool (a == b))
  | .neq => some (.bool (a != b))
  | .lss => some (.bool (decide (a < b)))
  | .leq => some (.bool (decide (a ≤ b)))
  | .gtr => some (.bool (decide (a > b)))
  | .geq => some (.bool (decide (a ≥ b)))
  | _ => none
/-- Is it nil? (Of the kinds that can be.) -/
def nz : TypeDesc → V → Option Bool
  | .pointer _, .nilptr => some true
  | .pointer _, .ptr _ _ => some false
  | .slice _, .nilsl => some true
  | .slice _, .sl _ _ _ _ => some false
  | .map _ _, .nilmap => some true
  | .map _ _, .map _ => some false
  | .interface _, .nilif => some true
  | .interface _, .iface _ _ => some false
  | .func _ _ _, .nilfunc => some true
  | .func _ _ _, .func _ _ _ => some false
  | _, _ => none
/-- Something against nil, or a place against itself. -/
noncomputable def nilA (P : Program) (t : TypeId) (x y : V) : Option Bool :=
  (P.underlying t).bind fun d => (nz d x).bind fun a => (nz d y).bind fun b =>
    cond (a && b) (match d with | .interface _ => none | _ => some true)
      (cond (a || b) (some false)
        (match d with
         | .pointer el => x.ptr?.bind fun p => y.ptr?.bind fun q => (szOf P el).bind fun n => grd (!Nat.beq n 0 && Nat.beq p.1 q.1) (some (Nat.beq p.2 q.2))
         | _ => none))
noncomputable def binA (P : Program) (op : BinOp) (t : TypeId) (x y : V) : Option V :=
  match op, x, y with
  | op, .int k a, .int k' b => cond (decide (k = k')) (intA op k a b) none
  | .eql, x, y => (nilA P t x y).bind fun b => some (.bool b)
  | .neq, x, y => (nilA P t x y).bind fun b => some (.bool (!b))
  | _, _, _ => none
noncomputable def convA (P : Program) (s d : TypeId) (x : V) : Option V :=
  (P.underlying s).bind fun sd => (P.underlying d).bind fun dd =>
  match sd, dd, x with
  | _, .int k, .int _ n => some (.int k (k.wrap n))
  | _, .string, .str b => some (.str b)
  | _, _, _ => none
def nilOk : V → Option V
  | .ptr i o => some (.ptr i o)
  | .func (.func f) a b => some (.func (.func f) a b)
  | .iface t v => some (.iface t v)
  | _ => none
def capPureA : V → Option V
  | .nilsl => some (.int .i64 0)
  | .sl _ _ _ (some c) => some (.int .i64 c)
  | _ => none
def lenPureA : V → Option V
  | .nilsl => some (.int .i64 0)
  | .str b => some (.int .i64 b.length)
  | .sl _ _ len _ => some (.int .i64 len)
  | _ => none
def lenOk : TypeDesc → V → Bool
  | .string, .str _ => true
  | .slice _, .nilsl => true
  | .slice _, .sl _ _ _ _ => true
  | _, _ => false
noncomputable def pureA (P : Program) (ev : Operand → Option V) (o : Oper) : Option V :=
  match o.op with
  | .move x => ev x
  | .assign x => ev x
  | .pick c a b => (ev c).bind fun | .bool q => cond q (ev a) (ev b) | _ => none
  | .build t ps => (partsOf ev ps.toList).bind fun vs => buildA P t vs
  | .nilCheck x => (ev x).bind nilOk
  | .binOp op t x y _ => (ev x).bind fun a => (ev y).bind fun b => (binA P op t a b).or (plainA P ev o)
  | .unOp _ _ _ => plainA P ev o
  | .convert s d x => (ev x).bind fun a => (convA P s d a).or (plainA P ev o)
  | .makeInterface t x => (ev x).bind fun v => (P.underlying t).bind fun | .interface _ => none | _ => some (.iface t v)
  | .makeFunc fn first captured => (evAll ev first.toList).bind fun f => (evAll ev captured.toList).bind fun c => some (.func fn f c)
  | .fieldAddr s x f => (ev x).bind fun v => fieldAtA P s v f
  | .field s x f => (ev x).bind fun v => fieldA P s v f
  | .indexAddr t x i => (ev x).bind fun v => (ev i).bind fun j => indexAtA P t v j
  | .index t x i => (ev x).bind fun v => (ev i).bind fun j => indexA P t v j
  | .extract t ix => (ev t).bind fun | .tup vs => lget vs ix | _ => none
  | .typeAssert _ _ _ _ => plainA P ev o
  | .call c => (match c.callee with
      | .builtin .len => (c.args[0]?).bind fun x => (ev x).bind fun a => (c.argTypes[0]?).bind fun t => (P.underlying t).bind fun d => grd (lenOk d a) (lenPureA a)
      | .builtin .cap => (c.args[0]?).bind fun x => (ev x).bind fun a => (c.argTypes[0]?).bind fun t => (P.underlying t).bind fun | .slice _ => capPureA a | _ => none
      | .builtin .min | .builtin .max => plainA P ev o
      | .builtin .unsafeSliceData => (c.args[0]?).bind fun x => (ev x).bind fun v => v.sl?.bind fun p => grd (!Nat.beq (p.2.2.2.getD p.2.2.1) 0 && Nat.beq c.args.size 1) (some (.ptr p.1 p.2.1))
      | _ => none)
  | _ => none

/-! ### Operations that look at memory and leave it -/
noncomputable def optA (ev : Operand → Option V) (x : Option Operand) : Option (Option V) :=
  match x with
  | none => some none
  | some x => (ev x).bind fun v => some (some v)
/-- The bytes of a row as a text. -/
def bytesOfCells : List V → Option (List UInt8)
  | [] => some []
  | .int .u8 n :: vs => (bytesOfCells vs).bind fun r => some (UInt8.ofNat n.toNat :: r)
  | _ :: _ => none
def slLenA : V → Option Nat
  | .nilsl => some 0
  | .sl _ _ len _ => some len
  | _ => none
noncomputable def bytesStrA (P : Program) (s d : TypeId) (v : V) (h : H) : Option V :=
  (P.underlying s).bind fun
  | .slice e => (P.underlying e).bind fun
    | .int .u8 => (P.underlying d).bind fun
      | .string => (slLenA v).bind fun n => (firstA 1 n v h).bind fun cs => (bytesOfCells cs).bind fun bs => some (.str bs)
      | _ => none
    | _ => none
  | _ => none
/-- A pointer to one without a kind and back. -/
noncomputable def uptrA (P : Program) (s d : TypeId) (v : V) (h : H) : Option V :=
  v.ptr?.bind fun p => (rowOf h p.1).bind fun r => (P.underlying s).bind fun sd => (P.underlying d).bind fun dd =>
  match sd, dd with
  | .pointer t, .unsafePointer => (szOf P t).bind fun n => grd (!Nat.beq n 0 && Nat.blt p.2 r.cs.length) (some v)
  | .unsafePointer, .pointer u => (szOf P u).bind fun n => grd (r.ex && liesAt P P.depth r.elem (r.cs.length / P.cellsOf r.elem) p.2 u 1) (some v)
  | _, _ => none
noncomputable def loadA (P : Program) (ev : Operand → Option V) (o : Oper) (h : H) : Option V :=
  match o.op with
  | .load t a => (ev a).bind fun v => loadAtA P t v h
  | .slice t x lo hi mx => (ev x).bind fun v => (optA ev lo).bind fun l => (optA ev hi).bind fun u => (optA ev mx).bind fun c => sliceAtA P t v l u c h
  | .convert s d x => (ev x).bind fun v => (bytesStrA P s d v h).or (uptrA P s d v h)
  | _ => none

/-! ### Operations that make a row -/
noncomputable def strBytesA (P : Program) (s d : TypeId) (v : V) (nid : Nat) : Option (V × Row) :=
  v.str?.bind fun b => (P.underlying s).bind fun _ => (P.underlying d).bind fun
  | .slice e => (P.underlying e).bind fun
    | .int .u8 => grd (Nat.ble b.length 1048576) (some (.sl nid 0 b.length none, ⟨b.map fun c => .int .u8 c.toNat, e, 1, 0, true, false, false⟩))
    | _ => none
  | _ => none
noncomputable def allocA (P : Program) (ev : Operand → Option V) (o : Oper) (nid : Nat) : Option (V × Row) :=
  match o.op with
  | .alloc t => (zeroOf P t).bind fun z => some (boxA t z nid)
  | .box t x => (ev x).bind fun v => some (boxA t v nid)
  | .buildSlice t len ps => (partsOf ev ps.toList).bind fun vs => buildSliceA P t len vs nid
  | .makeSlice t l c => (ev l).bind fun l => (ev c).bind fun c => makeSliceA P t l c nid
  | .convert s d x => (ev x).bind fun v => strBytesA P s d v nid
  | _ => none

/-! ### Operations that change memory, but calls of functions -/
noncomputable def clearA (P : Program) (t : TypeId) (s : V) (h : H) : Option (V × H) :=
  (P.underlying t).bind fun
  | .slice el => (zeroOf P el).bind fun z => (match s with
      | .nilsl => some (.tup [], h)
      | .sl id off len _ => (putCells h id off (rep z.cells len)).bind fun h' => grd (!Nat.beq len 0 && !Nat.beq z.cells.length 0) (some (.tup [], h'))
      | _ => none)
  | _ => none
noncomputable def markA (P : Program) (s d : TypeId) (x : V) (h : H) : Option (V × H) :=
  x.sl?.bind fun p => (rowOf h p.1).bind fun r => (P.underlying s).bind fun
  | .slice _ => (P.underlying d).bind fun
    | .slice e => (P.underlying e).bind fun
      | .int .u8 => grd (Nat.beq s d && !r.st && Nat.beq r.frz 0 && !r.ro) (some (x, h.set p.1 (some (.row { r with st := true }))))
      | _ => none
    | _ => none
  | _ => none
noncomputable def unsafeStrA (P : Program) (pt : TypeId) (a n : V) (h : H) : Option (V × H) :=
  a.ptr?.bind fun p => n.nat?.bind fun n => (rowOf h p.1).bind fun r => (P.underlying pt).bind fun
  | .pointer e => grd (Nat.beq p.2 0 && !Nat.beq n.2 0 && !r.st && !r.ro && Nat.ble n.2 r.cs.length && Nat.ble n.2 1048576 && Nat.beq (P.cellsOf r.elem) 1 && sameLayout P P.depth r.elem e)
      ((bytesOfCells (r.cs.take n.2)).bind fun bs => some (.str bs, h.set p.1 (some (.row { r with frz := Nat.max r.frz n.2 }))))
  | _ => none
noncomputable def arg2 (ev : Operand → Option V) (c : Call) : Option (V × V) :=
  grd (Nat.beq c.args.size 2) ((c.args[0]?).bind fun x => (c.args[1]?).bind fun y => (ev x).bind fun a => (ev y).bind fun b => some (a, b))
noncomputable def loudB (P : Program) (ev : Operand → Option V) (c : Call) (b : Builtin) (nid : Nat) (h : H) : Option (V × H) :=
  match b with
  | .append => (arg2 ev c).bind fun p => (c.argTypes[0]?).bind fun st => appendA P st (c.argTypes[1]?) p.1 p.2 nid h
  | .copy => (arg2 ev c).bind fun p => (c.argTypes[0]?).bind fun dt => copyA P dt p.1 p.2 h
  | .clear => grd (Nat.beq c.args.size 1) ((c.args[0]?).bind fun x => (ev x).bind fun s => (c.argTypes[0]?).bind fun t => clearA P t s h)
  | .unsafeString => (arg2 ev c).bind fun p => (c.argTypes[0]?).bind fun pt => unsafeStrA P pt p.1 p.2 h
  | _ => none
noncomputable def loudA (P : Program) (ev : Operand → Option V) (o : Oper) (nid : Nat) (h : H) : Option (V × H) :=
  match o.op with
  | .store t a x => (ev a).bind fun a => (ev x).bind fun v => (storeAtA P t a v h).bind fun h' => some (.undef, h')
  | .convert s d x => (ev x).bind fun v => markA P s d v h
  | .call c => (match c.callee with
      | .builtin b => loudB P ev c b nid h
      | _ => none)
  | _ => none

/-- A call of a function: which, and with what. -/
noncomputable def calleeA (ev : Operand → Option V) (o : Oper) : Option (FuncId × List V) :=
  match o.op with
  | .call c => (match c.callee with
      | .value f => (ev f).bind fun
          | .func (.func g) first captured => (evAll ev c.args.toList).bind fun as => some (g, first ++ as ++ captured)
          | _ => none
      | _ => none)
  | _ => none

inductive Ek where
  | noEscape
  | plain (f : Array Value → Sem Value)
def plainVals : List V → Option (List Value)
  | [] => some []
  | v :: vs => (toValue v).bind fun x => (plainVals vs).bind fun r => some (x :: r)
noncomputable def extA (P : Program) (e : Ek) (args : List V) : Option V :=
  match e with
  | .noEscape => (match args with | [x] => some x | _ => none)
  | .plain f => (plainVals args).bind fun vs => (prun P (f vs.toArray)).bind ofValue

structure Cfg where
  P : Program
  ext : List (Nat × Ek)

inductive X where
  | norm
  | exit (id : Nat)
  | ret

structure S where
  env : T V
  n : Nat
  h : H

noncomputable def evT (P : Program) (env : T V) : Operand → Option V
  | .tmp t => env.get t
  | .const v => ofValue v
  | .global g => grd (Nat.blt g P.globals.size) (some (.ptr g 0))
  | .func f => some (.func (.func f) [] [])
noncomputable def putT (env : T V) (n : Nat) (dst : Option Tmp) (v : V) : T V :=
  osel dst env fun d => cond (Nat.blt d n) (env.put d (some v)) env
def H.bump (h : H) (n : Nat) : H := ⟨h.objs, h.next + n⟩
noncomputable def wantA (dsts : Nat → Option Tmp) (env : T V) (o : Oper) : Option Bool :=
  osel o.guard (some true) fun g => (dsts g.1).bind fun t => (env.get t).bind fun | .bool q => some (q == g.2) | .undef => some false | _ => none

noncomputable def getExt : List (Nat × Ek) → Nat → Option Ek
  | [], _ => none
  | (i, e) :: r, f => cond (Nat.beq i f) (some e) (getExt r f)

inductive Kd where
  | pure | load | alloc | loud | call
/-- What kind of operation it is. -/
noncomputable def kindOf (P : Program) (o : Oper) : Kd :=
  match o.op with
  | .alloc _ | .box _ _ | .buildSlice _ _ _ | .makeSlice _ _ _ => .alloc
  | .load _ _ | .slice _ _ _ _ _ => .load
  | .store _ _ _ => .loud
  | .convert s d _ => (match P.underlying s, P.underlying d with
      | some (.slice _), some .string => .load
      | some .string, some (.slice _) => .alloc
      | some (.slice _), some (.slice _) => .loud
      | some (.pointer _), some .unsafePointer => .load
      | some .unsafePointer, some (.pointer _) => .load
      | _, _ => .pure)
  | .call c => (match c.callee with
      | .value _ => .call
      | .builtin .len | .builtin .cap | .builtin .min | .builtin .max | .builtin .unsafeSliceData => .pure
      | _ => .loud)
  | _ => .pure
/-- An operation that changes memory: what it gives, and memory behind it. -/
noncomputable def heavyA (P : Program) (call : FuncId → List V → H → Option (V × H)) (ev : Operand → Option V) (k : Kd) (o : Oper) (nid : Nat) (h : H) : Option (V × H) :=
  match k with
  | .loud => loudA P ev o nid h
  | .call => (calleeA ev o).bind fun c => call c.1 c.2 h
  | _ => none
/-- One operation, in the order of the text. -/
noncomputable def stepA (P : Program) (call : FuncId → List V → H → Option (V × H)) (o : Oper) (s : S) : Option S :=
  match kindOf P o with
  | .pure => (pureA P (evT P s.env) o).bind fun v => some ⟨putT s.env s.n o.dst v, s.n, s.h⟩
  | .load => (loadA P (evT P s.env) o s.h).bind fun v => some ⟨putT s.env s.n o.dst v, s.n, s.h⟩
  | .alloc => (allocA P (evT P s.env) o s.h.next).bind fun r => some ⟨putT s.env s.n o.dst r.1, s.n, (s.h.bump 1).set s.h.next (some (.row r.2))⟩
  | k => (heavyA P call (evT P s.env) k o s.h.next (s.h.bump 1)).bind fun r => some ⟨putT s.env s.n o.dst r.1, s.n, r.2⟩
noncomputable def opsA (P : Program) (call : FuncId → List V → H → Option (V × H)) (dsts : Nat → Option Tmp) : List Oper → S → Option S
  | [], s => some s
  | o :: os, s => (wantA dsts s.env o).bind fun b => (cond b (stepA P call o s) (some ⟨putT s.env s.n o.dst .undef, s.n, s.h⟩)).bind fun s' => opsA P call dsts os s'
noncomputable def dstOf (ops : Array Oper) (i : Nat) : Option Tmp := (ops[i]?).bind (·.dst)

/-! ### Regions whose order is open -/
def same1 : V → V → Bool
  | .bool a, .bool b => a == b
  | .int k a, .int l b => decide (k = l) && decide (a = b)
  | .str a, .str b => decide (a = b)
  | .ptr i a, .ptr j b => Nat.beq i j && Nat.beq a b
  | .nilptr, .nilptr => true
  | .sl i a l c, .sl j b q d => Nat.beq i j && Nat.beq a b && Nat.beq l q && decide (c = d)
  | .nilsl, .nilsl => true
  | .map i, .map j => Nat.beq i j
  | .nilmap, .nilmap => true
  | .nilif, .nilif => true
  | .nilfunc, .nilfunc => true
  | _, _ => false
def sameL : List V → List V → Bool
  | [], [] => true
  | a :: as, b :: bs => same1 a b && sameL as bs
  | _, _ => false
def sameV : V → V → Bool
  | .agg a, .agg b => sameL a b
  | a, b => same1 a b
/-- Which operations an operation waits for, as bits. -/
noncomputable def ancOf (masks : List Nat) : List Edge → Nat
  | [] => 0
  | e :: es => cond (Region.binds .any e) ((2 ^ e.on) ||| ((lget masks e.on).getD 0 ||| ancOf masks es)) (ancOf masks es)
noncomputable def masksOf : List Oper → List Nat → List Nat
  | [], acc => acc
  | o :: os, acc => masksOf os (acc ++ [ancOf acc o.after.toList])
def isHeavy : Kd → Bool
  | .loud | .call => true
  | _ => false
/-- May two operations come in either order (the one of the first kind stands first in the text)? -/
def pairOK : Kd → Kd → Bool
  | .pure, _ | _, .pure => true
  | .load, _ => true
  | .alloc, k => !isHeavy k
  | _, k => !isHeavy k
noncomputable def laterOK (P : Program) (ops : Array Oper) (i : Nat) (oi : Oper) (ki : Kd) : Nat → List Oper → List Nat → Bool
  | j, o :: os, mk :: ms => (Nat.testBit mk i || (pairOK ki (kindOf P o) && oi.apart ops o)) && laterOK P ops i oi ki (j + 1) os ms
  | _, [], _ => true
  | _, _, [] => false
noncomputable def allOK (P : Program) (ops : Array Oper) : Nat → List Oper → List Nat → Bool
  | i, o :: os, mk :: ms => o.after.all (fun e => !Region.binds .any e || Nat.blt e.on i) && laterOK P ops i o (kindOf P o) (i + 1) os ms && allOK P ops (i + 1) os ms
  | _, [], _ => true
  | _, _, [] => false
noncomputable def regOK (P : Program) (ops : Array Oper) : Bool := Region.noSelect ops && allOK P ops 0 ops.toList (masksOf ops.toList [])
/-- A load again, in the memories that it may meet besides. -/
noncomputable def backOK (ld : H → Option V) (v : V) (mk : Nat) : List (Nat × H) → Bool
  | [] => true
  | (l, hp) :: r => (Nat.testBit mk l || osel (ld hp) false (sameV v)) && backOK ld v mk r
noncomputable def againOK (h : H) (mk : Nat) : List (Nat × (H → Option V) × V) → Bool
  | [] => true
  | (i, ld, v) :: r => (Nat.testBit mk i || osel (ld h) false (sameV v)) && againOK h mk r
structure D where
  env : T V
  h : H
  hb : H
  bs : List (Nat × H)
  ws : List (Nat × (H → Option V) × V)
noncomputable def stepD (P : Program) (call : FuncId → List V → H → Option (V × H)) (n base i mk : Nat) (o : Oper) (d : D) : Option D :=
  match kindOf P o with
  | .pure => (pureA P (evT P d.env) o).bind fun v => some { d with env := putT d.env n o.dst v }
  | .load => (loadA P (evT P d.env) o d.hb).bind fun v => grd (backOK (loadA P (evT P d.env) o) v mk d.bs) (some { d with env := putT d.env n o.dst v, ws := (i, loadA P (evT P d.env) o, v) :: d.ws })
  | .alloc => (allocA P (evT P d.env) o (base + i)).bind fun r => some { d with env := putT d.env n o.dst r.1, h := d.h.set (base + i) (some (.row r.2)) }
  | k => (heavyA P call (evT P d.env) k o (base + i) d.h).bind fun r => grd (againOK r.2 mk d.ws) (some ⟨putT d.env n o.dst r.1, r.2, r.2, (i, d.hb) :: d.bs, d.ws⟩)
noncomputable def opsD (P : Program) (call : FuncId → List V → H → Option (V × H)) (dsts : Nat → Option Tmp) (n base : Nat) : Nat → List Oper → List Nat → D → Option D
  | i, o :: os, mk :: ms, d => (wantA dsts d.env o).bind fun b => (cond b (stepD P call n base i mk o d) (some { d with env := putT d.env n o.dst .undef })).bind fun d' => opsD P call dsts n base (i + 1) os ms d'
  | _, [], _, d => some d
  | _, _, [], _ => none
noncomputable def drawA (P : Program) (call : FuncId → List V → H → Option (V × H)) (ops : Array Oper) (s : S) : Option S :=
  grd (regOK P ops) ((opsD P call (dstOf ops) s.n s.h.next 0 ops.toList (masksOf ops.toList []) ⟨s.env, s.h.bump ops.size, s.h.bump ops.size, [], []⟩).bind fun d => some ⟨d.env, s.n, d.h⟩)

noncomputable def resultsA (P : Program) (env : T V) (h : H) : List ResultVar → Option (List V)
  | [] => some []
  | .tmp t :: rs => (env.get t).bind fun v => (resultsA P env h rs).bind fun vs => some (v :: vs)
  | .cell a t :: rs => (env.get a).bind fun p => (loadAtA P t p h).bind fun v => (resultsA P env h rs).bind fun vs => some (v :: vs)
def oneOf : List V → V
  | [v] => v
  | vs => .tup vs
noncomputable def putArgs : List V → Nat → T V → T V
  | [], _, e => e
  | v :: vs, i, e => putArgs vs (i + 1) (e.put i (some v))
noncomputable def undefs : Nat → Nat → T V → T V
  | 0, _, e => e
  | k + 1, i, e => undefs k (i + 1) (e.put i (some .undef))

mutual
noncomputable def codeA (C : Cfg) : Nat → Code → S → Option (X × S)
  | 0, _, _ => none
  | f + 1, c, s =>
    match c with
    | .skip | .label _ => some (.norm, s)
    | .ret => some (.ret, s)
    | .exit id => some (.exit id, s)
    | .seq a b => (codeA C f a s).bind fun
        | (.norm, s') => codeA C f b s'
        | r => some r
    | .cond x a b => (evT C.P s.env x).bind fun
        | .bool q => cond q (codeA C f a s) (codeA C f b s)
        | _ => none
    | .block id c => (codeA C f c s).bind fun
        | (.exit i, s') => some (cond (Nat.beq i id) .norm (.exit i), s')
        | r => some r
    | .loop c => (codeA C f c s).bind fun
        | (.norm, s') => codeA C f (.loop c) s'
        | r => some r
    | .scope c => codeA C f c s
    | .region _ ops draw => (cond draw (drawA C.P (callA C f) ops s) (opsA C.P (callA C f) (dstOf ops) ops.toList s)).bind fun s' => some (.norm, s')
    | _ => none
noncomputable def callA (C : Cfg) : Nat → FuncId → List V → H → Option (V × H)
  | 0, _, _, _ => none
  | f + 1, g, args, h =>
    osel (getExt C.ext g)
      ((C.P.funcs[g]?).bind fun fn => fn.body.bind fun c =>
        (codeA C f c ⟨putArgs args 0 .lf, args.length + (fn.ntmps - args.length), h⟩).bind fun
        | (.exit _, _) => none
        | (_, s) => (resultsA C.P s.env s.h fn.results.toList).bind fun vs => some (oneOf vs, s.h))
      (fun e => (extA C.P e args).bind fun v => some (v, h))
end
end Go.Proofs.YtkhgfdlinobabaaGreatDoor.AM

/- The smaller machine's operations that don't look at memory. -/
namespace Go.Proofs.YtkhgfdlinobabaaGreatDoor.AM
open Go.RowKit (Below)

section
variable {P : Program} {m : Mu} {w : World} {ev : Operand → Option V} {ρ : Operand → Value}

theorem evAll_ok (hev : ∀ x v, ev x = some v → VRel m v (ρ x)) : ∀ {xs : List Operand} {vs : List V}, evAll ev xs = some vs → VsRel m vs (xs.map ρ)
  | [], vs, e => by injection e with e; subst e; exact .nil
  | x :: xs, vs, e => by
    replace e := bnd_some.1 e; obtain ⟨v, h1, e⟩ := e
    replace e := bnd_some.1 e; obtain ⟨r, h2, e⟩ := e
    injection e with e; subst e
    exact .cons _ _ _ _ (hev _ _ h1) (evAll_ok hev h2)
theorem partsOf_ok (hev : ∀ x v, ev x = some v → VRel m v (ρ x)) : ∀ {ps : List (Nat × Operand)} {vs : List (Nat × V)}, partsOf ev ps = some vs → PsRel m vs (ps.map fun p => (p.1, ρ p.2))
  | [], vs, e => by injection e with e; subst e; exact .nil
  | (i, x) :: ps, vs, e => by
    replace e := bnd_some.1 e; obtain ⟨v, h1, e⟩ := e
    replace e := bnd_some.1 e; obtain ⟨r, h2, e⟩ := e
    injection e with e; subst e
    exact .cons _ _ _ _ _ (hev _ _ h1) (partsOf_ok hev h2)

theorem toCells_inv : ∀ {vs : List V} {cs cs' : List Value}, toCells vs = some cs → VsRel m vs cs' → cs' = cs
  | [], cs, cs', e, h => by cases h; injection e
  | v :: vs, cs, cs', e, h => by
    cases h with
    | cons _ v' _ vs' hv hvs =>
      cases v <;> simp only [toCells] at e <;> first | (cases e; done) | skip
      all_goals
        replace e := bnd_some.1 e; obtain ⟨r, h2, e⟩ := e
        injection e with e; subst e
        cases hv
        rw [toCells_inv h2 hvs]
theorem toValue_inv {v : V} {x x' : Value} (e : toValue v = some x) (h : VRel m v x') : x' = x := by
  cases v <;> simp only [toValue] at e <;> first | (cases e; done) | skip
  case agg vs =>
    replace e := bnd_some.1 e; obtain ⟨r, h2, e⟩ := e
    injection e with e; subst e
    obtain ⟨vs', hv, rfl⟩ := agg_inv h
    rw [toCells_inv h2 hv]
  all_goals (injection e with e; subst e; cases h; rfl)

theorem prun_run {α : Type} : ∀ {s : Sem α} {a : α}, prun P s = some a → s.run P w = .ok a w
  | .pure a, b, e => by injection e with e; subst e; rfl
  | .program k, b, e => prun_run (s := k P) e
  | .mark _ k, b, e => prun_run (s := k) e
  | .load .., _, e | .store .., _, e | .new .., _, e | .shape .., _, e | .freeze .., _, e | .frozen .., _, e | .getObj .., _, e | .setObj .., _, e | .choose .., _, e | .sys .., _, e | .halt .., _, e => by cases e
theorem plainArgs_ok : ∀ {xs : List Operand}, plainArgs ev xs = some () → ∀ x ∈ xs, ∃ v y, ev x = some v ∧ toValue v = some y
  | [], _, x, hx => by cases hx
  | a :: xs, e, x, hx => by
    replace e := bnd_some.1 e; obtain ⟨v, h1, e⟩ := e
    replace e := bnd_some.1 e; obtain ⟨y, h2, e⟩ := e
    cases hx with
    | head => exact ⟨v, y, h1, h2⟩
    | tail _ hx => exact plainArgs_ok e x hx
theorem plain_ok (hev : ∀ x v, ev x = some v → VRel m v (ρ x)) {o : Oper} {v : V} (hs : ∀ cs b, o.op ≠ .select cs b) (e : plainA P ev o = some v) :
    ∃ v', (execOp ρ o).run P w = .ok (.value v') w ∧ VRel m v v' := by
  replace e := bnd_some.1 e; obtain ⟨u, h1, e⟩ := e
  replace e := bnd_some.1 e; obtain ⟨nx, h2, e⟩ := e
  have hc : execOp ρ o = execOp (plainEv ev) o := execOp_congr o hs fun x hx => by
    obtain ⟨v, y, e1, e2⟩ := plainArgs_ok h1 x (by simpa using hx)
    rw [toValue_inv e2 (hev x v e1)]
    simp [plainEv, e1, e2]
  cases nx <;> first | (cases e; done) | skip
  case value y => exact ⟨y, by rw [hc]; exact prun_run h2, ofValue_rel e⟩

/-! ### Arithmetic, and something against nil -/
theorem intA_ok {op : BinOp} {k : IntKind} {a b : Int} {v : V} {t : TypeId} {x y : Operand} (e : intA op k a b = some v) :
    ∃ v', (do eqGuard op t x y (.int k a) (.int k b); binOp op t (.int k a) (.int k b) : Sem Value).run P w = .ok v' w ∧ VRel m v v' := by
  cases op <;> simp only [intA] at e <;> first | (cases e; done) | skip
  all_goals
    injection e with e
    subst e
    exact ⟨_, by simp [eqGuard, binOp, Op.intArith, Op.intCmp]; rfl, by constructor⟩

theorem eqGuard_nil {op : BinOp} {t : TypeId} {x y : Operand} {a b : Value} (h1 : ¬ (a = .nilIface ∧ b = .nilIface)) (h2 : ∀ p q, ¬ (a = .agg p ∧ b = .agg q)) : (eqGuard op t x y a b).run P w = .ok () w := by
  have key : (match a, b with
    | .nilIface, .nilIface => (do
      if (x matches .const _) || (y matches .const _) then return
      if ← Op.eqGuardIn Op.maxDepth t a b then unsupported (.noEntry "binop/eql: two nil values of an interface type with methods, neither of them the literal nil") : Sem Unit)
    | .agg _, .agg _ => (do
      if !(← program).eqGuardType (← program).depth t then return
      if ← Op.eqGuardIn Op.maxDepth t a b then unsupported (.noEntry "binop/eql: two nil values of an interface type with methods, in a part of a struct or an array"))
    | _, _ => pure ()).run P w = .ok () w := by
    cases a <;> cases b <;> first | rfl | exact absurd ⟨rfl, rfl⟩ h1 | exact absurd ⟨rfl, rfl⟩ (h2 _ _)
  cases op <;> first | rfl | exact key
/-- What a value of the kind is, nil or not. -/
def NzIs (m : Mu) : TypeDesc → Bool → V → Value → Prop
  | .pointer _, true, _, x' => x' = .pointer none
  | .pointer _, false, x, x' => ∃ i a L, x = .ptr i a ∧ m i = some L ∧ x' = .pointer (some ⟨L.b, L.d + a, none⟩)
  | .slice _, true, _, x' => x' = .slice none 0 0
  | .slice _, false, _, x' => ∃ a l c, x' = .slice (some a) l c
  | .map _ _, true, _, x' => x' = .map none
  | .map _ _, false, _, x' => ∃ a, x' = .map (some a)
  | .interface _, true, _, x' => x' = .nilIface
  | .interface _, false, _, x' => ∃ t v, x' = .iface t v
  | .func _ _ _, true, _, x' => x' = .nilFunc
  | .func _ _ _, false, _, x' => ∃ f a b, x' = .func f a b
  | _, _, _, _ => False
theorem nz_ok {d : TypeDesc} {x : V} {x' : Value} {b : Bool} (e : nz d x = some b) (h : VRel m x x') : NzIs m d b x x' := by
  unfold nz at e
  split at e
  case h_11 => cases e
  all_goals (injection e with e; subst e; cases h <;> simp only [NzIs] <;> first | rfl | exact ⟨_, _, _, rfl, ‹_›, rfl⟩ | exact ⟨_, _, _, rfl⟩ | exact ⟨_, _, rfl⟩ | exact ⟨_, rfl⟩)
theorem nilIn_ok (dd : Nat) {t : TypeId} {x y : V} {x' y' : Value} {b : Bool} (e : nilA P t x y = some b) (hx : VRel m x x') (hy : VRel m y y') :
    (¬ (x' = .nilIface ∧ y' = .nilIface)) ∧ (∀ p q, ¬ (x' = .agg p ∧ y' = .agg q)) ∧ (Op.equalIn (dd + 1) t x' y').run P w = .ok b w := by
  replace e := bnd_some.1 e; obtain ⟨d, hd, e⟩ := e
  replace e := bnd_some.1 e; obtain ⟨p, hp, e⟩ := e
  replace e := bnd_some.1 e; obtain ⟨q, hq, e⟩ := e
  have h1 := nz_ok hp hx
  have h2 := nz_ok hq hy
  clear hp hq hx hy
  cases d <;> simp only [NzIs] at h1 <;> first | (exact h1.elim) | skip
  case pointer el =>
    cases p <;> cases q <;> simp only [NzIs] at h1 h2
    · obtain ⟨i, a, L, rfl, m1, rfl⟩ := h1
      obtain ⟨j, c, L', rfl, m2, rfl⟩ := h2
      have e : (szOf P el).bind (fun n => grd (!Nat.beq n 0 && Nat.beq i j) (some (Nat.beq a c))) = some b := e
      replace e := bnd_some.1 e; obtain ⟨n, hn, e⟩ := e
      replace e := grd_some.1 e; obtain ⟨hg, e⟩ := e
      injection e with e; subst e
      simp only [Bool.and_eq_true, Bool.not_eq_true'] at hg
      have hij := Nat.eq_of_beq_eq_true hg.2
      subst hij
      rw [m1] at m2; injection m2 with m2; subst m2
      have hn0 : n ≠ 0 := by intro h0; subst h0; cases hg.1
      refine ⟨by simp, by simp, ?_⟩
      simp only [Op.equalIn, Sem.run_bind, run_underlying hd, Result.andThen_ok, run_sizeOf hn]
      rw [if_pos hn0]
      simp only [sameAddr, beq_self_eq_true, if_true, Sem.run_pure]
      congr 1
      cases hb : Nat.beq a c with
      | true => have := Nat.eq_of_beq_eq_true hb; subst this; simp
      | false =>
        have hne : a ≠ c := by intro h; subst h; rw [Nat.beq_refl] at hb; cases hb
        simp [hne]
    · obtain ⟨i, a, L, rfl, m1, rfl⟩ := h1
      subst h2; injection e with e; subst e
      exact ⟨by simp, by simp, by simp [Op.equalIn, run_underlying hd]⟩
    · obtain ⟨i, a, L, rfl, m1, rfl⟩ := h2
      subst h1; injection e with e; subst e
      exact ⟨by simp, by simp, by simp [Op.equalIn, run_underlying hd]⟩
    · subst h1; subst h2; injection e with e; subst e
      exact ⟨by simp, by simp, by simp [Op.equalIn, run_underlying hd]⟩
  case slice el =>
    cases p <;> cases q <;> simp only [NzIs] at h1 h2
    · cases e
    · obtain ⟨a1, a2, a3, rfl⟩ := h1; subst h2; injection e with e; subst e
      exact ⟨by simp, by simp, by simp [Op.equalIn, run_underlying hd]⟩
    · obtain ⟨a1, a2, a3, rfl⟩ := h2; subst h1; injection e with e; subst e
      exact ⟨by simp, by simp, by simp [Op.equalIn, run_underlying hd]⟩
    · subst h1; subst h2; injection e with e; subst e
      exact ⟨by simp, by simp, by simp [Op.equalIn, run_underlying hd]⟩
  case map k el =>
    cases p <;> cases q <;> simp only [NzIs] at h1 h2
    · cases e
    · obtain ⟨a1, rfl⟩ := h1; subst h2; injection e with e; subst e
      exact ⟨by simp, by simp, by simp [Op.equalIn, run_underlying hd]⟩
    · obtain ⟨a1, rfl⟩ := h2; subst h1; injection e with e; subst e
      exact ⟨by simp, by simp, by simp [Op.equalIn, run_underlying hd]⟩
    · subst h1; subst h2; injection e with e; subst e
      exact ⟨by simp, by simp, by simp [Op.equalIn, run_underlying hd]⟩
  case interface ms =>
    cases p <;> cases q <;> simp only [NzIs] at h1 h2
    · cases e
    · obtain ⟨a1, a2, rfl⟩ := h1; subst h2; injection e with e; subst e
      exact ⟨by simp, by simp, by simp [Op.equalIn, run_underlying hd]⟩
    · obtain ⟨a1, a2, rfl⟩ := h2; subst h1; injection e with e; subst e
      exact ⟨by simp, by simp, by simp [Op.equalIn, run_underlying hd]⟩
    · cases e
  case func ps rs va =>
    cases p <;> cases q <;> simp only [NzIs] at h1 h2
    · cases e
    · obtain ⟨a1, a2, a3, rfl⟩ := h1; subst h2; injection e with e; subst e
      exact ⟨by simp, by simp, by simp [Op.equalIn, run_underlying hd]⟩
    · obtain ⟨a1, a2, a3, rfl⟩ := h2; subst h1; injection e with e; subst e
      exact ⟨by simp, by simp, by simp [Op.equalIn, run_underlying hd]⟩
    · subst h1; subst h2; injection e with e; subst e
      exact ⟨by simp, by simp, by simp [Op.equalIn, run_underlying hd]⟩
theorem nilA_ok {t : TypeId} {x y : V} {x' y' : Value} {b : Bool} (e : nilA P t x y = some b) (hx : VRel m x x') (hy : VRel m y y') :
    (¬ (x' = .nilIface ∧ y' = .nilIface)) ∧ (∀ p q, ¬ (x' = .agg p ∧ y' = .agg q)) ∧ (Op.equal t x' y').run P w = .ok b w := nilIn_ok 9999 e hx hy
end
end Go.Proofs.YtkhgfdlinobabaaGreatDoor.AM

/- The smaller machine's operations that don't look at memory, whole. -/
namespace Go.Proofs.YtkhgfdlinobabaaGreatDoor.AM
open Go.RowKit (Below)

section
variable {P : Program} {m : Mu} {w : World} {ev : Operand → Option V} {ρ : Operand → Value}

theorem bin_ok {op : BinOp} {t : TypeId} {x y : Operand} {a b v : V} {a' b' : Value} (e : binA P op t a b = some v) (ha : VRel m a a') (hb : VRel m b b') :
    ∃ v', (do eqGuard op t x y a' b'; binOp op t a' b' : Sem Value).run P w = .ok v' w ∧ VRel m v v' := by
  unfold binA at e
  split at e
  · rename_i k p k' q
    obtain rfl := int_inv ha
    obtain rfl := int_inv hb
    by_cases hk : k = k'
    · subst hk
      simp only [decide_true] at e
      exact intA_ok e
    · simp only [hk, decide_false] at e; cases e
  · rename_i hni
    replace e := bnd_some.1 e; obtain ⟨r, hr, e⟩ := e
    injection e with e; subst e
    obtain ⟨h1, h2, h3⟩ := nilA_ok (w := w) hr ha hb
    refine ⟨.bool r, ?_, .bool r⟩
    rw [Sem.run_bind, eqGuard_nil h1 h2]
    simp only [Result.andThen_ok]
    have : binOp .eql t a' b' = (do pure (.bool (← Op.equal t a' b')) : Sem Value) := by
      replace hr := bnd_some.1 hr; obtain ⟨d, hd, hr⟩ := hr
      replace hr := bnd_some.1 hr; obtain ⟨p, hp, hr⟩ := hr
      replace hr := bnd_some.1 hr; obtain ⟨q, hq, hr⟩ := hr
      have n1 := nz_ok hp ha
      have n2 := nz_ok hq hb
      cases d <;> simp only [NzIs] at n1 <;> first | (exact n1.elim) | skip
      all_goals
        cases p <;> cases q <;> simp only [NzIs] at n1 n2
        all_goals
          (repeat (first | (obtain ⟨_, n1⟩ := n1) | (obtain ⟨_, n2⟩ := n2)))
          first | subst n1 | skip
          first | subst n2 | skip
          first | rfl | skip
    rw [this, Sem.run_bind, h3]
    rfl
  · rename_i hni
    replace e := bnd_some.1 e; obtain ⟨r, hr, e⟩ := e
    injection e with e; subst e
    obtain ⟨h1, h2, h3⟩ := nilA_ok (w := w) hr ha hb
    refine ⟨.bool (!r), ?_, .bool _⟩
    rw [Sem.run_bind, eqGuard_nil h1 h2]
    simp only [Result.andThen_ok]
    have : binOp .neq t a' b' = (do pure (.bool (!(← Op.equal t a' b'))) : Sem Value) := by
      replace hr := bnd_some.1 hr; obtain ⟨d, hd, hr⟩ := hr
      replace hr := bnd_some.1 hr; obtain ⟨p, hp, hr⟩ := hr
      replace hr := bnd_some.1 hr; obtain ⟨q, hq, hr⟩ := hr
      have n1 := nz_ok hp ha
      have n2 := nz_ok hq hb
      cases d <;> simp only [NzIs] at n1 <;> first | (exact n1.elim) | skip
      all_goals
        cases p <;> cases q <;> simp only [NzIs] at n1 n2
        all_goals
          (repeat (first | (obtain ⟨_, n1⟩ := n1) | (obtain ⟨_, n2⟩ := n2)))
          first | subst n1 | skip
          first | subst n2 | skip
          first | rfl | skip
    rw [this, Sem.run_bind, h3]
    rfl
  · cases e

theorem conv_ok {s d : TypeId} {x v : V} {x' : Value} (e : convA P s d x = some v) (hx : VRel m x x') : ∃ v', (convert s d x').run P w = .ok v' w ∧ VRel m v v' := by
  replace e := bnd_some.1 e; obtain ⟨sd, hs, e⟩ := e
  replace e := bnd_some.1 e; obtain ⟨dd, hd, e⟩ := e
  split at e
  · injection e with e; subst e
    obtain rfl := int_inv hx
    exact ⟨_, by simp [convert, run_underlying hs, run_underlying hd, Conv.intToInt], .int _ _⟩
  · injection e with e; subst e
    obtain rfl := str_inv hx
    exact ⟨_, by simp [convert, run_underlying hs, run_underlying hd], .str _⟩
  · cases e

theorem nilOk_ok {x v : V} {x' : Value} {o : Oper} {a : Operand} (ho : o.op = .nilCheck a) (e : nilOk x = some v) (hx : VRel m x x') (hρ : ρ a = x') : (execOp ρ o).run P w = .ok (.value x') w ∧ v = x := by
  unfold nilOk at e
  split at e
  · injection e with e; subst e
    obtain ⟨L, _, rfl⟩ := ptr_inv hx
    exact ⟨by simp [execOp, ho, hρ], rfl⟩
  · injection e with e; subst e
    cases hx
    exact ⟨by simp [execOp, ho, hρ], rfl⟩
  · injection e with e; subst e
    cases hx
    exact ⟨by simp [execOp, ho, hρ], rfl⟩
  · cases e
end
end Go.Proofs.YtkhgfdlinobabaaGreatDoor.AM

/- The smaller machine's operations, by kinds. -/
namespace Go.Proofs.YtkhgfdlinobabaaGreatDoor.AM
open Go.RowKit (Below)

section
variable {P : Program} {NG N0 : Nat} {w0 : World} {m : Mu} {h : H} {w : World} {nid : Nat} {ev : Operand → Option V} {ρ : Operand → Value}

/-- The operation leaves the world and gives a value. -/
def Val (P : Program) (m : Mu) (w : World) (s : Sem Next) (v : V) : Prop := ∃ v', VRel m v v' ∧ s.run P w = .ok (.value v') w

theorem or_some {α : Type} {x y : Option α} {a : α} (e : x.or y = some a) : x = some a ∨ y = some a := by
  cases x with
  | none => right; simpa using e
  | some b => left; simpa using e
theorem val_of {s : Sem Value} {v : V} (h : Gets P m w s v) : Val P m w (do pure (.value (← s))) v := by
  obtain ⟨v', h1, h2⟩ := h
  exact ⟨v', h1, by simp [h2]⟩
theorem val_plain (hev : ∀ x v, ev x = some v → VRel m v (ρ x)) {o : Oper} {v : V} (hs : ∀ cs b, o.op ≠ .select cs b) (e : plainA P ev o = some v) : Val P m w (execOp ρ o) v := by
  obtain ⟨v', h1, h2⟩ := plain_ok (w := w) hev hs e
  exact ⟨v', h2, h1⟩

theorem getElem?_map {xs : Array Operand} {i : Nat} {x : Operand} (h : xs[i]? = some x) : (xs.map ρ)[i]? = some (ρ x) := by simp [h]

theorem len_run {c : Call} {x : Operand} {a v : V} {t : TypeId} {d : TypeDesc} {ty : TypeId} (hc : c.callee = .builtin .len) (hx : c.args[0]? = some x) (ht : c.argTypes[0]? = some t) (hd : P.underlying t = some d)
    (hk : lenOk d a = true) (e : lenPureA a = some v) (ha : VRel m a (ρ x)) :
    Val P m w (do let d ← resolve ρ c ty; invoke d.target d.args) v := by
  have hq : (c.args.map ρ)[0]? = some (ρ x) := getElem?_map hx
  generalize ρ x = y at hq ha
  unfold lenPureA at e
  split at e <;> first | (cases e; done) | skip
  all_goals
    injection e with e
    subst e
    cases d <;> first | (cases hk; done) | skip
  · cases ha
    exact ⟨.int .i64 0, .int _ _, by simp [resolve, hc, invoke, builtin, Builtin.len_, ht, hq, run_underlying hd, goInt]⟩
  · rename_i s
    obtain rfl := str_inv ha
    have hsz : (⟨s.toArray⟩ : ByteArray).size = s.length := by simp [ByteArray.size]
    exact ⟨.int .i64 (s.length : Int), .int _ _, by simp [resolve, hc, invoke, builtin, Builtin.len_, ht, hq, run_underlying hd, goInt, hsz]⟩
  · obtain ⟨L, cc, _, rfl, _⟩ := sl_inv ha
    exact ⟨_, .int _ _, by simp [resolve, hc, invoke, builtin, Builtin.len_, ht, hq, run_underlying hd, goInt]⟩
theorem cap_run {c : Call} {x : Operand} {a v : V} {t : TypeId} {el : TypeId} {ty : TypeId} (hc : c.callee = .builtin .cap) (hx : c.args[0]? = some x) (ht : c.argTypes[0]? = some t) (hd : P.underlying t = some (.slice el))
    (e : capPureA a = some v) (ha : VRel m a (ρ x)) : Val P m w (do let d ← resolve ρ c ty; invoke d.target d.args) v := by
  have hq : (c.args.map ρ)[0]? = some (ρ x) := getElem?_map hx
  generalize ρ x = y at hq ha
  unfold capPureA at e
  split at e <;> first | (cases e; done) | skip
  all_goals
    injection e with e
    subst e
  · cases ha
    exact ⟨.int .i64 0, .int _ _, by simp [resolve, hc, invoke, builtin, Builtin.cap_, ht, hq, run_underlying hd, goInt]⟩
  · obtain ⟨L, cc, _, rfl, hcap⟩ := sl_inv ha
    dsimp only at hcap
    subst hcap
    exact ⟨_, .int _ _, by simp [resolve, hc, invoke, builtin, Builtin.cap_, ht, hq, run_underlying hd, goInt]⟩

theorem slData_run {c : Call} {x : Operand} {a : V} {p : Nat × Nat × Nat × Option Nat} {ty : TypeId} (hc : c.callee = .builtin .unsafeSliceData) (hx : c.args[0]? = some x) (hsz : c.args.size = 1) (hp : a.sl? = some p) (h0 : p.2.2.2.getD p.2.2.1 ≠ 0)
    (ha : VRel m a (ρ x)) : Val P m w (do let d ← resolve ρ c ty; invoke d.target d.args) (.ptr p.1 p.2.1) := by
  obtain ⟨id, off, len, cap⟩ := p
  obtain rfl := V.sl?_inv hp
  dsimp only at *
  obtain ⟨L, cc, hm, hρ, hcap⟩ := sl_inv ha
  have hcc : cc ≠ 0 := by
    cases cap with
    | none => have := hcap.2; simp at h0; omega
    | some c' => dsimp only at hcap; subst hcap; simpa using h0
  have hargs : c.args.map ρ = #[.slice (some ⟨L.b, L.d + off, none⟩) len cc] := by
    apply Array.ext
    · simp [hsz]
    · intro i h1 h2
      have : i = 0 := by simp at h2; omega
      subst this
      have hx' := getElem?_map (ρ := ρ) hx
      rw [Array.getElem?_eq_getElem h1] at hx'
      injection hx' with hx'
      rw [hx', hρ]; rfl
  have e : ∀ ats ty (a : Addr) l, (Builtin.unsafeSliceData_ ats ty #[.slice (some a) l cc]).run P w = .ok (.pointer (some a)) w := fun ats ty a l => by
    show (ite (cc ≠ 0) (pure (.pointer (some a))) _ : Sem Value).run P w = _
    rw [if_pos hcc]; rfl
  exact ⟨_, .ptr _ _ _ hm, by simp [resolve, hc, invoke, builtin, hargs, e]⟩
end
end Go.Proofs.YtkhgfdlinobabaaGreatDoor.AM

/- The smaller machine's operations: those that leave memory, and those that make a row. -/
namespace Go.Proofs.YtkhgfdlinobabaaGreatDoor.AM
open Go.RowKit (Below)

section
variable {P : Program} {NG N0 : Nat} {w0 : World} {m : Mu} {h : H} {w : World} {nid : Nat} {ev : Operand → Option V} {ρ : Operand → Value}

theorem pure_ok (hev : ∀ x v, ev x = some v → VRel m v (ρ x)) {o : Oper} {v : V} (e : pureA P ev o = some v) : Val P m w (execOp ρ o) v := by
  obtain ⟨dst, op, type, pos, after, guard⟩ := o
  cases op <;> simp only [pureA] at e <;> first | (cases e; done) | skip
  case move x => exact ⟨ρ x, hev _ _ e, rfl⟩
  case assign x => exact ⟨ρ x, hev _ _ e, rfl⟩
  case pick c a b =>
    replace e := bnd_some.1 e; obtain ⟨q, hq, e⟩ := e
    split at e
    · rename_i b'
      have hb := bool_inv (hev _ _ hq)
      cases b' with
      | true =>
        exact ⟨ρ a, hev _ _ (show ev a = some v from e), by simp only [execOp, Sem.run_bind, hb, asBool, Sem.run_pure, Result.andThen_ok, if_true]⟩
      | false =>
        exact ⟨ρ b, hev _ _ (show ev b = some v from e), by simp only [execOp, Sem.run_bind, hb, asBool, Sem.run_pure, Result.andThen_ok, Bool.false_eq_true, if_false]⟩
    · cases e
  case build t ps =>
    replace e := bnd_some.1 e; obtain ⟨vs, h1, e⟩ := e
    have hp := partsOf_ok hev h1
    exact val_of (build_ok (parts' := ps.map fun p => (p.1, ρ p.2)) e (by simpa using hp))
  case nilCheck x =>
    replace e := bnd_some.1 e; obtain ⟨a, h1, e⟩ := e
    obtain ⟨h2, rfl⟩ := nilOk_ok (w := w) (P := P) (ρ := ρ) (o := ⟨dst, .nilCheck x, type, pos, after, guard⟩) rfl e (hev _ _ h1) rfl
    exact ⟨ρ x, hev _ _ h1, h2⟩
  case binOp op t x y yt =>
    replace e := bnd_some.1 e; obtain ⟨a, h1, e⟩ := e
    replace e := bnd_some.1 e; obtain ⟨b, h2, e⟩ := e
    rcases or_some e with e | e
    · obtain ⟨v', h3, h4⟩ := bin_ok (w := w) (x := x) (y := y) e (hev _ _ h1) (hev _ _ h2)
      exact ⟨v', h4, by simp only [execOp, Sem.run_bind, Sem.run_pure] at h3 ⊢; rw [h3]; rfl⟩
    · exact val_plain hev (by intro cs b h; cases h) e
  case unOp op t x => exact val_plain hev (by intro cs b h; cases h) e
  case convert s d x =>
    replace e := bnd_some.1 e; obtain ⟨a, h1, e⟩ := e
    rcases or_some e with e | e
    · obtain ⟨v', h3, h4⟩ := conv_ok (w := w) e (hev _ _ h1)
      exact val_of ⟨v', h4, h3⟩
    · exact val_plain hev (by intro cs b h; cases h) e
  case makeInterface t x =>
    replace e := bnd_some.1 e; obtain ⟨a, h1, e⟩ := e
    replace e := bnd_some.1 e; obtain ⟨d, hd, e⟩ := e
    split at e
    · cases e
    · rename_i hni
      injection e with e; subst e
      refine ⟨.iface t (ρ x), .iface _ _ _ (hev _ _ h1), ?_⟩
      simp only [execOp, Instr.makeInterface, Sem.run_bind, run_underlying hd, Result.andThen_ok, Sem.run_pure]
  case makeFunc fn first captured =>
    replace e := bnd_some.1 e; obtain ⟨f, h1, e⟩ := e
    replace e := bnd_some.1 e; obtain ⟨c, h2, e⟩ := e
    injection e with e; subst e
    have r1 := evAll_ok hev h1
    have r2 := evAll_ok hev h2
    refine ⟨.func fn (first.map ρ) (captured.map ρ), ?_, rfl⟩
    have := VRel.func fn f c _ _ r1 r2
    have e1 : ∀ xs : Array Operand, xs.map ρ = (xs.toList.map ρ).toArray := fun xs => by apply Array.ext'; simp
    rw [e1, e1]
    exact this
  case fieldAddr s x f =>
    replace e := bnd_some.1 e; obtain ⟨a, h1, e⟩ := e
    exact val_of (fieldAt_ok e (hev _ _ h1))
  case field s x f =>
    replace e := bnd_some.1 e; obtain ⟨a, h1, e⟩ := e
    exact val_of (field_ok e (hev _ _ h1))
  case indexAddr t x i =>
    replace e := bnd_some.1 e; obtain ⟨a, h1, e⟩ := e
    replace e := bnd_some.1 e; obtain ⟨b, h2, e⟩ := e
    exact val_of (indexAt_ok e (hev _ _ h1) (hev _ _ h2))
  case index t x i =>
    replace e := bnd_some.1 e; obtain ⟨a, h1, e⟩ := e
    replace e := bnd_some.1 e; obtain ⟨b, h2, e⟩ := e
    exact val_of (index_ok e (hev _ _ h1) (hev _ _ h2))
  case extract t ix =>
    replace e := bnd_some.1 e; obtain ⟨a, h1, e⟩ := e
    split at e
    · rename_i vs
      rw [lget_eq] at e
      have hr := hev _ _ h1
      cases hr' : ρ t <;> rw [hr'] at hr <;> cases hr
      rename_i vs' hv
      obtain ⟨v', h2, h3⟩ := hv.get e
      refine ⟨v', h3, ?_⟩
      have : (vs'.toArray)[ix]? = some v' := by simpa using h2
      simp only [execOp, hr', Instr.extract, this, Sem.run_bind, Sem.run_pure, Result.andThen_ok]
    · cases e
  case typeAssert x a b ok => exact val_plain hev (by intro cs b h; cases h) e
  case call c =>
    split at e
    · rename_i hc
      replace e := bnd_some.1 e; obtain ⟨x, h1, e⟩ := e
      replace e := bnd_some.1 e; obtain ⟨a, h2, e⟩ := e
      replace e := bnd_some.1 e; obtain ⟨t, h3, e⟩ := e
      replace e := bnd_some.1 e; obtain ⟨d, h4, e⟩ := e
      replace e := grd_some.1 e; obtain ⟨h5, e⟩ := e
      exact len_run hc h1 h3 h4 h5 e (hev _ _ h2)
    · rename_i hc
      replace e := bnd_some.1 e; obtain ⟨x, h1, e⟩ := e
      replace e := bnd_some.1 e; obtain ⟨a, h2, e⟩ := e
      replace e := bnd_some.1 e; obtain ⟨t, h3, e⟩ := e
      replace e := bnd_some.1 e; obtain ⟨d, h4, e⟩ := e
      split at e
      · exact cap_run hc h1 h3 h4 e (hev _ _ h2)
      · cases e
    · exact val_plain hev (by intro cs b h; cases h) e
    · exact val_plain hev (by intro cs b h; cases h) e
    · rename_i hc
      replace e := bnd_some.1 e; obtain ⟨x, h1, e⟩ := e
      replace e := bnd_some.1 e; obtain ⟨a, h2, e⟩ := e
      replace e := bnd_some.1 e; obtain ⟨p, h3, e⟩ := e
      replace e := grd_some.1 e; obtain ⟨h5, e⟩ := e
      injection e with e; subst e
      simp only [Bool.and_eq_true, Bool.not_eq_true'] at h5
      exact slData_run hc h1 (Nat.eq_of_beq_eq_true h5.2) h3 (by intro h0; rw [h0] at h5; cases h5.1) (hev _ _ h2)
    · cases e

theorem optA_ok (hev : ∀ x v, ev x = some v → VRel m v (ρ x)) {x : Option Operand} {y : Option V} (e : optA ev x = some y) : ORelO m y (x.map ρ) := by
  cases x with
  | none => injection e with e; subst e; exact .none
  | some x =>
    replace e := bnd_some.1 (show (ev x).bind _ = some y from e); obtain ⟨a, h1, e⟩ := e
    injection e with e; subst e
    exact .some _ _ (hev _ _ h1)
theorem bytesOf_ok : ∀ {cs : List V} {bs : List UInt8} {cs' : List Value}, bytesOfCells cs = some bs → VsRel m cs cs' →
    ∃ ns : List Int, cs' = ns.map (Value.int .u8) ∧ bs = ns.map fun n => UInt8.ofNat n.toNat
  | [], bs, cs', e, h => by injection e with e; subst e; cases h; exact ⟨[], rfl, rfl⟩
  | v :: cs, bs, cs', e, h => by
    cases h with
    | cons _ v' _ cs' hv hvs =>
      unfold bytesOfCells at e
      split at e
      · rename_i heq; cases heq
      · rename_i n vs heq
        injection heq with h1 h2; subst h1; subst h2
        replace e := bnd_some.1 e; obtain ⟨r, hr, e⟩ := e
        injection e with e; subst e
        obtain ⟨ns, rfl, rfl⟩ := bytesOf_ok hr hvs
        cases hv
        exact ⟨n :: ns, rfl, rfl⟩
      · cases e
theorem run_bytesToString {a : Addr} {len c : Nat} {ns : List Int} (hl : (loadCells a len).run P w = .ok (ns.map (Value.int .u8)).toArray w) :
    (Conv.bytesToString (.slice (some a) len c)).run P w = .ok (.string ⟨(ns.map fun n => UInt8.ofNat n.toNat).toArray⟩) w := by
  have key : ∀ (ns : List Int) (s : ByteArray), (forIn (m := Sem) (ns.map (Value.int .u8)) s fun c s => (match c with
      | .int .u8 n => pure (ForInStep.yield (s.push (UInt8.ofNat n.toNat)))
      | _ => (do let _ ← (stuck "bytesToString: byte expected" : Sem PUnit); pure (ForInStep.yield s)) : Sem (ForInStep ByteArray))).run P w = .ok ⟨s.data ++ (ns.map fun n => UInt8.ofNat n.toNat).toArray⟩ w := by
    intro ns
    induction ns with
    | nil => intro s; simp
    | cons n ns ih =>
      intro s
      rw [List.map_cons, List.forIn_cons]
      simp only [Sem.run_bind, Sem.run_pure, Result.andThen_ok, ih]
      congr 2
      simp [ByteArray.push]
  simp only [Conv.bytesToString, Sem.run_bind, hl, Result.andThen_ok]
  rw [List.forIn_toArray]
  have := key ns ByteArray.empty
  rw [show ByteArray.empty.data = #[] from rfl, Array.empty_append] at this
  exact (congrArg (fun r : Result ByteArray => r.andThen fun a w' => Sem.run P (pure (Value.string a)) w') this)

theorem bytesStr_ok (R : HRel NG N0 w0 m h w) {s d : TypeId} {a v : V} {a' : Value} (e : bytesStrA P s d a h = some v) (ha : VRel m a a') : Gets P m w (convert s d a') v := by
  replace e := bnd_some.1 e; obtain ⟨sd, hs, e⟩ := e
  split at e
  case h_2 => cases e
  case h_1 el =>
    replace e := bnd_some.1 e; obtain ⟨ed, he, e⟩ := e
    split at e
    case h_2 => cases e
    case h_1 =>
      replace e := bnd_some.1 e; obtain ⟨dd, hd, e⟩ := e
      split at e
      case h_2 => cases e
      case h_1 =>
        replace e := bnd_some.1 e; obtain ⟨n, hn, e⟩ := e
        replace e := bnd_some.1 e; obtain ⟨cs, hcs, e⟩ := e
        replace e := bnd_some.1 e; obtain ⟨bs, hbs, e⟩ := e
        injection e with e; subst e
        cases a with
        | nilsl =>
          cases ha
          injection hcs with hcs; subst hcs
          injection hbs with hbs; subst hbs
          exact ⟨.string .empty, .str [], by simp [convert, run_underlying hs, run_underlying hd, run_underlying he, Conv.bytesToString]⟩
        | sl id off len cap =>
          injection hn with hn; subst hn
          obtain ⟨L, c, hm, rfl, _⟩ := sl_inv ha
          obtain ⟨cs', h1, h2⟩ := first_ok (P := P) R hcs ha
          obtain ⟨ns, h3, h4⟩ := bytesOf_ok hbs h2
          subst h4
          simp only [Builtin.firstCells, Nat.mul_one] at h1
          have hl : (loadCells ⟨L.b, L.d + off, none⟩ len).run P w = .ok (ns.map (Value.int .u8)).toArray w := by
            rw [h1, ← h3]
          exact ⟨_, .str _, by simp only [convert, Sem.run_bind, run_underlying hs, run_underlying hd, run_underlying he, Result.andThen_ok]; exact run_bytesToString hl⟩
        | _ => simp [slLenA] at hn
theorem shape_of {b : Nat} {c : Array Value} {t : TypeId} {fz : Nat × Nat} (e : w.heap[b]? = some (.cells c t fz)) : w.shape? b = some (t, c.size) := by simp [World.shape?, e]
theorem uptr_ok (R : HRel NG N0 w0 m h w) {s d : TypeId} {a v : V} {a' : Value} (e : uptrA P s d a h = some v) (ha : VRel m a a') : Gets P m w (convert s d a') v := by
  replace e := bnd_some.1 e; obtain ⟨⟨id, off⟩, hp, e⟩ := e
  obtain rfl := V.ptr?_inv hp; dsimp only at *
  obtain ⟨L, hm, rfl⟩ := ptr_inv ha
  replace e := bnd_some.1 e; obtain ⟨r, hr, e⟩ := e
  obtain ⟨_, _, cc, fz, RR⟩ := row_of R hr hm
  have hsh := shape_of RR.at_
  have hfit := RR.fits
  have hend := RR.ends
  replace e := bnd_some.1 e; obtain ⟨sd, hs, e⟩ := e
  replace e := bnd_some.1 e; obtain ⟨dd, hd, e⟩ := e
  have hseen : ∀ o, (Conv.seenAt ⟨L.b, o, none⟩).run P w = .ok ⟨L.b, o, none⟩ w := fun o => by
    simp [Conv.seenAt, viewAt, hsh]
  split at e
  · replace e := bnd_some.1 e; obtain ⟨n, hn, e⟩ := e
    replace e := grd_some.1 e; obtain ⟨hg, e⟩ := e
    injection e with e; subst e
    simp only [Bool.and_eq_true, Bool.not_eq_true'] at hg
    have hn0 : n ≠ 0 := by intro h0; subst h0; cases hg.1
    have hlt := Nat.le_of_ble_eq_true hg.2
    have hge : ¬ (cc.size ≤ L.d + off) := by omega
    refine ⟨_, ha, ?_⟩
    simp [convert, run_underlying hs, run_underlying hd, Conv.unsafePointer, hseen, cellsIn, hsh, run_sizeOf hn, hn0, hge]
  · replace e := bnd_some.1 e; obtain ⟨n, hn, e⟩ := e
    replace e := grd_some.1 e; obtain ⟨hg, e⟩ := e
    injection e with e; subst e
    simp only [Bool.and_eq_true] at hg
    obtain ⟨hd0, hcs⟩ := RR.ex hg.1
    have hv : ∀ u, (variablesAt ⟨L.b, L.d + off, none⟩ u 1).run P w = .ok (liesAt P P.depth r.elem (cc.size / P.cellsOf r.elem) (L.d + off) u 1) w := fun u => by
      simp [variablesAt, hsh]
    rw [hd0, Nat.zero_add] at *
    rw [hcs] at hv
    refine ⟨_, ha, ?_⟩
    simp [convert, run_underlying hs, run_underlying hd, Conv.unsafePointer, hseen, run_sizeOf hn, hv, hg.2]
  · cases e

theorem load_ok (R : HRel NG N0 w0 m h w) (hev : ∀ x v, ev x = some v → VRel m v (ρ x)) {o : Oper} {v : V} (e : loadA P ev o h = some v) : Val P m w (execOp ρ o) v := by
  obtain ⟨dst, op, type, pos, after, guard⟩ := o
  cases op <;> simp only [loadA] at e <;> first | (cases e; done) | skip
  case load t a =>
    replace e := bnd_some.1 e; obtain ⟨a', h1, e⟩ := e
    exact val_of (loadAt_ok R e (hev _ _ h1))
  case slice t x lo hi mx =>
    replace e := bnd_some.1 e; obtain ⟨a', h1, e⟩ := e
    replace e := bnd_some.1 e; obtain ⟨l, h2, e⟩ := e
    replace e := bnd_some.1 e; obtain ⟨u, h3, e⟩ := e
    replace e := bnd_some.1 e; obtain ⟨c, h4, e⟩ := e
    exact val_of (sliceAt_ok R e (hev _ _ h1) (optA_ok hev h2) (optA_ok hev h3) (optA_ok hev h4))
  case convert s d x =>
    replace e := bnd_some.1 e; obtain ⟨a', h1, e⟩ := e
    rcases or_some e with e | e
    · exact val_of (bytesStr_ok R e (hev _ _ h1))
    · exact val_of (uptr_ok R e (hev _ _ h1))

/-! ### Operations that make a row -/
/-- The operation gives a value and makes the row. -/
def Mks (P : Program) (NG N0 : Nat) (w0 : World) (m : Mu) (h : H) (w : World) (nid : Nat) (s : Sem Next) (v : V) (h' : H) : Prop :=
  ∃ m' w' v', Ext m m' nid ∧ Good NG N0 w0 m h w m' h' w' ∧ VRel m' v v' ∧ s.run P w = .ok (.value v') w'
theorem mks_of {s : Sem Value} {v : V} {h' : H} (k : Yld P NG N0 w0 m h w nid s v h') : Mks P NG N0 w0 m h w nid (do pure (.value (← s))) v h' := by
  obtain ⟨m', w', v', h1, h2, h3, h4⟩ := k
  exact ⟨m', w', v', h1, h2, h3, by simp [h4]⟩
theorem strBytes_ok (R : HRel NG N0 w0 m h w) (hf : m nid = none) (hn : nid < h.next) {s d : TypeId} {a v : V} {a' : Value} {r : Row} (e : strBytesA P s d a nid = some (v, r)) (ha : VRel m a a') :
    Yld P NG N0 w0 m h w nid (convert s d a') v (h.set nid (some (.row r))) := by
  replace e := bnd_some.1 e; obtain ⟨b, hb, e⟩ := e
  obtain rfl := V.str?_inv hb
  obtain rfl := str_inv ha
  replace e := bnd_some.1 e; obtain ⟨sd, hs, e⟩ := e
  replace e := bnd_some.1 e; obtain ⟨dd, hd, e⟩ := e
  split at e
  case h_2 => cases e
  case h_1 el =>
    replace e := bnd_some.1 e; obtain ⟨ed, he, e⟩ := e
    split at e
    case h_2 => cases e
    case h_1 =>
      replace e := grd_some.1 e; obtain ⟨hg, e⟩ := e
      injection e with e; injection e with e1 e2; subst e1; subst e2
      have hsz : (⟨b.toArray⟩ : ByteArray).size = b.length := by simp [ByteArray.size]
      generalize hcap : (Question.appendCap b.length 0 el).cut (w.tape w.drawn (.appendCap b.length 0 el)) = cap
      have hcl : b.length ≤ cap := by rw [← hcap]; exact Nat.le_add_right _ _
      have hch : (choose (.appendCap b.length 0 el)).run P w = .ok cap { w with drawn := w.drawn + 1 } := by rw [run_choose, hcap]; rfl
      -- the row as it stands
      let c : Array Value := (Array.map (fun b : UInt8 => Value.int .u8 (b.toNat : Int)) b.toArray) ++ Array.replicate (cap - b.length) (.int .u8 0)
      have hc : c.size = cap := by simp [c]; omega
      have hv : VsRel m (b.map fun c => V.int .u8 (c.toNat : Int)) (c.toList.take (b.map fun c => V.int .u8 (c.toNat : Int)).length) := by
        have h1 : ∀ l : List UInt8, VsRel m (l.map fun c => V.int .u8 (c.toNat : Int)) (l.map fun c => Value.int .u8 (c.toNat : Int)) := by
          intro l
          induction l with
          | nil => exact .nil
          | cons a l ih => exact .cons _ _ _ _ (.int _ _) ih
        have h2 : c.toList.take (b.map fun c => V.int .u8 (c.toNat : Int)).length = b.map fun c => Value.int .u8 (c.toNat : Int) := by
          simp only [c, Array.toList_append]
          rw [take_app _ _ _ (by simp)]
          simp
        rw [h2]; exact h1 b
      obtain ⟨p1, p2⟩ := new_row R hf hn (t := el) (sz := 1) (st := true) (ex := false) (frz := 0) (fz := (cap, cap + 1)) cap (vs := b.map fun c => V.int .u8 (c.toNat : Int)) (c := c) hv (by simpa using hcl) (by omega)
        (w1 := { w with drawn := w.drawn + 1 }) rfl rfl rfl rfl (w' := { w with drawn := w.drawn + 1, heap := w.heap.push (.cells c el (cap, cap + 1)) }) rfl rfl rfl rfl (.inr ⟨rfl, rfl, by rw [hc]; exact Nat.le_refl _⟩) (fun h => by cases h)
      refine ⟨_, _, .slice (some ⟨w.heap.size, 0, none⟩) b.length cap, p1, p2, ?_, ?_⟩
      · exact VRel.slo nid 0 b.length cap ⟨w.heap.size, 0, cap, 1⟩ (Mu.upd_at _ _ _) (by simp) hcl
      · simp only [convert, Sem.run_bind, run_underlying hs, run_underlying hd, run_underlying he, Result.andThen_ok]
        have hmk : ∀ W : World, W.heap = w.heap.push (.cells c el (0, 0)) → (markStringish ⟨w.heap.size, 0, none⟩).run P W = .ok () { W with heap := w.heap.push (.cells c el (cap, cap + 1)) } := by
          intro W hW
          have hs' : W.shape? w.heap.size = some (el, c.size) := by simp [World.shape?, hW]
          simp only [markStringish, Sem.run_bind, run_shape, hs', Result.andThen_ok, run_freeze, hc]
          congr 1
          simp only [World.freeze, hW]
          rw [if_neg (by omega)]
          congr 1
          apply Array.ext_getElem?
          intro k
          rw [Array.getElem?_modify]
          by_cases hk : w.heap.size = k
          · subst hk; simp
          · rw [if_neg hk, Array.getElem?_push, Array.getElem?_push, if_neg (Ne.symm hk), if_neg (Ne.symm hk)]
        simp only [Conv.stringToBytes, Sem.run_bind, hsz, hch, Result.andThen_ok, newRow, run_newObj, Sem.run_pure]
        rw [hmk _ rfl]
        rfl
end
end Go.Proofs.YtkhgfdlinobabaaGreatDoor.AM

/- The smaller machine's operations: those that make a row, and those that change memory. -/
namespace Go.Proofs.YtkhgfdlinobabaaGreatDoor.AM
open Go.RowKit (Below)

section
variable {P : Program} {NG N0 : Nat} {w0 : World} {m : Mu} {h : H} {w : World} {nid : Nat} {ev : Operand → Option V} {ρ : Operand → Value}

theorem mks_of' {s : Sem Value} {s' : Sem Next} {v : V} {h' : H} (hx : s' = (do pure (.value (← s)))) (k : Yld P NG N0 w0 m h w nid s v h') : Mks P NG N0 w0 m h w nid s' v h' := by rw [hx]; exact mks_of k
theorem alloc_op (R : HRel NG N0 w0 m h w) (hf : m nid = none) (hn : nid < h.next) (hev : ∀ x v, ev x = some v → VRel m v (ρ x)) {o : Oper} {v : V} {r : Row} (e : allocA P ev o nid = some (v, r)) :
    Mks P NG N0 w0 m h w nid (execOp ρ o) v (h.set nid (some (.row r))) := by
  obtain ⟨dst, op, type, pos, after, guard⟩ := o
  cases op <;> simp only [allocA] at e <;> first | (cases e; done) | skip
  case alloc t =>
    replace e := bnd_some.1 e; obtain ⟨z, h1, e⟩ := e
    injection e with e
    have := alloc_ok (P := P) R hf hn h1
    rw [e] at this
    exact mks_of this
  case box t x =>
    replace e := bnd_some.1 e; obtain ⟨a, h1, e⟩ := e
    injection e with e
    have := box_ok (P := P) R hf hn (t := t) (hev _ _ h1)
    rw [e] at this
    exact mks_of this
  case buildSlice t len ps =>
    replace e := bnd_some.1 e; obtain ⟨vs, h1, e⟩ := e
    have hp := partsOf_ok hev h1
    have hp' : PsRel m vs (ps.map fun (i, x) => (i, ρ x)).toList := by rw [Array.toList_map]; exact hp
    have k := buildSlice_ok (P := P) R hf hn e hp'
    exact mks_of' rfl k
  case makeSlice t l c =>
    replace e := bnd_some.1 e; obtain ⟨a, h1, e⟩ := e
    replace e := bnd_some.1 e; obtain ⟨b, h2, e⟩ := e
    exact mks_of' (s := Instr.makeSlice t (ρ l) (ρ c)) rfl (makeSlice_ok R hf hn e (hev _ _ h1) (hev _ _ h2))
  case convert s d x =>
    replace e := bnd_some.1 e; obtain ⟨a, h1, e⟩ := e
    exact mks_of' (s := Go.convert s d (ρ x)) rfl (strBytes_ok R hf hn e (hev _ _ h1))

/-- The operation changes memory: behind it stands h', and v is given. -/
def Chg (P : Program) (NG N0 : Nat) (w0 : World) (m : Mu) (h : H) (w : World) (nid : Nat) (s : Sem Next) (v : V) (h' : H) : Prop :=
  ∃ m' w' v', Ext m m' nid ∧ Good NG N0 w0 m h w m' h' w' ∧ VRel m' v v' ∧ (s.run P w = .ok (.value v') w' ∨ (s.run P w = .ok .skip w' ∧ v' = undef))
theorem chg_of {s : Sem Value} {v : V} {h' : H} (k : Yld P NG N0 w0 m h w nid s v h') : Chg P NG N0 w0 m h w nid (do pure (.value (← s))) v h' := by
  obtain ⟨m', w', v', h1, h2, h3, h4⟩ := k
  exact ⟨m', w', v', h1, h2, h3, .inl (by simp [h4])⟩

theorem copy_ok (R : HRel NG N0 w0 m h w) {dt : TypeId} {d x v : V} {d' x' : Value} {h' : H} {ats : Array TypeId} {ty : TypeId} (ha : ats[0]? = some dt)
    (e : copyA P dt d x h = some (v, h')) (hd : VRel m d d') (hx : VRel m x x') : Yld P NG N0 w0 m h w nid (Builtin.copy_ ats ty #[d', x']) v h' := by
  replace e := bnd_some.1 e; obtain ⟨td, hu, e⟩ := e
  split at e
  case h_2 => cases e
  case h_1 el =>
    replace e := bnd_some.1 e; obtain ⟨k, hk, e⟩ := e
    replace e := bnd_some.1 e; obtain ⟨n, hn, e⟩ := e
    replace e := bnd_some.1 e; obtain ⟨q, hq, e⟩ := e
    replace e := bnd_some.1 e; obtain ⟨new, hnew, e⟩ := e
    have hlen := len_ok (P := P) (w := w) hn hx
    obtain ⟨new', h1, h2⟩ := first_ok (P := P) R hnew hx
    cases d <;> first | (cases e; done) | skip
    case nilsl =>
      cases hd
      injection hq with hq; subst hq
      injection e with e; injection e with e1 e2; subst e1; subst e2
      refine ⟨m, w, _, Ext.refl m _, R.same, .int _ _, ?_⟩
      have h1' : (Builtin.firstCells k 0 x').run P w = .ok new' w := by simpa using h1
      simp [Builtin.copy_, ha, run_underlying hu, hlen, run_sizeOf hk, h1', goInt]
    case sl id off len cap =>
      obtain ⟨L, c, hm, rfl, _⟩ := sl_inv hd
      injection hq with hq; subst hq
      replace e := bnd_some.1 e; obtain ⟨h1', hp, e⟩ := e
      injection e with e; injection e with e1 e2; subst e1; subst e2
      obtain ⟨w', q1, q2⟩ := putCells_ok (P := P) R hp h2 hm
      refine ⟨m, w', _, Ext.refl m _, q2, .int _ _, ?_⟩
      simp [Builtin.copy_, ha, run_underlying hu, hlen, run_sizeOf hk, h1, q1, goInt]

theorem clear_ok (R : HRel NG N0 w0 m h w) {t : TypeId} {s v : V} {s' : Value} {h' : H} {ats : Array TypeId} {ty : TypeId} (ha : ats[0]? = some t)
    (e : clearA P t s h = some (v, h')) (hs : VRel m s s') : Yld P NG N0 w0 m h w nid (Builtin.clear_ ats ty #[s']) v h' := by
  replace e := bnd_some.1 e; obtain ⟨td, hu, e⟩ := e
  split at e
  case h_2 => cases e
  case h_1 el =>
    replace e := bnd_some.1 e; obtain ⟨z, hz, e⟩ := e
    obtain ⟨z', h1, h2⟩ := run_zeroValue hz w
    cases s <;> first | (cases e; done) | skip
    case nilsl =>
      cases hs
      injection e with e; injection e with e1 e2; subst e1; subst e2
      exact ⟨m, w, .tuple #[], Ext.refl m _, R.same, .tup [] [] .nil, by simp [Builtin.clear_, ha, run_underlying hu]⟩
    case sl id off len cap =>
      obtain ⟨L, c, hm, rfl, _⟩ := sl_inv hs
      replace e := bnd_some.1 e; obtain ⟨h1', hp, e⟩ := e
      replace e := grd_some.1 e; obtain ⟨hg, e⟩ := e
      injection e with e; injection e with e1 e2; subst e1; subst e2
      simp only [Bool.and_eq_true, Bool.not_eq_true'] at hg
      have hl0 : len ≠ 0 := by intro h0; subst h0; cases hg.1
      have hz0 : 0 < z.cells.length := by
        rcases Nat.eq_zero_or_pos z.cells.length with h0 | h0
        · rw [h0] at hg; cases hg.2
        · exact h0
      have hr := rep_ok (m := m) (z := z.cells) (z' := z'.cells) (h2 m).cells hz0 len
      have hzl := (h2 m).cells.length
      simp only [Array.length_toList] at hzl
      obtain ⟨w', q1, q2⟩ := putCells_ok (P := P) R hp hr hm
      refine ⟨m, w', .tuple #[], Ext.refl m _, q2, .tup [] [] .nil, ?_⟩
      have e0 : (Builtin.zeroCells z'.cells len) = (Array.range (len * z.cells.length)).map (z'.cells[· % z'.cells.size]!) := by unfold Builtin.zeroCells; rw [hzl]
      cases len with
      | zero => exact absurd rfl hl0
      | succ len =>
        have q1' : (storeCells ⟨L.b, L.d + off, none⟩ (Builtin.zeroCells z'.cells (len + 1)).toList).run P w = .ok () w' := by rw [e0]; exact q1
        simp [Builtin.clear_, ha, run_underlying hu, h1, q1']

theorem mark_ok (R : HRel NG N0 w0 m h w) {s d : TypeId} {x v : V} {x' : Value} {h' : H} (e : markA P s d x h = some (v, h')) (hx : VRel m x x') :
    Yld P NG N0 w0 m h w nid (convert s d x') v h' := by
  replace e := bnd_some.1 e; obtain ⟨⟨id, off, len, cap⟩, hp, e⟩ := e
  obtain rfl := V.sl?_inv hp; dsimp only at *
  obtain ⟨L, c, hm, rfl, _⟩ := sl_inv hx
  replace e := bnd_some.1 e; obtain ⟨r, hr, e⟩ := e
  replace e := bnd_some.1 e; obtain ⟨sd, hs, e⟩ := e
  split at e
  case h_2 => cases e
  case h_1 el0 =>
    replace e := bnd_some.1 e; obtain ⟨dd, hd, e⟩ := e
    split at e
    case h_2 => cases e
    case h_1 el =>
      replace e := bnd_some.1 e; obtain ⟨ed, he, e⟩ := e
      split at e
      case h_2 => cases e
      case h_1 =>
        replace e := grd_some.1 e; obtain ⟨hg, e⟩ := e
        injection e with e; injection e with e1 e2; subst e1; subst e2
        simp only [Bool.and_eq_true, Bool.not_eq_true'] at hg
        obtain ⟨⟨⟨g1, g2⟩, g3⟩, g4⟩ := hg
        have g1 := Nat.eq_of_beq_eq_true g1
        have g3 := Nat.eq_of_beq_eq_true g3
        subst g1
        rw [hs] at hd; injection hd with hd; injection hd with hd; subst hd
        obtain ⟨hlt, hro, cc, fz, RR⟩ := row_of R hr hm
        have hsh := shape_of RR.at_
        have hfz : fz.1 = fz.2 := by
          rcases RR.frz with ⟨_, h2 | ⟨q, h1, rfl⟩⟩ | ⟨h1, _, _⟩
          · exact h2
          · rw [g3] at h1; have : q = 0 := by omega
            subst this; rfl
          · rw [g2] at h1; cases h1
        have hmk : (markStringish ⟨L.b, L.d + off, none⟩).run P w = .ok () (w.freeze { block := L.b, off := cc.size } 1) := by
          simp [markStringish, hsh]
        have hat : (w.freeze { block := L.b, off := cc.size } 1).heap[L.b]? = some (.cells cc r.elem (cc.size, cc.size + 1)) := by
          simp only [World.freeze]
          rw [if_neg (by omega)]
          show (w.heap.modify L.b _)[L.b]? = _
          rw [modify_at _ _ _ _ RR.at_]
          obtain ⟨f1, f2⟩ := fz
          dsimp only at hfz
          subst hfz
          simp
        have hS : Same1 L.b w (w.freeze { block := L.b, off := cc.size } 1) := by
          simp only [World.freeze]
          rw [if_neg (by omega)]
          exact ⟨rfl, rfl, rfl, by simp, fun k hk => modify_other _ _ _ _ hk⟩
        have hG := R.set (rowOf_some hr) hm g4 hS (o' := .row { r with st := true }) ⟨cc, (cc.size, cc.size + 1), { at_ := hat, sz := RR.sz, fits := RR.fits, ends := RR.ends, vals := RR.vals, frz := .inr ⟨rfl, g3, Nat.le_refl _⟩, ex := RR.ex }⟩
        refine ⟨m, _, _, Ext.refl m _, hG, hx, ?_⟩
        simp [convert, run_underlying hs, run_underlying he, hmk]
end
end Go.Proofs.YtkhgfdlinobabaaGreatDoor.AM

/- The smaller machine's operations that change memory, whole; and calls. -/
namespace Go.Proofs.YtkhgfdlinobabaaGreatDoor.AM
open Go.RowKit (Below)

section
variable {P : Program} {NG N0 : Nat} {w0 : World} {m : Mu} {h : H} {w : World} {nid : Nat} {ev : Operand → Option V} {ρ : Operand → Value}

theorem run_loadBytes : ∀ (ns : List Int) (b o : Nat) (acc : ByteArray), (∀ j n, ns[j]? = some n → w.cell? ⟨b, o + j, none⟩ = some (.int .u8 n)) →
    (loadBytes ⟨b, o, none⟩ acc ns.length).run P w = .ok ⟨acc.data ++ (ns.map fun n => UInt8.ofNat n.toNat).toArray⟩ w
  | [], b, o, acc, _ => by simp [loadBytes]
  | n :: ns, b, o, acc, hc => by
    have h0 := hc 0 n rfl
    simp only [Nat.add_zero] at h0
    have ih := run_loadBytes ns b (o + 1) (acc.push (UInt8.ofNat n.toNat)) (fun j k hj => by rw [show o + 1 + j = o + (j + 1) by omega]; exact hc (j + 1) k (by simpa using hj))
    simp only [List.length_cons, loadBytes, Sem.run_bind, run_load, h0, Result.andThen_ok, addr_add]
    have : (n.toNat).toUInt8 = UInt8.ofNat n.toNat := rfl
    rw [this, ih]
    congr 2
    simp [ByteArray.push]

theorem unsafeStr_ok (R : HRel NG N0 w0 m h w) {pt : TypeId} {a n v : V} {a' n' : Value} {h' : H} {ats : Array TypeId} {ty : TypeId} (hat : ats[0]? = some pt)
    (e : unsafeStrA P pt a n h = some (v, h')) (ha : VRel m a a') (hn : VRel m n n') : Yld P NG N0 w0 m h w nid (Builtin.unsafeString_ ats ty #[a', n']) v h' := by
  replace e := bnd_some.1 e; obtain ⟨⟨id, off⟩, hp, e⟩ := e
  obtain rfl := V.ptr?_inv hp; dsimp only at *
  replace e := bnd_some.1 e; obtain ⟨⟨k, q⟩, hq, e⟩ := e
  obtain rfl := V.nat?_inv hq; dsimp only at *
  obtain rfl := int_inv hn
  obtain ⟨L, hm, rfl⟩ := ptr_inv ha
  replace e := bnd_some.1 e; obtain ⟨r, hr, e⟩ := e
  replace e := bnd_some.1 e; obtain ⟨d, hu, e⟩ := e
  split at e
  case h_2 => cases e
  case h_1 el =>
    replace e := grd_some.1 e; obtain ⟨hg, e⟩ := e
    replace e := bnd_some.1 e; obtain ⟨bs, hbs, e⟩ := e
    injection e with e; injection e with e1 e2; subst e1; subst e2
    simp only [Bool.and_eq_true, Bool.not_eq_true'] at hg
    obtain ⟨⟨⟨⟨⟨⟨⟨g1, g2⟩, g3⟩, g4⟩, g5⟩, g6⟩, g7⟩, g8⟩ := hg
    have g1 := Nat.eq_of_beq_eq_true g1
    have g2 : q ≠ 0 := by intro h0; subst h0; cases g2
    have g5 := Nat.le_of_ble_eq_true g5
    have g6 := Nat.le_of_ble_eq_true g6
    have g7 := Nat.eq_of_beq_eq_true g7
    subst g1
    obtain ⟨hlt, hro, cc, fz, RR⟩ := row_of R hr hm
    have hfit := RR.fits
    have hend := RR.ends
    have hsh := shape_of RR.at_
    obtain ⟨ns, h3, h4⟩ := bytesOf_ok hbs (RR.vals.take q)
    have hnl : ns.length = q := by
      have := congrArg List.length h3
      simp at this; omega
    have hcells : ∀ j n, ns[j]? = some n → w.cell? ⟨L.b, L.d + 0 + j, none⟩ = some (.int .u8 n) := by
      intro j n hj
      have hjq : j < q := by rw [← hnl]; exact (List.getElem?_eq_some_iff.1 hj).1
      rw [Nat.add_zero, RR.cellAt]
      have := congrArg (fun l : List Value => l[j]?) h3
      simp only [List.getElem?_map, hj, Option.map_some] at this
      rw [List.getElem?_take, if_pos hjq, List.getElem?_take, if_pos (by omega)] at this
      exact this
    have hlb := run_loadBytes (P := P) (w := w) ns L.b (L.d + 0) ByteArray.empty hcells
    rw [hnl, show ByteArray.empty.data = #[] from rfl, Array.empty_append, ← h4] at hlb
    have hv : (variablesAt ⟨L.b, L.d + 0, none⟩ el q).run P w = .ok true w := by
      simp only [variablesAt, Sem.run_bind, run_program, Result.andThen_ok, run_shape, hsh, Sem.run_pure, g7, Nat.div_one, Nat.add_zero]
      congr 1
      have hdep : ∃ dd, P.depth = dd + 1 := ⟨2 * (P.types.size + Made.depth) + 1, rfl⟩
      obtain ⟨dd, hdd⟩ := hdep
      rw [hdd] at g8 ⊢
      unfold liesAt
      rw [hdd]
      unfold rowAt
      simp only [g7, Nat.div_one, Nat.mod_one, beq_self_eq_true, Bool.true_and]
      rw [if_neg (by omega), g8]
      simp
      omega
    have hfz0 : fz.1 = fz.2 ∨ ∃ p, p ≤ r.frz ∧ fz = (L.d, L.d + p) := by
      rcases RR.frz with ⟨_, h⟩ | ⟨h1, _, _⟩
      · exact h
      · rw [g3] at h1; cases h1
    have hat' : ∃ fz', (w.freeze ⟨L.b, L.d + 0, none⟩ q).heap[L.b]? = some (.cells cc r.elem fz') ∧ FrzOk { r with frz := Nat.max r.frz q } L.d fz' cc.size := by
      simp only [World.freeze]
      rw [if_neg g2]
      refine ⟨_, (modify_at _ _ _ _ RR.at_).trans rfl, .inl ⟨g3, .inr ?_⟩⟩
      obtain ⟨f1, f2⟩ := fz
      by_cases hf : f1 = f2
      · subst hf
        exact ⟨q, Nat.le_max_right _ _, by simp⟩
      · rcases hfz0 with h | ⟨p, hp', h⟩
        · exact absurd h hf
        · injection h with h1 h2
          subst h1; subst h2
          have hne : (L.d == L.d + p) = false := by simp; intro h0; subst h0; exact hf rfl
          refine ⟨max p q, Nat.max_le.2 ⟨Nat.le_trans hp' (Nat.le_max_left _ _), Nat.le_max_right _ _⟩, ?_⟩
          simp only [hne, Bool.false_eq_true, if_false, Nat.add_zero, Nat.min_self]
          congr 1
          omega
    obtain ⟨fz', hat1, hfz'⟩ := hat'
    have hS : Same1 L.b w (w.freeze ⟨L.b, L.d + 0, none⟩ q) := by
      simp only [World.freeze]
      rw [if_neg g2]
      exact ⟨rfl, rfl, rfl, by simp, fun k hk => modify_other _ _ _ _ hk⟩
    have hG := R.set (rowOf_some hr) hm g4 hS (o' := .row { r with frz := Nat.max r.frz q }) ⟨cc, fz', { at_ := hat1, sz := RR.sz, fits := RR.fits, ends := RR.ends, vals := RR.vals, frz := hfz', ex := RR.ex }⟩
    refine ⟨m, _, _, Ext.refl m _, hG, .str bs, ?_⟩
    have hel : (elemOf pt).run P w = .ok el w := by simp [elemOf, run_underlying hu]
    show (do
      let n ← asInt (.int k (q : Int))
      let some pt := ats[0]? | stuck "unsafe.String: no argument types"
      if n < 0 then runtimePanic (.error "unsafe.String: len out of range")
      if n > IntKind.i64.max then unsupported (.unsafePointer "String: a length above the largest int")
      if n = 0 then pure (.string .empty)
      else if ← variablesAt ⟨L.b, L.d + 0, none⟩ (← elemOf pt) n.toNat then do
        let s ← loadBytes ⟨L.b, L.d + 0, none⟩ .empty n.toNat
        freeze ⟨L.b, L.d + 0, none⟩ n.toNat
        pure (.string s)
      else unsupported (.unsafePointer "String: not so many bytes at ptr") : Sem Value).run P w = _
    have n1 : ¬ ((q : Int) < 0) := by omega
    have n2 : ¬ ((q : Int) > IntKind.i64.max) := by simp [IntKind.max, IntKind.bits, IntKind.signed]; omega
    have n3 : ¬ ((q : Int) = 0) := by omega
    simp only [asInt, asIntOf, Sem.run_bind, Sem.run_pure, Result.andThen_ok, hat, hel, n1, n2, n3, if_false, Int.toNat_natCast, hv, if_true, hlb, run_freeze]
end
end Go.Proofs.YtkhgfdlinobabaaGreatDoor.AM
