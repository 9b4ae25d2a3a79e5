/- The smaller machine: operations, regions, calls. -/
import Derived.Test.YtejnegabdjpipaaGreatDoorAmSound
import Derived.MapKept
import GoSem.Builtin.Close
import GoSem.Instr.MakeChan
import Derived.RangeFuncRecord
set_option linter.unusedSimpArgs false
set_option linter.unusedVariables false
set_option linter.unusedSectionVars false
namespace Go.Proofs.YtejnegabdjpipaaGreatDoor.AM
variable [Syms]

/-! ### Values without places, for what is left to the model's own text -/
def toCells : List V → Option (List Value)
  | [] => some []
  | .bool b :: vs => (toCells vs).bind fun r => some (.bool b :: r)
  | .int k n :: vs => (toCells vs).bind fun r => some (.int k n :: r)
  | .str s :: vs => (toCells vs).bind fun r => some (.string ⟨s.toArray⟩ :: r)
  | .nilptr :: vs => (toCells vs).bind fun r => some (.pointer none :: r)
  | .nilsl :: vs => (toCells vs).bind fun r => some (.slice none 0 0 :: r)
  | .nilmap :: vs => (toCells vs).bind fun r => some (.map none :: r)
  | .nilif :: vs => (toCells vs).bind fun r => some (.nilIface :: r)
  | _ :: _ => none
def toValue : V → Option Value
  | .bool b => some (.bool b)
  | .int k n => some (.int k n)
  | .str s => some (.string ⟨s.toArray⟩)
  | .nilptr => some (.pointer none)
  | .nilsl => some (.slice none 0 0)
  | .nilmap => some (.map none)
  | .nilif => some .nilIface
  | .agg vs => (toCells vs).bind fun r => some (.agg r.toArray)
  | _ => none
/-- A run that asks nothing of the world. -/
def prun {α : Type} (P : Program) : Sem α → Option α
  | .pure a => some a
  | .program k => prun P (k P)
  | .mark _ k => prun P k
  | _ => none
def plainArgs (ev : Operand → Option V) : List Operand → Option Unit
  | [] => some ()
  | x :: xs => (ev x).bind fun v => (toValue v).bind fun _ => plainArgs ev xs
noncomputable def plainEv (ev : Operand → Option V) (x : Operand) : Value := (((ev x).bind toValue).getD undef)
/-- By the model's own text, where no operand names a place. -/
noncomputable def plainA (P : Program) (ev : Operand → Option V) (o : Oper) : Option V :=
  (plainArgs ev o.op.operands.toList).bind fun _ => (prun P (execOp (plainEv ev) o)).bind fun
  | .value v => ofValue v
  | _ => none

/-! ### Operations that don't look at memory -/
noncomputable def intA (op : BinOp) (k : IntKind) (a b : Int) : Option V :=
  match op with
  | .add => some (.int k (k.wrap (a + b)))
  | .sub => some (.int k (k.wrap (a - b)))
  | .mul => some (.int k (k.wrap (a * b)))
  | .eql => some (.bool (a == b))
  | .neq => some (.bool (a != b))
  | .lss => some (.bool (decide (a < b)))
  | .leq => some (.bool (decide (a ≤ b)))
  | .gtr => some (.bool (decide (a > b)))
  | .geq => some (.bool (decide (a ≥ b)))
  | _ => none
/-- Is it nil? (Of the kinds that can be.) -/
def nz : TypeDesc → V → Option Bool
  | .pointer _, .nilptr => some true
  | .pointer _, .ptr _ _ => some false
  | .slice _, .nilsl => some true
  | .slice _, .sl _ _ _ _ => some false
  | .slice _, .esl => some false
  | .slice _, .ls _ _ => some false
  | .map _ _, .nilmap => some true
  | .map _ _, .map _ => some false
  | .interface _, .nilif => some true
  | .interface _, .iface _ _ => some false
  | .func _ _ _, .nilfunc => some true
  | .func _ _ _, .func _ _ _ => some false
  | _, _ => none
/-- Something against nil, or a place against itself. -/
noncomputable def nilA (P : Program) (t : TypeId) (x y : V) : Option Bool :=
  (P.underlying t).bind fun d => (nz d x).bind fun a => (nz d y).bind fun b =>
    cond (a && b) (match d with | .interface _ => none | _ => some true)
      (cond (a || b) (some false)
        (match d with
         | .pointer el => x.ptr?.bind fun p => y.ptr?.bind fun q => (szOf P el).bind fun n => grd (!Nat.beq n 0 && Nat.beq p.1 q.1) (some (Nat.beq p.2 q.2))
         | _ => none))
def eqT : List UInt8 → List UInt8 → Bool
  | [], [] => true
  | a :: x, b :: y => Nat.beq a.toNat b.toNat && eqT x y
  | _, _ => false
noncomputable def strA (op : BinOp) (a b : List UInt8) : Option V :=
  match op with
  | .add => grd (Nat.ble (a.length + b.length) 1048576) (some (.str (a ++ b)))
  | .eql => some (.bool (eqT a b))
  | .neq => some (.bool (!eqT a b))
  | .lss => some (.bool (Op.bytesLess a b))
  | .leq => some (.bool (Op.bytesLess a b || eqT a b))
  | .gtr => some (.bool (!(Op.bytesLess a b || eqT a b)))
  | .geq => some (.bool (!Op.bytesLess a b))
  | _ => none
/-- The same name (or the same plain value) on both sides. -/
def symCell : V → V → Bool
  | .tx a, .tx b => Nat.beq a b
  | .nm k a, .nm l b => decide (k = l) && Nat.beq a b
  | .str a, .str b => eqT a b
  | .int k a, .int l b => decide (k = l) && decide (a = b)
  | _, _ => false
def symTy : TypeDesc → V → Bool
  | .string, .tx _ => true
  | .string, .str _ => true
  | .int k, .nm l _ => decide (k = l)
  | .int k, .int l _ => decide (k = l)
  | _, _ => false
noncomputable def symFields (P : Program) (a b : List V) : List Field → Option Unit
  | [] => some ()
  | f :: fs => (P.underlying f.type).bind fun d => (lget a f.offset).bind fun x => (lget b f.offset).bind fun y => grd (symCell x y && symTy d x) (symFields P a b fs)
/-- Two structs that are the same, name by name. -/
noncomputable def symA (P : Program) (t : TypeId) (x y : V) : Option Unit :=
  match x, y with
  | .tx a, .tx b => grd (Nat.beq a b) (some ())
  | .nm k a, .nm l b => grd (decide (k = l) && Nat.beq a b) (some ())
  | .agg a, .agg b => (P.underlying t).bind fun
    | .struct fs => grd (!P.stoodInHeld t && !P.eqGuardType P.depth t) (symFields P a b fs.toList)
    | _ => none
  | _, _ => none
noncomputable def symBin (P : Program) (op : BinOp) (t : TypeId) (x y : V) : Option V :=
  match op with
  | .eql => (symA P t x y).bind fun _ => some (.bool true)
  | .neq => (symA P t x y).bind fun _ => some (.bool false)
  | _ => none
/-- Numbers that have but a name: against whole numbers by their bounds, against one another by what is known. -/
def cmpB (op : BinOp) (lt ge : Bool) : Option V :=   -- lt: a < b is known; ge: a ≥ b is known
  match op with
  | .lss => cond lt (some (.bool true)) (cond ge (some (.bool false)) none)
  | .geq => cond ge (some (.bool true)) (cond lt (some (.bool false)) none)
  | _ => none
def cmpC (op : BinOp) (gt le : Bool) : Option V :=   -- gt: a > b is known; le: a ≤ b is known
  match op with
  | .gtr => cond gt (some (.bool true)) (cond le (some (.bool false)) none)
  | .leq => cond le (some (.bool true)) (cond gt (some (.bool false)) none)
  | _ => none
def nvBin (op : BinOp) (x y : V) : Option V :=
  match x, y with
  | .int .i64 a, .nv _ _ lo hi _ => (cmpB op (decide (a < lo)) (decide (hi ≤ a))).or (cmpC op (decide (hi < a)) (decide (a ≤ lo)))
  | .nv _ _ lo hi _, .int .i64 b => (cmpB op (decide (hi < b)) (decide (b ≤ lo))).or ((cmpC op (decide (b < lo)) (decide (hi ≤ b))).or none)
  | .nv k c _ _ _, .nv _ _ _ _ (some (j, b)) => cond (Nat.beq k j && decide (c = 0)) (cmpC op (!b) b) none
  | _, _ => none
/-- Are these two texts known to be unlike? -/
def farN (k j : Nat) : Bool := (Nat.beq k 998 && Nat.beq j 999) || (Nat.beq k 999 && Nat.beq j 998) || (Nat.beq k 1000 && Nat.beq j 1001) || (Nat.beq k 1001 && Nat.beq j 1000)
def neTp (k j : Nat) : List UInt8 → List UInt8 → Bool
  | [], [] => farN k j
  | a :: p, b :: q => !Nat.beq a.toNat b.toNat || neTp k j p q
  | _, _ => false
def neTs (lo : Nat) : List UInt8 → List UInt8 → Bool
  | a :: p, b :: s => !Nat.beq a.toNat b.toNat || neTs lo p s
  | [], s => Nat.blt s.length lo
  | _ :: _, [] => true
/-- Are they alike (where that is known)? -/
def tpEq : V → V → Option Bool
  | .tp p k _ _, .tp q j _ _ => cond (Nat.beq k j && eqT p q) (some true) (cond (neTp k j p q) (some false) none)
  | .tp p _ lo _, .str s => cond (neTs lo p s) (some false) none
  | .str s, .tp p _ lo _ => cond (neTs lo p s) (some false) none
  | _, _ => none
def nvEq : V → V → Option Bool
  | .nv k c _ _ _, .nv j d _ _ _ => cond (Nat.beq k j) (some (decide (c = d))) none
  | .nv _ _ lo hi _, .int .i64 n => cond (decide (n < lo) || decide (hi < n)) (some false) none
  | .int .i64 n, .nv _ _ lo hi _ => cond (decide (n < lo) || decide (hi < n)) (some false) none
  | _, _ => none
/-- A number that has but a name against a whole number: whatever it is. -/
def anyCmp : V → V → Option V
  | .nm k _, .int l _ => cond (decide (k = l)) (some .any) none
  | _, _ => none
def tpBin (op : BinOp) (x y : V) : Option V :=
  match op with
  | .eql => (((tpEq x y).or (nvEq x y)).bind fun b => some (.bool b)).or (anyCmp x y)
  | .neq => (((tpEq x y).or (nvEq x y)).bind fun b => some (.bool (!b))).or (anyCmp x y)
  | .add => (match x, y with
      | .str a, .tp p k lo hi => cond (Nat.ble (a.length + p.length + hi) 1048576) (some (.tp (a ++ p) k lo hi)) none
      | .int .i64 n, .nv k c lo hi _ => cond (decide (-4611686018427387904 ≤ lo + n) && decide (hi + n ≤ 4611686018427387904)) (some (.nv k (c + n) (lo + n) (hi + n) none)) none
      | _, _ => none)
  | _ => none
def nvAdd (op : BinOp) (x y : V) : Option V :=
  match op, x, y with
  | .add, .nv k c lo hi _, .int .i64 n => cond (decide (-4611686018427387904 ≤ lo + n) && decide (hi + n ≤ 4611686018427387904)) (some (.nv k (c + n) (lo + n) (hi + n) none)) none
  | _, _, _ => none
noncomputable def binA (P : Program) (op : BinOp) (t : TypeId) (x y : V) : Option V :=
  match op, x, y with
  | op, .str a, .str b => strA op a b
  | .gtr, .int .i64 a, .atl k => grd (decide (a ≤ k)) (some (.bool false))
  | op, .int k a, .int k' b => cond (decide (k = k')) (intA op k a b) none
  | .eql, x, y => (nilA P t x y).bind fun b => some (.bool b)
  | .neq, x, y => (nilA P t x y).bind fun b => some (.bool (!b))
  | _, _, _ => none
def is64 : IntKind → Bool | .i64 | .u64 => true | _ => false
noncomputable def convA (P : Program) (s d : TypeId) (x : V) : Option V :=
  (P.underlying s).bind fun sd => (P.underlying d).bind fun dd =>
  match sd, dd, x with
  | _, .int k, .int _ n => some (.int k (k.wrap n))
  | _, .string, .str b => some (.str b)
  | _, .int k, .nm l n => cond (is64 k && is64 l) (some (.nm k n)) none
  | _, _, _ => none
def nilOk : V → Option V
  | .ptr i o => some (.ptr i o)
  | .func (.func f) a b => some (.func (.func f) a b)
  | .iface t v => some (.iface t v)
  | _ => none
def capPureA : V → Option V
  | .nilsl => some (.int .i64 0)
  | .sl _ _ _ (some c) => some (.int .i64 c)
  | .sle _ _ _ k => some (.atl k)
  | _ => none
def lenPureA : V → Option V
  | .tp pre k lo hi => some (.nv (2000 + k) pre.length (.ofNat (lo + pre.length)) (.ofNat (hi + pre.length)) none)
  | .nilsl => some (.int .i64 0)
  | .str b => some (.int .i64 b.length)
  | .sl _ _ len _ => some (.int .i64 len)
  | .esl => some (.int .i64 0)
  | .sle _ _ len _ => some (.int .i64 len)
  | _ => none
def lenOk : TypeDesc → V → Bool
  | .string, .tp _ _ _ _ => true
  | .string, .str _ => true
  | .slice _, .nilsl => true
  | .slice _, .sl _ _ _ _ => true
  | .slice _, .esl => true
  | .slice _, .sle _ _ _ _ => true
  | _, _ => false
/-- max of a number with a name and one that isn't greater. -/
def maxA (ev : Operand → Option V) (c : Call) : Option V :=
  match c.args.toList with
  | [x, y] => (ev x).bind fun a => (ev y).bind fun b => (match a, b with
      | .nv k c' lo hi rel, .int .i64 n => cond (decide (n ≤ lo)) (some (.nv k c' lo hi rel)) none
      | _, _ => none)
  | _ => none
noncomputable def pureA (P : Program) (ev : Operand → Option V) (o : Oper) : Option V :=
  match o.op with
  | .move x => ev x
  | .assign x => ev x
  | .pick c a b => (ev c).bind fun | .bool q => cond q (ev a) (ev b) | _ => none
  | .build t ps => (partsOf ev ps.toList).bind fun vs => buildA P t vs
  | .nilCheck x => (ev x).bind nilOk
  | .binOp op t x y _ => (ev x).bind fun a => (ev y).bind fun b => ((binA P op t a b).or ((symBin P op t a b).or ((nvBin op a b).or ((nvAdd op a b).or (tpBin op a b))))).or (plainA P ev o)
  | .unOp _ _ _ => plainA P ev o
  | .convert s d x => (ev x).bind fun a => (convA P s d a).or (plainA P ev o)
  | .makeInterface t x => (ev x).bind fun v => (P.underlying t).bind fun | .interface _ => none | _ => some (.iface t v)
  | .makeFunc fn first captured => (evAll ev first.toList).bind fun f => (evAll ev captured.toList).bind fun c => some (.func fn f c)
  | .fieldAddr s x f => (ev x).bind fun v => fieldAtA P s v f
  | .field s x f => (ev x).bind fun v => fieldA P s v f
  | .indexAddr t x i => (ev x).bind fun v => (ev i).bind fun j => indexAtA P t v j
  | .index t x i => (ev x).bind fun v => (ev i).bind fun j => indexA P t v j
  | .extract t ix => (ev t).bind fun | .tup vs => lget vs ix | _ => none
  | .typeAssert _ _ _ _ => plainA P ev o
  | .call c => (match c.callee with
      | .builtin .len => (c.args[0]?).bind fun x => (ev x).bind fun a => (c.argTypes[0]?).bind fun t => (P.underlying t).bind fun d => grd (lenOk d a) (lenPureA a)
      | .builtin .cap => (c.args[0]?).bind fun x => (ev x).bind fun a => (c.argTypes[0]?).bind fun t => (P.underlying t).bind fun | .slice _ => capPureA a | _ => none
      | .builtin .min => plainA P ev o
      | .builtin .max => (maxA ev c).or (plainA P ev o)
      | .builtin .unsafeSliceData => (c.args[0]?).bind fun x => (ev x).bind fun v => (match v with
          | .nilsl => grd (Nat.beq c.args.size 1) (some .nilptr)
          | v => v.sl?.bind fun p => grd (!Nat.beq (p.2.2.2.getD p.2.2.1) 0 && Nat.beq c.args.size 1) (some (.ptr p.1 p.2.1)))
      | _ => none)
  | _ => none

/-! ### Operations that look at memory and leave it -/
noncomputable def optA (ev : Operand → Option V) (x : Option Operand) : Option (Option V) :=
  match x with
  | none => some none
  | some x => (ev x).bind fun v => some (some v)
/-- The bytes of a row as a text. -/
def bytesOfCells : List V → Option (List UInt8)
  | [] => some []
  | .int .u8 n :: vs => (bytesOfCells vs).bind fun r => some (UInt8.ofNat n.toNat :: r)
  | _ :: _ => none
def slLenA : V → Option Nat
  | .nilsl => some 0
  | .sl _ _ len _ => some len
  | _ => none
noncomputable def bytesStrA (P : Program) (s d : TypeId) (v : V) (h : H) : Option V :=
  (P.underlying s).bind fun
  | .slice e => (P.underlying e).bind fun
    | .int .u8 => (P.underlying d).bind fun
      | .string => (slLenA v).bind fun n => (firstA 1 n v h).bind fun cs => (bytesOfCells cs).bind fun bs => some (.str bs)
      | _ => none
    | _ => none
  | _ => none
/-- A pointer to one without a kind and back. -/
noncomputable def uptrA (P : Program) (s d : TypeId) (v : V) (h : H) : Option V :=
  v.ptr?.bind fun p => (rowOf h p.1).bind fun r => (P.underlying s).bind fun sd => (P.underlying d).bind fun dd =>
  match sd, dd with
  | .pointer t, .unsafePointer => (szOf P t).bind fun n => grd (!Nat.beq n 0 && Nat.blt p.2 r.cs.length) (some v)
  | .unsafePointer, .pointer u => (szOf P u).bind fun n => grd (r.ex && liesAt P P.depth r.elem (r.cs.length / P.cellsOf r.elem) p.2 u 1) (some v)
  | _, _ => none
/-! ### Maps, channels -/
/-- Two keys that are plain. -/
def keyEq : V → V → Option Bool
  | .str a, .str b => some (decide (a = b))
  | .int k a, .int l b => cond (decide (k = l)) (some (decide (a = b))) none
  | .bool a, .bool b => some (a == b)
  | .tp p k a b, .tp q j c d => cond (Nat.beq k j && eqT p q && Nat.beq a c && Nat.beq b d) (some true) (cond (neTp k j p q) (some false) none)
  | .tp p _ lo _, .str s => cond (neTs lo p s) (some false) none
  | .str s, .tp p _ lo _ => cond (neTs lo p s) (some false) none
  | _, _ => none
def findA (k : V) : List (V × V × Nat) → Nat → Option (Option (Nat × V × Nat))
  | [], _ => some none
  | (k', v, b) :: r, i => (keyEq k k').bind fun q => cond q (some (some (i, v, b))) (findA k r (i + 1))
/-- What a map's type says: the elements' type, where the key is plain. -/
def keyKd : TypeDesc → V → Bool
  | .int k, .int k' _ => decide (k' = k)
  | .string, .str _ => true
  | .string, .tp _ _ _ _ => true
  | .bool, .bool _ => true
  | _, _ => false
def mapTyA (P : Program) (t : TypeId) (k : V) : Option TypeId :=
  (P.underlying t).bind fun
  | .map kt el => (P.underlying kt).bind fun kd => grd (keyKd kd k) (some el)
  | _ => none
noncomputable def mapAt (h : H) (id : Nat) : Option (List (V × V × Nat) × Nat) := (h.get id).bind fun | .map es c => some (es, c) | _ => none
noncomputable def entriesA (x : V) (h : H) : Option (List (V × V × Nat)) :=
  match x with
  | .nilmap => some []
  | .map id => (mapAt h id).bind fun p => some p.1
  | _ => none
noncomputable def lookupA (P : Program) (t : TypeId) (x k : V) (ok : Bool) (h : H) : Option V :=
  (mapTyA P t k).bind fun el => (zeroOf P el).bind fun z => (entriesA x h).bind fun es => (findA k es 0).bind fun r =>
    osel r (some (cond ok (.tup [z, .bool false]) z)) fun p => some (cond ok (.tup [p.2.1, .bool true]) p.2.1)
noncomputable def lenMapA (x : V) (h : H) : Option V := (entriesA x h).bind fun es => some (.int .i64 es.length)
def map?A : V → Option Nat | .map id => some id | _ => none
noncomputable def mapUpdateA (P : Program) (t : TypeId) (x k v : V) (h : H) : Option (V × H) :=
  (mapTyA P t k).bind fun _ => (map?A x).bind fun id => (mapAt h id).bind fun p => (findA k p.1 0).bind fun r =>
    osel r (some (.undef, h.set id (some (.map (p.1 ++ [(k, v, p.2)]) (p.2 + 1))))) fun q => some (.undef, h.set id (some (.map (p.1.set q.1 (k, v, q.2.2)) p.2)))
noncomputable def mapEntryA (P : Program) (t : TypeId) (x k : V) (h : H) : Option (V × H) :=
  (mapTyA P t k).bind fun el => (zeroOf P el).bind fun z => (map?A x).bind fun id => (mapAt h id).bind fun p => (findA k p.1 0).bind fun r =>
    osel r (some (.tup [z, .int .i64 p.2], h.set id (some (.map (p.1 ++ [(k, z, p.2)]) (p.2 + 1))))) fun q => some (.tup [q.2.1, .int .i64 q.2.2], h.set id (some (.map (p.1.set q.1 (k, q.2.1, q.2.2)) p.2)))
def findBorn (n : Nat) : List (V × V × Nat) → Nat → Option (Nat × V)
  | [], _ => none
  | (k, _, b) :: r, i => cond (Nat.beq b n) (some (i, k)) (findBorn n r (i + 1))
noncomputable def entryStoreA (x st v : V) (h : H) : Option (V × H) :=
  (map?A x).bind fun id => (mapAt h id).bind fun p => st.nat?.bind fun n => (findBorn n.2 p.1 0).bind fun q => some (.undef, h.set id (some (.map (p.1.set q.1 (q.2, v, n.2)) p.2)))
noncomputable def deleteA (P : Program) (t : TypeId) (x k : V) (h : H) : Option (V × H) :=
  (mapTyA P t k).bind fun _ => (map?A x).bind fun id => (mapAt h id).bind fun p => (findA k p.1 0).bind fun r =>
    osel r (some (.tup [], h)) fun q => some (.tup [], h.set id (some (.map (p.1.eraseIdx q.1) p.2)))
def makeMapA (P : Program) (t : TypeId) (r : Option V) (nid : Nat) : Option (V × O) :=
  osel r (some (.map nid, .map [] 0)) fun v => v.nat?.bind fun _ => (P.underlying t).bind fun | .map _ _ => some (.map nid, .map [] 0) | _ => none
def makeChanA (P : Program) (t : TypeId) (n : V) (nid : Nat) : Option (V × O) :=
  n.nat?.bind fun n => (P.underlying t).bind fun
  | .chan _ el => (bytesOf' P el).bind fun _ => grd (Nat.beq n.2 0) (some (.chan nid, .chan false))
  | _ => none
def chan?A : V → Option Nat | .chan id => some id | _ => none
noncomputable def closeA (x : V) (h : H) : Option (V × H) :=
  (chan?A x).bind fun id => (h.get id).bind fun | .chan false => some (.tup [], h.set id (some (.chan true))) | _ => none

/-- A walk over a map: the entry at which it stands. -/
def bornAt (n : Nat) : List (V × V × Nat) → Option (V × V)
  | [] => none
  | (k, v, b) :: r => cond (Nat.beq b n) (some (k, v)) (bornAt n r)
def lastOf : List Nat → Option Nat
  | [] => none
  | [a] => some a
  | _ :: r => lastOf r
noncomputable def entryA (x : V) (h : H) : Option V :=
  x.ptr?.bind fun p => (h.get p.1).bind fun
  | .miter (some mid) _ seen stepped => grd (Nat.beq p.2 0) ((mapAt h mid).bind fun q => (lastOf seen).bind fun b => grd (Nat.beq q.2 stepped) ((bornAt b q.1).bind fun e => some (.tup [e.1, e.2])))
  | _ => none
noncomputable def loadA (P : Program) (ev : Operand → Option V) (o : Oper) (h : H) : Option V :=
  match o.op with
  | .load t a => (ev a).bind fun v => loadAtA P t v h
  | .slice t x lo hi mx => (ev x).bind fun v => (optA ev lo).bind fun l => (optA ev hi).bind fun u => (optA ev mx).bind fun c => sliceAtA P t v l u c h
  | .convert s d x => (ev x).bind fun v => (bytesStrA P s d v h).or (uptrA P s d v h)
  | .lookup t x k ok => (ev x).bind fun v => (ev k).bind fun q => lookupA P t v q ok h
  | .entry it => (ev it).bind fun v => entryA v h
  | .call c => (match c.callee with
      | .builtin .len => grd (Nat.beq c.args.size 1) ((c.args[0]?).bind fun x => (ev x).bind fun v => (c.argTypes[0]?).bind fun t => (P.underlying t).bind fun | .map _ _ => lenMapA v h | _ => none)
      | _ => none)
  | _ => none

/-! ### Operations that make a row -/
noncomputable def strBytesA (P : Program) (s d : TypeId) (v : V) (nid : Nat) : Option (V × Row) :=
  v.str?.bind fun b => (P.underlying s).bind fun _ => (P.underlying d).bind fun
  | .slice e => (P.underlying e).bind fun
    | .int .u8 => grd (Nat.ble b.length 1048576) (some (.sl nid 0 b.length none, ⟨b.map fun c => .int .u8 c.toNat, e, 1, 0, true, false, false⟩))
    | _ => none
  | _ => none
def rowed (r : V × Row) : V × O := (r.1, .row r.2)
noncomputable def allocA (P : Program) (ev : Operand → Option V) (o : Oper) (nid : Nat) : Option (V × O) :=
  match o.op with
  | .alloc t => (zeroOf P t).bind fun z => some (rowed (boxA t z nid))
  | .box t x => (ev x).bind fun v => some (rowed (boxA t v nid))
  | .buildSlice t len ps => (partsOf ev ps.toList).bind fun vs => (buildSliceA P t len vs nid).bind fun r => some (rowed r)
  | .makeSlice t l c => (ev l).bind fun l => (ev c).bind fun c => (makeSliceA P t l c nid).bind fun r => some (rowed r)
  | .convert s d x => (ev x).bind fun v => (strBytesA P s d v nid).bind fun r => some (rowed r)
  | .makeMap t r => (optA ev r).bind fun v => makeMapA P t v nid
  | .makeChan t n => (ev n).bind fun v => makeChanA P t v nid
  | _ => none

/-! ### Operations that change memory, but calls of functions -/
noncomputable def clearA (P : Program) (t : TypeId) (s : V) (h : H) : Option (V × H) :=
  (P.underlying t).bind fun
  | .slice el => (zeroOf P el).bind fun z => (match s with
      | .nilsl => some (.tup [], h)
      | .sl id off len _ => (putCells h id off (rep z.cells len)).bind fun h' => grd (!Nat.beq len 0 && !Nat.beq z.cells.length 0) (some (.tup [], h'))
      | _ => none)
  | _ => none
noncomputable def markA (P : Program) (s d : TypeId) (x : V) (h : H) : Option (V × H) :=
  x.sl?.bind fun p => (rowOf h p.1).bind fun r => (P.underlying s).bind fun
  | .slice _ => (P.underlying d).bind fun
    | .slice e => (P.underlying e).bind fun
      | .int .u8 => grd (Nat.beq s d && !r.st && Nat.beq r.frz 0 && !r.ro) (some (x, h.set p.1 (some (.row { r with st := true }))))
      | _ => none
    | _ => none
  | _ => none
def isNilptr : V → Bool | .nilptr => true | _ => false
noncomputable def unsafeStrA (P : Program) (pt : TypeId) (a n : V) (h : H) : Option (V × H) :=
  cond (isNilptr a) (n.nat?.bind fun n => grd (Nat.beq n.2 0) (some (.str [], h))) <|
  a.ptr?.bind fun p => n.nat?.bind fun n => (rowOf h p.1).bind fun r => (P.underlying pt).bind fun
  | .pointer e => grd (Nat.beq p.2 0 && !Nat.beq n.2 0 && !r.st && !r.ro && Nat.ble n.2 r.cs.length && Nat.ble n.2 1048576 && Nat.beq (P.cellsOf r.elem) 1 && sameLayout P P.depth r.elem e)
      ((bytesOfCells (r.cs.take n.2)).bind fun bs => some (.str bs, h.set p.1 (some (.row { r with frz := Nat.max r.frz n.2 }))))
  | _ => none
noncomputable def arg2 (ev : Operand → Option V) (c : Call) : Option (V × V) :=
  grd (Nat.beq c.args.size 2) ((c.args[0]?).bind fun x => (c.args[1]?).bind fun y => (ev x).bind fun a => (ev y).bind fun b => some (a, b))
noncomputable def loudB (P : Program) (ev : Operand → Option V) (c : Call) (b : Builtin) (nid : Nat) (h : H) : Option (V × H) :=
  match b with
  | .append => (arg2 ev c).bind fun p => (c.argTypes[0]?).bind fun st => appendA P st (c.argTypes[1]?) p.1 p.2 nid h
  | .copy => (arg2 ev c).bind fun p => (c.argTypes[0]?).bind fun dt => copyA P dt p.1 p.2 h
  | .clear => grd (Nat.beq c.args.size 1) ((c.args[0]?).bind fun x => (ev x).bind fun s => (c.argTypes[0]?).bind fun t => clearA P t s h)
  | .close => grd (Nat.beq c.args.size 1) ((c.args[0]?).bind fun x => (ev x).bind fun s => closeA s h)
  | .delete => (arg2 ev c).bind fun p => (c.argTypes[0]?).bind fun t => deleteA P t p.1 p.2 h
  | .unsafeString => (arg2 ev c).bind fun p => (c.argTypes[0]?).bind fun pt => unsafeStrA P pt p.1 p.2 h
  | _ => none
/-- A walk over a text begins, and goes on. -/
noncomputable def rangeA (P : Program) (t : TypeId) (x : V) (nid : Nat) (h : H) : Option (V × H) :=
  x.str?.bind fun b => (P.underlying t).bind fun | .string => some (.ptr nid 0, h.set nid (some (.siter b 0))) | _ => none
noncomputable def rangeMapA (P : Program) (t : TypeId) (x : V) (nid : Nat) (h : H) : Option (V × H) :=
  (map?A x).bind fun id => (mapAt h id).bind fun p => (P.underlying t).bind fun | .map _ _ => some (.ptr nid 0, h.set nid (some (.miter (some id) p.2 [] p.2))) | _ => none
noncomputable def nextA (x : V) (h : H) : Option (V × H) :=
  x.ptr?.bind fun p => (h.get p.1).bind fun
  | .siter b pos => grd (Nat.beq p.2 0) (cond (Nat.blt pos b.length)
      (some (.tup [.bool true, .int .i64 pos, .int .i32 (Utf8.decode ⟨b.toArray⟩ pos).1], h.set p.1 (some (.siter b (pos + (Utf8.decode ⟨b.toArray⟩ pos).2)))))
      (some (.tup [.bool false], h)))
  | _ => none
noncomputable def loudA (P : Program) (ev : Operand → Option V) (o : Oper) (nid : Nat) (h : H) : Option (V × H) :=
  match o.op with
  | .store t a x => (ev a).bind fun a => (ev x).bind fun v => (storeAtA P t a v h).bind fun h' => some (.undef, h')
  | .convert s d x => (ev x).bind fun v => markA P s d v h
  | .range t x => (ev x).bind fun v => (rangeA P t v nid h).or (rangeMapA P t v nid h)
  | .mapUpdate t x k y => (ev x).bind fun v => (ev k).bind fun q => (ev y).bind fun u => mapUpdateA P t v q u h
  | .insert t x k y => (ev x).bind fun v => (ev k).bind fun q => (ev y).bind fun u => mapUpdateA P t v q u h
  | .mapEntry t x k => (ev x).bind fun v => (ev k).bind fun q => mapEntryA P t v q h
  | .entryStore _ x k y => (ev x).bind fun v => (ev k).bind fun q => (ev y).bind fun u => entryStoreA v q u h
  | .next x true => (ev x).bind fun v => nextA v h
  | .call c => (match c.callee with
      | .builtin b => loudB P ev c b nid h
      | _ => none)
  | _ => none

inductive Tg where
  | fn (g : FuncId)
  | yield (id : Nat)
/-- A call of a function: which, and with what. -/
noncomputable def calleeA (ev : Operand → Option V) (o : Oper) : Option (Tg × List V) :=
  match o.op with
  | .call c => (match c.callee with
      | .value f => (ev f).bind fun
          | .func (.func g) first captured => (evAll ev c.args.toList).bind fun as => some (.fn g, first ++ as ++ captured)
          | .yield l => (evAll ev c.args.toList).bind fun as => some (.yield l, as)
          | _ => none
      | _ => none)
  | _ => none

def H.bump (h : H) (n : Nat) : H := ⟨h.objs, h.next + n⟩
inductive Ek where
  | noEscape
  | plain (f : Array Value → Sem Value)
  /-- New bytes, whatever they hold. -/
  | bytes (el : TypeId)
  /-- sync/atomic, of whole numbers (some k) or pointers. -/
  | aload (k : Option IntKind)
  | astore
  | acas (k : IntKind)
  | aadd (k : IntKind)
  /-- What the race detector is told: nothing is done. -/
  | note
  | noteAt
  /-- A call without arguments that answers true, and leaves all that was there. -/
  | closed
  /-- Whether two slices share memory: of two objects, they don't. -/
  | overlaps
  /-- slices.Insert into a slice whose capacity isn't known. -/
  | insert
  /-- A transaction's sorted keys: the map lies at that cell, whether it is over at the other. -/
  | touched (mp ov : Nat) (el : TypeId)
  /-- errors.Is of an error (a pointer of type t) that wraps, in its cell off, that very error (a pointer of type u): true. -/
  | errIs (t u off : Nat)
  /-- The key of one part, a text or a number, that has but a name; else its own body runs. -/
  | encode
  /-- Whether a text begins so, where a beginning is known; else its own body runs. -/
  | hasPfx
  /-- A text in memory of its own; else its own body runs. -/
  | clone
  /-- Whether two lists of texts are alike: of one name, they are; else its own body runs. -/
  | texts
  /-- A one-shot signal's look at its channel, which lies at that cell. -/
  | fired (off : Nat)
def plainVals : List V → Option (List Value)
  | [] => some []
  | v :: vs => (toValue v).bind fun x => (plainVals vs).bind fun r => some (x :: r)
def isKind : Option IntKind → V → Bool
  | some k, .int k' _ => decide (k = k')
  | none, .ptr _ _ => true
  | none, .nilptr => true
  | _, _ => false
noncomputable def cellA (x : V) (h : H) : Option (Nat × Nat × V) := x.ptr?.bind fun p => (rowOf h p.1).bind fun r => (lget r.cs p.2).bind fun v => some (p.1, p.2, v)
/-- Texts in rising order. -/
def insB (x : List UInt8) : List (List UInt8) → List (List UInt8)
  | [] => [x]
  | y :: r => cond (decide (x ≤ y)) (x :: y :: r) (y :: insB x r)
def sortB : List (List UInt8) → List (List UInt8)
  | [] => []
  | x :: r => insB x (sortB r)
def freshN (b : Nat) : List (V × V × Nat) → Bool
  | [] => true
  | (_, _, c) :: r => !Nat.beq c b && freshN b r
def stampB (clock : Nat) : List (V × V × Nat) → Bool
  | [] => true
  | (_, _, b) :: r => Nat.blt b clock && freshN b r && stampB clock r
def freshS (x : List UInt8) : List (List UInt8) → Bool
  | [] => true
  | y :: r => !decide (y = x) && freshS x r
def apartS : List (List UInt8) → Bool
  | [] => true
  | x :: r => Nat.ble x.length 1048576 && freshS x r && apartS r
def textKeys : List (V × V × Nat) → Option (List (List UInt8))
  | [] => some []
  | (.str s, _, _) :: r => (textKeys r).bind fun l => some (s :: l)
  | _ :: _ => none
/-- Keys that are texts, the end of which may have but a name. -/
def isTextV : V → Bool
  | .str s => Nat.ble s.length 1048576
  | .tp p _ _ hi => Nat.ble (p.length + hi) 1048576
  | _ => false
def lePre (k j : Nat) : List UInt8 → List UInt8 → Option Bool
  | [], [] => cond (Nat.beq k j) (some true) (cond (Nat.beq k 1000 && Nat.beq j 1001) (some true) (cond (Nat.beq k 1001 && Nat.beq j 1000) (some false) none))
  | a :: p, b :: q => cond (Nat.beq a.toNat b.toNat) (lePre k j p q) (some (Nat.blt a.toNat b.toNat))
  | _, _ => none
def leV : V → V → Option Bool
  | .str a, .str b => some (decide (a ≤ b))
  | .tp p k _ _, .tp q j _ _ => lePre k j p q
  | _, _ => none
def insV (x : V) : List V → Option (List V)
  | [] => some [x]
  | y :: r => (leV x y).bind fun b => cond b (some (x :: y :: r)) ((insV x r).bind fun s => some (y :: s))
def sortV : List V → Option (List V)
  | [] => some []
  | x :: r => (sortV r).bind fun s => insV x s
def freshV (x : V) : List V → Bool
  | [] => true
  | y :: r => (match keyEq x y with | some false => true | _ => false) && freshV x r
def apartV : List V → Bool
  | [] => true
  | x :: r => isTextV x && freshV x r && apartV r
def isFalse : V → Bool | .bool false => true | _ => false
noncomputable def touchedA (mp ov : Nat) (el : TypeId) (x : V) (h : H) : Option (V × H) :=
  x.ptr?.bind fun p => (rowOf h p.1).bind fun r => (lget r.cs (p.2 + ov)).bind fun o => grd (isFalse o) <| (lget r.cs (p.2 + mp)).bind fun m => (map?A m).bind fun id => (mapAt h id).bind fun q => (textKeys q.1).bind fun ks =>
    grd (stampB q.2 q.1 && apartS ks && Nat.ble ks.length 1048576)
    (match ks with
     | [] => some (.nilsl, h)
     | _ => some (.sl h.next 0 ks.length none, (h.bump 1).set h.next (some (.row ⟨(sortB ks).map V.str, el, 1, 0, false, false, false⟩))))
noncomputable def touchedT (mp ov : Nat) (el : TypeId) (x : V) (h : H) : Option (V × H) :=
  x.ptr?.bind fun p => (rowOf h p.1).bind fun r => (lget r.cs (p.2 + ov)).bind fun o => grd (isFalse o) <| (lget r.cs (p.2 + mp)).bind fun m => (map?A m).bind fun id => (mapAt h id).bind fun q =>
    grd (stampB q.2 q.1 && apartV (q.1.map fun e => e.1) && Nat.ble q.1.length 1048576)
    ((sortV (q.1.map fun e => e.1)).bind fun ks => match ks with
     | [] => some (.nilsl, h)
     | _ => some (.sl h.next 0 ks.length none, (h.bump 1).set h.next (some (.row ⟨ks, el, 1, 0, false, false, false⟩))))
noncomputable def firedA (off : Nat) (x : V) (h : H) : Option (V × H) :=
  x.ptr?.bind fun p => (rowOf h p.1).bind fun r => (lget r.cs (p.2 + off)).bind fun c => (chan?A c).bind fun id => (h.get id).bind fun | .chan b => some (.bool b, h) | _ => none
def sliceId : V → Option Nat
  | .sl id _ _ _ => some id
  | .sle id _ _ _ => some id
  | _ => none
/-- Does x begin with y (where that is known)? -/
def pfxA : List UInt8 → List UInt8 → Option Bool
  | _, [] => some true
  | [], _ :: _ => none
  | a :: p, b :: q => cond (Nat.beq a.toNat b.toNat) (pfxA p q) (some false)
def pfxT (k j : Nat) : List UInt8 → List UInt8 → Option Bool
  | [], [] => cond (Nat.beq k j) (some true) (cond ((Nat.beq k 1000 && Nat.beq j 1001) || (Nat.beq k 1001 && Nat.beq j 1000)) (some false) none)
  | a :: p, b :: q => cond (Nat.beq a.toNat b.toNat) (pfxT k j p q) (some false)
  | _, _ => none
def pfxS (lo : Nat) : List UInt8 → List UInt8 → Option Bool
  | [], _ :: _ => some false
  | s, [] => cond (Nat.blt s.length lo) (some false) none
  | a :: p, b :: q => cond (Nat.beq a.toNat b.toNat) (pfxS lo p q) (some false)
def hasPfxA : V → V → Option Bool
  | .tp p _ _ _, .str s => pfxA p s
  | .tp p k _ _, .tp q j _ _ => pfxT k j p q
  | .str s, .tp q _ lo _ => pfxS lo s q
  | _, _ => none
/-- The key of a part. -/
def encPart : List V → Option V
  | [.int .i64 1, .tp [] k 1 100, .int .u64 0] => cond (Nat.beq k 998) (some (.tp [1] 1000 3 202)) (cond (Nat.beq k 999) (some (.tp [1] 1001 3 202)) none)
  | [.int .i64 2, .str [], .nm .u64 7] => some (.tp [2] 1002 8 8)
  | _ => none
noncomputable def encA (x : V) (h : H) : Option (V × H) :=
  match x with
  | .sl id off 1 none => (rowOf h id).bind fun r => (encPart ((r.cs.drop off).take 3)).bind fun v => grd (Nat.beq r.sz 3) (some (.tup [v, .int .i64 0], h))
  | _ => none
noncomputable def extA (P : Program) (e : Ek) (args : List V) (h : H) : Option (V × H) :=
  match e with
  | .noEscape => (match args with | [x] => some (x, h) | _ => none)
  | .plain f => (plainVals args).bind fun vs => (prun P (f vs.toArray)).bind fun v => (ofValue v).bind fun u => some (u, h)
  | .bytes el => (match args with
      | [.int .i64 (.ofNat n)] => grd (Nat.ble n 1048576) (some (.sl h.next 0 n none, (h.bump 1).set h.next (some (.row ⟨[], el, 1, 0, false, false, false⟩))))
      | _ => none)
  | .touched mp ov el => (match args with
      | [x] => (touchedA mp ov el x h).or (touchedT mp ov el x h)
      | _ => none)
  | .fired off => (match args with
      | [x] => firedA off x h
      | _ => none)
  | .closed => (match args with | [] => some (.bool true, h) | _ => none)
  | .insert => none
  | .encode => (match args with | [x] => encA x h | _ => none)
  | .hasPfx => (match args with | [x, y] => (hasPfxA x y).bind fun b => some (.bool b, h) | _ => none)
  | .clone => (match args with | [.tp p k a b] => cond (Nat.ble (p.length + b) 1048576) (some (.tp p k a b, h)) none | _ => none)
  | .errIs t u off => (match args with
      | [.iface t' (.ptr r o), .iface u' (.ptr i a)] => (rowOf h r).bind fun q => (lget q.cs (o + off)).bind fun
          | .iface u2 (.ptr i2 a2) => grd (Nat.beq t t' && Nat.beq u u' && Nat.beq u u2 && Nat.beq i i2 && Nat.beq a a2) (some (.bool true, h))
          | _ => none
      | _ => none)
  | .texts => (match args with
      | [.ls i k, .ls j l] => grd (Nat.beq k l && isLsAt h i k && isLsAt h j l) (some (.bool true, h))
      | _ => none)
  | .overlaps => (match args with
      | [x, y] => (sliceId x).bind fun i => (sliceId y).bind fun j => (rowOf h i).bind fun r => (rowOf h j).bind fun q =>
          grd (!Nat.beq i j && !r.st && !q.st && Nat.beq r.frz 0 && Nat.beq q.frz 0) (some (.bool false, h))
      | _ => none)
  | .note => (match args with | [] => some (.tup [], h) | _ => none)
  | .noteAt => (match args with | [x] => x.ptr?.bind fun _ => some (.tup [], h) | _ => none)
  | .aload k => (match args with
      | [x] => (cellA x h).bind fun c => grd (isKind k c.2.2) (some (c.2.2, h))
      | _ => none)
  | .astore => (match args with
      | [x, v] => (cellA x h).bind fun c => (putCells h c.1 c.2.1 [v]).bind fun h' => some (.tup [], h')
      | _ => none)
  | .acas k => (match args with
      | [x, .int _ a, v] => (cellA x h).bind fun c => (match c.2.2 with
          | .int k' b => grd (decide (k = k')) ((putCells h c.1 c.2.1 [v]).bind fun h' => cond (decide (b = a)) (some (.bool true, h')) (some (.bool false, h)))
          | _ => none)
      | _ => none)
  | .aadd k => (match args with
      | [x, .int _ a] => (cellA x h).bind fun c => (match c.2.2 with
          | .int k' b => grd (decide (k = k')) ((putCells h c.1 c.2.1 [.int k (k.wrap (b + a))]).bind fun h' => some (.int k (k.wrap (b + a)), h'))
          | _ => none)
      | _ => none)

/-! Sameness, as a check. -/
mutual
def eqV : V → V → Bool
  | .undef, .undef => true
  | .bool a, .bool b => a == b
  | .int k a, .int l b => decide (k = l) && decide (a = b)
  | .str a, .str b => eqT a b
  | .ptr i a, .ptr j b => Nat.beq i j && Nat.beq a b
  | .nilptr, .nilptr => true
  | .sl i a l c, .sl j b q d => Nat.beq i j && Nat.beq a b && Nat.beq l q && decide (c = d)
  | .nilsl, .nilsl => true
  | .map i, .map j => Nat.beq i j
  | .nilmap, .nilmap => true
  | .chan i, .chan j => Nat.beq i j
  | .nilchan, .nilchan => true
  | .func (.func g) f c, .func (.func g') f' c' => Nat.beq g g' && eqVs f f' && eqVs c c'
  | .nilfunc, .nilfunc => true
  | .yield i, .yield j => Nat.beq i j
  | .esl, .esl => true
  | .iface t v, .iface u w => Nat.beq t u && eqV v w
  | .nilif, .nilif => true
  | .agg a, .agg b => eqVs a b
  | .tup a, .tup b => eqVs a b
  | _, _ => false
def eqVs : List V → List V → Bool
  | [], [] => true
  | a :: as, b :: bs => eqV a b && eqVs as bs
  | _, _ => false
end
def eqEs : List (V × V × Nat) → List (V × V × Nat) → Bool
  | [], [] => true
  | (k, v, n) :: r, (k', v', n') :: r' => eqV k k' && eqV v v' && Nat.beq n n' && eqEs r r'
  | _, _ => false
def eqO : O → O → Bool
  | .row a, .row b => eqVs a.cs b.cs && Nat.beq a.elem b.elem && Nat.beq a.sz b.sz && Nat.beq a.frz b.frz && a.st == b.st && a.ro == b.ro && a.ex == b.ex
  | .map a c, .map b d => eqEs a b && Nat.beq c d
  | .chan a, .chan b => a == b
  | .defs a, .defs b => a == b
  | _, _ => false
def eqOO : Option O → Option O → Bool
  | none, none => true
  | some a, some b => eqO a b
  | _, _ => false
def eqTO : T O → T O → Bool
  | .lf, .lf => true
  | .n v l r, .n v' l' r' => eqOO v v' && eqTO l l' && eqTO r r'
  | _, _ => false
def T.root {α : Type} : T α → Option α | .lf => none | .n v _ _ => v
def T.left {α : Type} : T α → T α | .lf => .lf | .n _ l _ => l
def T.right {α : Type} : T α → T α | .lf => .lf | .n _ _ r => r
/-- What stands in the first stands in the second. -/
def subT : T O → T O → Bool
  | .lf, _ => true
  | .n none l r, t => subT l t.left && subT r t.right
  | .n (some a) l r, t => eqOO (some a) t.root && subT l t.left && subT r t.right
/-- What stands in o, and what stands in h and not in s. -/
noncomputable def mergeT (h : T O) : T O → T O → T O :=
  T.rec (motive := fun _ => T O → T O → T O) (fun _ o => o)
    (fun v _ _ gl gr s o => .n (osel o.root (osel s.root v (fun _ => none)) some) (gl s.left o.left) (gr s.right o.right)) h
/-- A call that is known: with what, where, and what may come of it. -/
structure Memo where
  g : FuncId
  args : List V
  h : H
  outs : List (V × H)
noncomputable def getMemo : List Memo → FuncId → List V → H → Option (List (V × H))
  | [], _, _, _ => none
  | m :: r, g, args, h => cond (Nat.beq m.g g && eqVs m.args args && Nat.ble h.next m.h.next && subT m.h.objs h.objs) (some (m.outs.map fun o => (o.1, ⟨mergeT h.objs m.h.objs o.2.objs, o.2.next⟩))) (getMemo r g args h)
noncomputable def memo1 (ms : List Memo) (g : FuncId) (args : List V) (h : H) : Option (V × H) :=
  match getMemo ms g args h with
  | some [r] => some r
  | _ => none
structure Cfg where
  P : Program
  ext : List (Nat × Ek)
  memo : List Memo

inductive X where
  | norm
  | exit (id : Nat)
  | ret

/-- A deferred call. -/
inductive Df where
  | mark (D : Nat)
  | call (g : FuncId) (args : List V)
structure S where
  env : T V
  n : Nat
  h : H
  ds : List Df

noncomputable def evT (P : Program) (env : T V) : Operand → Option V
  | .tmp t => env.get t
  | .const v => ofValue v
  | .global g => grd (Nat.blt g P.globals.size) (some (.ptr g 0))
  | .func f => some (.func (.func f) [] [])
noncomputable def putT (env : T V) (n : Nat) (dst : Option Tmp) (v : V) : T V :=
  osel dst env fun d => cond (Nat.blt d n) (env.put d (some v)) env
noncomputable def wantA (dsts : Nat → Option Tmp) (env : T V) (o : Oper) : Option Bool :=
  osel o.guard (some true) fun g => (dsts g.1).bind fun t => (env.get t).bind fun | .bool q => some (q == g.2) | .undef => some false | _ => none

noncomputable def getExt : List (Nat × Ek) → Nat → Option Ek
  | [], _ => none
  | (i, e) :: r, f => cond (Nat.beq i f) (some e) (getExt r f)

inductive Kd where
  | pure | load | alloc | loud | call
/-- What kind of operation it is. -/
noncomputable def kindOf (P : Program) (o : Oper) : Kd :=
  match o.op with
  | .alloc _ | .box _ _ | .buildSlice _ _ _ | .makeSlice _ _ _ | .makeMap _ _ | .makeChan _ _ => .alloc
  | .load _ _ | .slice _ _ _ _ _ | .lookup _ _ _ _ | .entry _ => .load
  | .store _ _ _ | .range _ _ | .next _ _ | .mapUpdate _ _ _ _ | .insert _ _ _ _ | .mapEntry _ _ _ | .entryStore _ _ _ _ => .loud
  | .convert s d _ => (match P.underlying s, P.underlying d with
      | some (.slice _), some .string => .load
      | some .string, some (.slice _) => .alloc
      | some (.slice _), some (.slice _) => .loud
      | some (.pointer _), some .unsafePointer => .load
      | some .unsafePointer, some (.pointer _) => .load
      | _, _ => .pure)
  | .call c => (match c.callee with
      | .value _ => .call
      | .builtin .len => (match (c.argTypes[0]?).bind P.underlying with | some (.map _ _) => .load | _ => .pure)
      | .builtin .cap | .builtin .min | .builtin .max | .builtin .unsafeSliceData => .pure
      | _ => .loud)
  | _ => .pure
/-- An operation that changes memory: what it gives, and memory behind it. -/
noncomputable def heavyA (P : Program) (call : Tg → List V → H → Option (V × H)) (ev : Operand → Option V) (k : Kd) (o : Oper) (nid : Nat) (h : H) : Option (V × H) :=
  match k with
  | .loud => loudA P ev o nid h
  | .call => (calleeA ev o).bind fun c => call c.1 c.2 h
  | _ => none
/-- A deferred call's callee and arguments. -/
noncomputable def deferA (ev : Operand → Option V) (o : Oper) : Option Df :=
  match o.op with
  | .defer c => (match c.callee with
      | .value f => (ev f).bind fun
          | .func (.func g) first captured => (evAll ev c.args.toList).bind fun as => some (.call g (first ++ as ++ captured))
          | _ => none
      | _ => none)
  | _ => none
def isDefer (o : Oper) : Bool := match o.op with | .defer _ => true | _ => false
/-- One operation, in the order of the text. -/
noncomputable def stepA (P : Program) (call : Tg → List V → H → Option (V × H)) (rd : Bool) (o : Oper) (s : S) : Option S :=
  cond (isDefer o) (cond rd none ((deferA (evT P s.env) o).bind fun d => some ⟨putT s.env s.n o.dst .undef, s.n, s.h, d :: s.ds⟩)) <|
  match kindOf P o with
  | .pure => (pureA P (evT P s.env) o).bind fun v => some ⟨putT s.env s.n o.dst v, s.n, s.h, s.ds⟩
  | .load => (loadA P (evT P s.env) o s.h).bind fun v => some ⟨putT s.env s.n o.dst v, s.n, s.h, s.ds⟩
  | .alloc => (allocA P (evT P s.env) o s.h.next).bind fun r => some ⟨putT s.env s.n o.dst r.1, s.n, (s.h.bump 1).set s.h.next (some r.2), s.ds⟩
  | k => (heavyA P call (evT P s.env) k o s.h.next (s.h.bump 1)).bind fun r => some ⟨putT s.env s.n o.dst r.1, s.n, r.2, s.ds⟩
noncomputable def opsA (P : Program) (call : Tg → List V → H → Option (V × H)) (rd : Bool) (dsts : Nat → Option Tmp) : List Oper → S → Option S
  | [], s => some s
  | o :: os, s => (wantA dsts s.env o).bind fun b => (cond b (stepA P call rd o s) (some ⟨putT s.env s.n o.dst .undef, s.n, s.h, s.ds⟩)).bind fun s' => opsA P call rd dsts os s'
noncomputable def dstOf (ops : Array Oper) (i : Nat) : Option Tmp := (ops[i]?).bind (·.dst)

/-! ### Regions whose order is open -/
def same0 : V → V → Bool
  | .bool a, .bool b => a == b
  | .int k a, .int l b => decide (k = l) && decide (a = b)
  | .str a, .str b => decide (a = b)
  | .ptr i a, .ptr j b => Nat.beq i j && Nat.beq a b
  | .nilptr, .nilptr => true
  | .sl i a l c, .sl j b q d => Nat.beq i j && Nat.beq a b && Nat.beq l q && decide (c = d)
  | .nilsl, .nilsl => true
  | .map i, .map j => Nat.beq i j
  | .nilmap, .nilmap => true
  | .nilif, .nilif => true
  | .nilfunc, .nilfunc => true
  | .esl, .esl => true
  | .any, .any => true
  | .tp p k a b, .tp q j c d => decide (p = q) && Nat.beq k j && Nat.beq a c && Nat.beq b d
  | .nv k c lo hi none, .nv j d lo' hi' none => Nat.beq k j && decide (c = d) && decide (lo = lo') && decide (hi = hi')
  | .tx a, .tx b => Nat.beq a b
  | .nm k a, .nm l b => decide (k = l) && Nat.beq a b
  | .ls a i, .ls b j => Nat.beq a b && Nat.beq i j
  | _, _ => false
def sameL0 : List V → List V → Bool
  | [], [] => true
  | a :: as, b :: bs => same0 a b && sameL0 as bs
  | _, _ => false
def same1 : V → V → Bool
  | .func (.func g) f c, .func (.func g') f' c' => Nat.beq g g' && sameL0 f f' && sameL0 c c'
  | .yield i, .yield j => Nat.beq i j
  | a, b => same0 a b
def sameL : List V → List V → Bool
  | [], [] => true
  | a :: as, b :: bs => same1 a b && sameL as bs
  | _, _ => false
def sameV : V → V → Bool
  | .agg a, .agg b => sameL a b
  | a, b => same1 a b
/-- Which operations an operation waits for, as bits. -/
noncomputable def ancOf (masks : List Nat) : List Edge → Nat
  | [] => 0
  | e :: es => cond (Region.binds .any e) ((2 ^ e.on) ||| ((lget masks e.on).getD 0 ||| ancOf masks es)) (ancOf masks es)
noncomputable def masksOf : List Oper → List Nat → List Nat
  | [], acc => acc
  | o :: os, acc => masksOf os (acc ++ [ancOf acc o.after.toList])
def isHeavy : Kd → Bool
  | .loud | .call => true
  | _ => false
/-- May two operations come in either order (the one of the first kind stands first in the text)? -/
def pairOK : Kd → Kd → Bool
  | .pure, _ | _, .pure => true
  | .load, _ => true
  | .alloc, k => !isHeavy k
  | _, k => !isHeavy k
noncomputable def laterOK (P : Program) (ops : Array Oper) (i : Nat) (oi : Oper) (ki : Kd) : Nat → List Oper → List Nat → Bool
  | j, o :: os, mk :: ms => (Nat.testBit mk i || (pairOK ki (kindOf P o) && oi.apart ops o)) && laterOK P ops i oi ki (j + 1) os ms
  | _, [], _ => true
  | _, _, [] => false
noncomputable def allOK (P : Program) (ops : Array Oper) : Nat → List Oper → List Nat → Bool
  | i, o :: os, mk :: ms => o.after.all (fun e => !Region.binds .any e || Nat.blt e.on i) && laterOK P ops i o (kindOf P o) (i + 1) os ms && allOK P ops (i + 1) os ms
  | _, [], _ => true
  | _, _, [] => false
noncomputable def regOK (P : Program) (ops : Array Oper) : Bool := Region.noSelect ops && allOK P ops 0 ops.toList (masksOf ops.toList [])
/-- A load again, in the memories that it may meet besides. -/
noncomputable def backOK (ld : H → Option V) (v : V) (mk : Nat) : List (Nat × H) → Bool
  | [] => true
  | (l, hp) :: r => (Nat.testBit mk l || osel (ld hp) false (sameV v)) && backOK ld v mk r
noncomputable def againOK (h : H) (mk : Nat) : List (Nat × (H → Option V) × V) → Bool
  | [] => true
  | (i, ld, v) :: r => (Nat.testBit mk i || osel (ld h) false (sameV v)) && againOK h mk r
structure D where
  env : T V
  h : H
  hb : H
  bs : List (Nat × H)
  ws : List (Nat × (H → Option V) × V)
noncomputable def stepD (P : Program) (call : Tg → List V → H → Option (V × H)) (n base i mk : Nat) (o : Oper) (d : D) : Option D :=
  match kindOf P o with
  | .pure => (pureA P (evT P d.env) o).bind fun v => some { d with env := putT d.env n o.dst v }
  | .load => (loadA P (evT P d.env) o d.hb).bind fun v => grd (backOK (loadA P (evT P d.env) o) v mk d.bs) (some { d with env := putT d.env n o.dst v, ws := (i, loadA P (evT P d.env) o, v) :: d.ws })
  | .alloc => (allocA P (evT P d.env) o (base + i)).bind fun r => some { d with env := putT d.env n o.dst r.1, h := d.h.set (base + i) (some r.2) }
  | k => (heavyA P call (evT P d.env) k o (base + i) d.h).bind fun r => grd (againOK r.2 mk d.ws) (some ⟨putT d.env n o.dst r.1, r.2, r.2, (i, d.hb) :: d.bs, d.ws⟩)
noncomputable def opsD (P : Program) (call : Tg → List V → H → Option (V × H)) (dsts : Nat → Option Tmp) (n base : Nat) : Nat → List Oper → List Nat → D → Option D
  | i, o :: os, mk :: ms, d => (wantA dsts d.env o).bind fun b => (cond b (stepD P call n base i mk o d) (some { d with env := putT d.env n o.dst .undef })).bind fun d' => opsD P call dsts n base (i + 1) os ms d'
  | _, [], _, d => some d
  | _, _, [], _ => none
/-! An order in which what makes an object comes late. -/
def isAllocK : Kd → Bool | .alloc => true | _ => false
noncomputable def pickOp (P : Program) (al : Bool) (placed : Nat) : Nat → List Oper → Option Nat
  | _, [] => none
  | i, o :: os => cond (!Nat.testBit placed i && o.after.all (fun e => !Region.binds .any e || Nat.testBit placed e.on) && (al || !isAllocK (kindOf P o))) (some i) (pickOp P al placed (i + 1) os)
noncomputable def orderA (P : Program) (ops : List Oper) : Nat → Nat → List Nat
  | 0, _ => []
  | f + 1, placed => osel ((pickOp P false placed 0 ops).or (pickOp P true placed 0 ops)) [] fun i => i :: orderA P ops f (placed + 2 ^ i)
def posIn (i : Nat) : List Nat → Nat
  | [] => 0
  | j :: r => cond (Nat.beq j i) 0 (posIn i r + 1)
def relabel (q : List Nat) (o : Oper) : Oper := { o with after := o.after.map fun e => { e with on := posIn e.on q }, guard := o.guard.map fun g => (posIn g.1 q, g.2) }
noncomputable def isPerm (q : List Nat) : Nat → Bool
  | 0 => true
  | k + 1 => Nat.blt (posIn k q) q.length && Nat.beq ((lget q (posIn k q)).getD (k + 1)) k && isPerm q k
noncomputable def isInj (q : List Nat) : Nat → Bool
  | 0 => true
  | k + 1 => osel (lget q k) false (fun i => Nat.beq (posIn i q) k) && isInj q k
noncomputable def turned (ops : List Oper) (q : List Nat) : List Nat → Option (List Oper)
  | [] => some []
  | i :: r => (lget ops i).bind fun o => (turned ops q r).bind fun os => some (relabel q o :: os)
noncomputable def turnA (P : Program) (ops : Array Oper) : Option (Array Oper) :=
  let q := orderA P ops.toList ops.size 0
  grd (Nat.beq q.length ops.size && isPerm q ops.size && isInj q ops.size) ((turned ops.toList q q).bind fun l => some l.toArray)
noncomputable def drawA1 (P : Program) (call : Tg → List V → H → Option (V × H)) (ops : Array Oper) (s : S) : Option S :=
  grd (regOK P ops) ((opsD P call (dstOf ops) s.n s.h.next 0 ops.toList (masksOf ops.toList []) ⟨s.env, s.h.bump ops.size, s.h.bump ops.size, [], []⟩).bind fun d => some ⟨d.env, s.n, d.h, s.ds⟩)
noncomputable def drawA (P : Program) (call : Tg → List V → H → Option (V × H)) (ops : Array Oper) (s : S) : Option S :=
  cond (regOK P ops) (drawA1 P call ops s) ((turnA P ops).bind fun ops' => drawA1 P call ops' s)

noncomputable def resultsA (P : Program) (env : T V) (h : H) : List ResultVar → Option (List V)
  | [] => some []
  | .tmp t :: rs => (env.get t).bind fun v => (resultsA P env h rs).bind fun vs => some (v :: vs)
  | .cell a t :: rs => (env.get a).bind fun p => (loadAtA P t p h).bind fun v => (resultsA P env h rs).bind fun vs => some (v :: vs)
def oneOf : List V → V
  | [v] => v
  | vs => .tup vs
noncomputable def putArgs : List V → Nat → T V → T V
  | [], _, e => e
  | v :: vs, i, e => putArgs vs (i + 1) (e.put i (some v))
noncomputable def undefs : Nat → Nat → T V → T V
  | 0, _, e => e
  | k + 1, i, e => undefs k (i + 1) (e.put i (some .undef))

noncomputable def puts (n : Nat) : List Tmp → List V → T V → Option (T V)
  | [], [], e => some e
  | t :: ts, v :: vs, e => puts n ts vs (putT e n (some t) v)
  | _, _, _ => none
noncomputable def loopOf (h : H) (id : Nat) : Option (LoopState × Option Code × T V × Nat × List Tmp × Code × Code × Nat) :=
  (h.get id).bind fun | .loop st pend env n ps asg body D => some (st, pend, env, n, ps, asg, body, D) | _ => none
def isReady : LoopState → Bool | .ready => true | _ => false
def isBusy : LoopState → Bool | .busy => true | _ => false
/-- A closure that asks first whether there is a panic: where there is none. -/
def recoverOf : Code → Option (Option Tmp × Code)
  | .seq (.region _ ops false) rest => (match ops.toList with
      | [o] => (match o.op, o.guard with
          | .call c, none => (match c.callee with | .builtin .recover => some (o.dst, rest) | _ => none)
          | _, _ => none)
      | _ => none)
  | _ => none
/-- A body run on arguments. -/
noncomputable def bodyOf (P : Program) (code : Code → S → Option (X × S)) (leave : List Df → H → Option H) (g : FuncId) (args : List V) (h : H) : Option (V × H) :=
  (P.funcs[g]?).bind fun fn => fn.body.bind fun c =>
    (code c ⟨putArgs args 0 .lf, args.length + (fn.ntmps - args.length), h, []⟩).bind fun
    | (.exit _, _) => none
    | (_, s) => (leave s.ds s.h).bind fun h' => (resultsA P s.env h' fn.results.toList).bind fun vs => some (oneOf vs, h')
noncomputable def keepT {α : Type} (t : T α) : List Nat → T α
  | [] => .lf
  | i :: is => (keepT t is).put i (t.get i)
/-- Is it slices.Insert amid a slice whose capacity isn't known? -/
def isIns : Ek → List V → Bool
  | .insert, [.sl _ _ n none, .int .i64 (.ofNat i), .sl _ _ _ (some _)] => Nat.blt i n
  | _, _ => false
def isInsert : Ek → List V → Bool
  | .insert, _ => true
  | .texts, [.ls _ _, .ls _ _] => false
  | .texts, _ => true
  | .encode, _ => false
  | .hasPfx, [.str _, .str _] => true
  | .clone, [.str _] => true
  | _, _ => false
def oldV (n : Nat) : V → Bool
  | .ptr i _ => Nat.blt i n
  | .nilptr => true
  | _ => false
/-- slices.Insert amid a slice whose capacity isn't known: whether there is room or not, the same elements come out; the old row is given up. -/
noncomputable def insertA (body : List V → H → Option (V × H)) (args : List V) (h : H) : Option (V × H) :=
  match args with
  | [.sl id off n none, i, .sl vid vo vl vc] => (rowOf h id).bind fun r => (rowOf h vid).bind fun rv =>
      grd (!r.ro && !r.st && Nat.beq r.sz 1 && Nat.beq r.frz 0 && !rv.ro && !Nat.beq id vid) <|
      (body [.sl id off n (some n), i, .sl vid vo vl vc] ⟨keepT h.objs [id, vid], h.next⟩).bind fun o1 =>
      (body [.sle id off n (n + 1), i, .sl vid vo vl vc] ⟨keepT h.objs [id, vid], h.next⟩).bind fun o2 =>
      (match o1.1, o2.1 with
       | .sl a a0 l1 none, .sle b b0 l2 _ => (rowOf o1.2 a).bind fun r1 => (rowOf o2.2 b).bind fun r2 =>
           grd (Nat.beq b id && Nat.beq b0 off && Nat.beq a0 0 && Nat.beq l1 (n + 1) && Nat.beq l2 (n + 1) && Nat.beq r1.sz 1 && Nat.beq r2.sz 1 && !r1.st && !r2.st && Nat.beq r1.frz 0 && Nat.beq r2.frz 0 && Nat.beq r1.elem r.elem && Nat.beq r2.elem r.elem && !r1.ro && !r2.ro
             && Nat.ble (n + 1) r1.cs.length && Nat.ble (off + (n + 1)) r2.cs.length && sameL (r1.cs.take (n + 1)) ((r2.cs.drop off).take (n + 1)) && (r1.cs.take (n + 1)).all (oldV h.next))
             (some (.sl h.next 0 (n + 1) none, (((h.bump 1).set id none).set vid none).set h.next (some (.row ⟨r1.cs.take (n + 1), r.elem, 1, 0, false, false, false⟩))))
       | _, _ => none)
  | _ => none
mutual
noncomputable def codeA (C : Cfg) : Nat → Bool → Code → S → Option (X × S)
  | 0, _, _, _ => none
  | f + 1, rd, c, s =>
    match c with
    | .skip | .label _ => some (.norm, s)
    | .ret => some (.ret, s)
    | .exit id => some (.exit id, s)
    | .seq a b => (codeA C f rd a s).bind fun
        | (.norm, s') => codeA C f rd b s'
        | r => some r
    | .cond x a b => (evT C.P s.env x).bind fun
        | .bool q => cond q (codeA C f rd a s) (codeA C f rd b s)
        | _ => none
    | .block id c => (codeA C f rd c s).bind fun
        | (.exit i, s') => some (cond (Nat.beq i id) .norm (.exit i), s')
        | r => some r
    | .loop c => (codeA C f rd c s).bind fun
        | (.norm, s') => codeA C f rd (.loop c) s'
        | r => some r
    | .scope c => codeA C f rd c s
    | .region _ ops draw => (cond draw (drawA C.P (callA C f) ops s) (opsA C.P (callA C f) rd (dstOf ops) ops.toList s)).bind fun s' => some (.norm, s')
    | .rangeFunc g ps asg body => cond rd none ((evT C.P s.env g).bind fun
        | .func (.func g) first captured => grd (((C.P.funcs[g]?).bind (·.body)).isSome) <|
          (callA C f (.fn g) (first ++ [.yield (s.h.next + 1)] ++ captured) (((s.h.bump 2).set s.h.next (some (.defs true))).set (s.h.next + 1) (some (.loop .ready none s.env s.n ps.toList asg body s.h.next)))).bind fun r =>
          (loopOf r.2 (s.h.next + 1)).bind fun (st, pend, env, n, ps', asg', body', D) => cond (isBusy st) none <|
            let s' : S := ⟨s.env, s.n, r.2.set (s.h.next + 1) (some (.loop .exhausted pend env n ps' asg' body' D)), .mark s.h.next :: s.ds⟩
            (match pend with
             | none => some (.norm, s')
             | some .ret => some (.ret, s')
             | some (.exit id) => some (.exit id, s')
             | _ => none)
        | _ => none)
    | _ => none
noncomputable def callA (C : Cfg) : Nat → Tg → List V → H → Option (V × H)
  | 0, _, _, _ => none
  | f + 1, .fn g, args, h =>
    osel (memo1 C.memo g args h) (osel (getExt C.ext g) (bodyOf C.P (codeA C f false) (leaveA C f) g args h)
      (fun e => cond (isIns e args) (insertA (bodyOf C.P (codeA C f false) (leaveA C f) g) args h) (cond (isInsert e args) (bodyOf C.P (codeA C f false) (leaveA C f) g args h) (extA C.P e args h)))) some
  | f + 1, .yield l, args, h =>
    (loopOf h l).bind fun (st, pend, env, n, ps, asg, body, D) => (puts n ps args env).bind fun env' =>
      (codeA C f true asg ⟨env', n, h, []⟩).bind fun
      | (.norm, s1) => (loopOf s1.h l).bind fun (st1, pend1, env1, n1, ps1, asg1, body1, D1) => cond (isReady st1)
          ((codeA C f true body ⟨s1.env, n, s1.h.set l (some (.loop .busy pend1 env1 n1 ps1 asg1 body1 D1)), s1.ds⟩).bind fun r =>
            (loopOf r.2.h l).bind fun (_, _, env2, n2, ps2, asg2, body2, D2) =>
              (match r.1 with
               | .norm => some (.bool true, r.2.h.set l (some (.loop .ready none env2 n2 ps2 asg2 body2 D2)))
               | .ret => some (.bool false, r.2.h.set l (some (.loop .done (some .ret) env2 n2 ps2 asg2 body2 D2)))
               | .exit id => some (.bool false, r.2.h.set l (some (.loop .done (some (.exit id)) env2 n2 ps2 asg2 body2 D2)))))
          none
      | _ => none
/-- The deferred calls of an activation that returns. -/
noncomputable def leaveA (C : Cfg) : Nat → List Df → H → Option H
  | 0, ds, h => (match ds with | [] => some h | _ => none)
  | f + 1, ds, h =>
    match ds with
    | [] => some h
    | .mark D :: ds => (h.get D).bind fun | .defs true => leaveA C f ds (h.set D (some (.defs false))) | _ => none
    | .call g args :: ds => (C.P.funcs[g]?).bind fun fn => fn.body.bind fun c =>
        (let s0 : S := ⟨putArgs args 0 .lf, args.length + (fn.ntmps - args.length), h, []⟩
         osel (recoverOf c) (codeA C f false c s0) fun p => codeA C f false p.2 ⟨putT s0.env s0.n p.1 .nilif, s0.n, h, []⟩).bind fun
        | (.exit _, _) => none
        | (_, s) => (match s.ds with | [] => (resultsA C.P s.env s.h fn.results.toList).bind fun _ => leaveA C f ds s.h | _ => none)
end

/-! ### Where a map is walked: every order -/
def bindL {α β : Type} (f : α → Option (List β)) : List α → Option (List β)
  | [] => some []
  | a :: r => (f a).bind fun x => (bindL f r).bind fun y => some (x ++ y)
def hasN (n : Nat) : List Nat → Bool
  | [] => false
  | m :: r => Nat.beq m n || hasN n r
def isNil {α : Type} : List α → Bool | [] => true | _ => false
/-- What the next step of a walk over a map may be. -/
noncomputable def nextN (x : V) (h : H) : Option (List (V × H)) :=
  x.ptr?.bind fun p => (h.get p.1).bind fun
  | .miter (some mid) since seen last => grd (Nat.beq p.2 0) ((mapAt h mid).bind fun q =>
      grd (isNil seen || isNil q.1 || !(q.1.all fun e => Nat.ble last e.2.2)) <|
      let left := q.1.filter fun e => !hasN e.2.2 seen
      let old := left.filter fun e => Nat.blt e.2.2 since
      let new := left.filter fun e => !Nat.blt e.2.2 since
      some ((cond (isNil old) [(V.tup [.bool false], h)] []) ++ (old ++ new).map fun e => (.tup [.bool true, e.1, e.2.1], h.set p.1 (some (.miter (some mid) since (seen ++ [e.2.2]) q.2)))))
  | _ => none
noncomputable def stepN (P : Program) (callN : FuncId → List V → H → Option (List (V × H))) (call : Tg → List V → H → Option (V × H)) (forks : List Nat) (o : Oper) (s : S) : Option (List S) :=
  match o.op with
  | .next x false => (evT P s.env x).bind fun v => (nextN v s.h).bind fun l => some (l.map fun r => ⟨putT s.env s.n o.dst r.1, s.n, r.2, s.ds⟩)
  | .call c => (match calleeA (evT P s.env) o with
      | some (.fn g, args) => cond (hasN g forks) ((callN g args s.h).bind fun l => some (l.map fun r => ⟨putT s.env s.n o.dst r.1, s.n, r.2, s.ds⟩)) ((stepA P call false o s).bind fun s' => some [s'])
      | _ => (stepA P call false o s).bind fun s' => some [s'])
  | _ => (stepA P call false o s).bind fun s' => some [s']
noncomputable def opsN (P : Program) (callN : FuncId → List V → H → Option (List (V × H))) (call : Tg → List V → H → Option (V × H)) (forks : List Nat) (dsts : Nat → Option Tmp) : List Oper → S → Option (List S)
  | [], s => some [s]
  | o :: os, s => (wantA dsts s.env o).bind fun b => (cond b (stepN P callN call forks o s) (some [⟨putT s.env s.n o.dst .undef, s.n, s.h, s.ds⟩])).bind fun ss => bindL (opsN P callN call forks dsts os) ss
mutual
noncomputable def codeN (C : Cfg) (forks : List Nat) : Nat → Code → S → Option (List (X × S))
  | 0, _, _ => none
  | f + 1, c, s =>
    match c with
    | .seq a b => (codeN C forks f a s).bind fun l => bindL (fun r => match r.1 with | .norm => codeN C forks f b r.2 | _ => some [r]) l
    | .cond x a b => (evT C.P s.env x).bind fun
        | .bool q => cond q (codeN C forks f a s) (codeN C forks f b s)
        | _ => none
    | .block id c => (codeN C forks f c s).bind fun l => some (l.map fun r => match r.1 with | .exit i => (cond (Nat.beq i id) .norm (.exit i), r.2) | _ => r)
    | .loop c => (codeN C forks f c s).bind fun l => bindL (fun r => match r.1 with | .norm => codeN C forks f (.loop c) r.2 | _ => some [r]) l
    | .scope c => codeN C forks f c s
    | .region _ ops false => (opsN C.P (callN C forks f) (callA C f) forks (dstOf ops) ops.toList s).bind fun l => some (l.map fun s' => (.norm, s'))
    | c => (codeA C (f + 1) false c s).bind fun r => some [r]
noncomputable def callN (C : Cfg) (forks : List Nat) : Nat → FuncId → List V → H → Option (List (V × H))
  | 0, _, _, _ => none
  | f + 1, g, args, h =>
    osel (getMemo C.memo g args h) ((C.P.funcs[g]?).bind fun fn => fn.body.bind fun c =>
      (codeN C forks f c ⟨putArgs args 0 .lf, args.length + (fn.ntmps - args.length), h, []⟩).bind fun l => bindL (fun r => match r.1 with
        | .exit _ => none
        | _ => (leaveA C f r.2.ds r.2.h).bind fun h' => (resultsA C.P r.2.env h' fn.results.toList).bind fun vs => some [(oneOf vs, h')]) l) some
end
end Go.Proofs.YtejnegabdjpipaaGreatDoor.AM

/- The smaller machine's operations that don't look at memory. -/
namespace Go.Proofs.YtejnegabdjpipaaGreatDoor.AM
variable [Syms]
open Go.RowKit (Below)

section
variable {P : Program} {m : Mu} {w : World} {ev : Operand → Option V} {ρ : Operand → Value}

theorem evAll_ok (hev : ∀ x v, ev x = some v → VRel m v (ρ x)) : ∀ {xs : List Operand} {vs : List V}, evAll ev xs = some vs → VsRel m vs (xs.map ρ)
  | [], vs, e => by injection e with e; subst e; exact .nil
  | x :: xs, vs, e => by
    replace e := bnd_some.1 e; obtain ⟨v, h1, e⟩ := e
    replace e := bnd_some.1 e; obtain ⟨r, h2, e⟩ := e
    injection e with e; subst e
    exact .cons _ _ _ _ (hev _ _ h1) (evAll_ok hev h2)
theorem partsOf_ok (hev : ∀ x v, ev x = some v → VRel m v (ρ x)) : ∀ {ps : List (Nat × Operand)} {vs : List (Nat × V)}, partsOf ev ps = some vs → PsRel m vs (ps.map fun p => (p.1, ρ p.2))
  | [], vs, e => by injection e with e; subst e; exact .nil
  | (i, x) :: ps, vs, e => by
    replace e := bnd_some.1 e; obtain ⟨v, h1, e⟩ := e
    replace e := bnd_some.1 e; obtain ⟨r, h2, e⟩ := e
    injection e with e; subst e
    exact .cons _ _ _ _ _ (hev _ _ h1) (partsOf_ok hev h2)

theorem toCells_inv : ∀ {vs : List V} {cs cs' : List Value}, toCells vs = some cs → VsRel m vs cs' → cs' = cs
  | [], cs, cs', e, h => by cases h; injection e
  | v :: vs, cs, cs', e, h => by
    cases h with
    | cons _ v' _ vs' hv hvs =>
      cases v <;> simp only [toCells] at e <;> first | (cases e; done) | skip
      all_goals
        replace e := bnd_some.1 e; obtain ⟨r, h2, e⟩ := e
        injection e with e; subst e
        cases hv
        rw [toCells_inv h2 hvs]
theorem toValue_inv {v : V} {x x' : Value} (e : toValue v = some x) (h : VRel m v x') : x' = x := by
  cases v <;> simp only [toValue] at e <;> first | (cases e; done) | skip
  case agg vs =>
    replace e := bnd_some.1 e; obtain ⟨r, h2, e⟩ := e
    injection e with e; subst e
    obtain ⟨vs', hv, rfl⟩ := agg_inv h
    rw [toCells_inv h2 hv]
  all_goals (injection e with e; subst e; cases h; rfl)

theorem prun_run {α : Type} : ∀ {s : Sem α} {a : α}, prun P s = some a → s.run P w = .ok a w
  | .pure a, b, e => by injection e with e; subst e; rfl
  | .program k, b, e => prun_run (s := k P) e
  | .mark _ k, b, e => prun_run (s := k) e
  | .load .., _, e | .store .., _, e | .new .., _, e | .shape .., _, e | .freeze .., _, e | .frozen .., _, e | .getObj .., _, e | .setObj .., _, e | .choose .., _, e | .sys .., _, e | .halt .., _, e => by cases e
theorem plainArgs_ok : ∀ {xs : List Operand}, plainArgs ev xs = some () → ∀ x ∈ xs, ∃ v y, ev x = some v ∧ toValue v = some y
  | [], _, x, hx => by cases hx
  | a :: xs, e, x, hx => by
    replace e := bnd_some.1 e; obtain ⟨v, h1, e⟩ := e
    replace e := bnd_some.1 e; obtain ⟨y, h2, e⟩ := e
    cases hx with
    | head => exact ⟨v, y, h1, h2⟩
    | tail _ hx => exact plainArgs_ok e x hx
theorem plain_ok (hev : ∀ x v, ev x = some v → VRel m v (ρ x)) {o : Oper} {v : V} (hs : ∀ cs b, o.op ≠ .select cs b) (e : plainA P ev o = some v) :
    ∃ v', (execOp ρ o).run P w = .ok (.value v') w ∧ VRel m v v' := by
  replace e := bnd_some.1 e; obtain ⟨u, h1, e⟩ := e
  replace e := bnd_some.1 e; obtain ⟨nx, h2, e⟩ := e
  have hc : execOp ρ o = execOp (plainEv ev) o := execOp_congr o hs fun x hx => by
    obtain ⟨v, y, e1, e2⟩ := plainArgs_ok h1 x (by simpa using hx)
    rw [toValue_inv e2 (hev x v e1)]
    simp [plainEv, e1, e2]
  cases nx <;> first | (cases e; done) | skip
  case value y => exact ⟨y, by rw [hc]; exact prun_run h2, ofValue_rel e⟩

/-! ### Arithmetic, and something against nil -/
theorem intA_ok {op : BinOp} {k : IntKind} {a b : Int} {v : V} {t : TypeId} {x y : Operand} (e : intA op k a b = some v) :
    ∃ v', (do eqGuard op t x y (.int k a) (.int k b); binOp op t (.int k a) (.int k b) : Sem Value).run P w = .ok v' w ∧ VRel m v v' := by
  cases op <;> simp only [intA] at e <;> first | (cases e; done) | skip
  all_goals
    injection e with e
    subst e
    exact ⟨_, by simp [eqGuard, binOp, Op.intArith, Op.intCmp]; rfl, by constructor⟩

theorem eqT_eq : ∀ a b : List UInt8, eqT a b = (a == b)
  | [], [] => rfl
  | a :: x, b :: y => by
    have h : Nat.beq a.toNat b.toNat = (a == b) := by
      rw [Bool.eq_iff_iff, beq_iff_eq]
      constructor
      · intro h; exact UInt8.toNat_inj.1 (Nat.eq_of_beq_eq_true h)
      · rintro rfl; exact Nat.beq_refl _
    show (Nat.beq a.toNat b.toNat && eqT x y) = ((a :: x) == (b :: y))
    rw [h, eqT_eq x y]; rfl
  | [], _ :: _ => rfl
  | _ :: _, [] => rfl
theorem strA_ok {op : BinOp} {a b : List UInt8} {v : V} {t : TypeId} {x y : Operand} (e : strA op a b = some v) :
    ∃ v', (do eqGuard op t x y (.string ⟨a.toArray⟩) (.string ⟨b.toArray⟩); binOp op t (.string ⟨a.toArray⟩) (.string ⟨b.toArray⟩) : Sem Value).run P w = .ok v' w ∧ VRel m v v' := by
  have tl : ∀ l : List UInt8, (⟨l.toArray⟩ : ByteArray).toList = l := fun l => by rw [ByteArray.toList_eq]
  have sz : ∀ l : List UInt8, (⟨l.toArray⟩ : ByteArray).size = l.length := fun l => by simp [ByteArray.size]
  cases op <;> simp only [strA] at e <;> first | (cases e; done) | skip
  case add =>
    replace e := grd_some.1 e; obtain ⟨hg, e⟩ := e
    injection e with e; subst e
    have hg := Nat.le_of_ble_eq_true hg
    have hap : (⟨a.toArray⟩ ++ ⟨b.toArray⟩ : ByteArray) = ⟨(a ++ b).toArray⟩ := by
      apply ByteArray.ext
      rw [ByteArray.data_append]
      simp
    have hmax : ¬ (((a.length + b.length : Nat) : Int) > IntKind.i64.max) := by simp [IntKind.max, IntKind.bits, IntKind.signed]; omega
    refine ⟨.string ⟨(a ++ b).toArray⟩, ?_, .str _⟩
    simp only [eqGuard, binOp, Op.stringOp, sz, hap]
    rw [if_neg hmax]
    rfl
  all_goals
    injection e with e
    subst e
    first | rw [eqT_eq] | skip
    exact ⟨_, by simp only [eqGuard, binOp, Op.stringOp, tl]; rfl, by constructor⟩
theorem eqGuard_nil {op : BinOp} {t : TypeId} {x y : Operand} {a b : Value} (h1 : ¬ (a = .nilIface ∧ b = .nilIface)) (h2 : ∀ p q, ¬ (a = .agg p ∧ b = .agg q)) : (eqGuard op t x y a b).run P w = .ok () w := by
  have key : (match a, b with
    | .nilIface, .nilIface => (do
      if (x matches .const _) || (y matches .const _) then return
      if ← Op.eqGuardIn Op.maxDepth t a b then unsupported (.noEntry "binop/eql: two nil values of an interface type with methods, neither of them the literal nil") : Sem Unit)
    | .agg _, .agg _ => (do
      if !(← program).eqGuardType (← program).depth t then return
      if ← Op.eqGuardIn Op.maxDepth t a b then unsupported (.noEntry "binop/eql: two nil values of an interface type with methods, in a part of a struct or an array"))
    | _, _ => pure ()).run P w = .ok () w := by
    cases a <;> cases b <;> first | rfl | exact absurd ⟨rfl, rfl⟩ h1 | exact absurd ⟨rfl, rfl⟩ (h2 _ _)
  cases op <;> first | rfl | exact key
/-- What a value of the kind is, nil or not. -/
def NzIs (m : Mu) : TypeDesc → Bool → V → Value → Prop
  | .pointer _, true, _, x' => x' = .pointer none
  | .pointer _, false, x, x' => ∃ i a L, x = .ptr i a ∧ m i = some L ∧ x' = .pointer (some ⟨L.b, L.d + a, none⟩)
  | .slice _, true, _, x' => x' = .slice none 0 0
  | .slice _, false, _, x' => ∃ a l c, x' = .slice (some a) l c
  | .map _ _, true, _, x' => x' = .map none
  | .map _ _, false, _, x' => ∃ a, x' = .map (some a)
  | .interface _, true, _, x' => x' = .nilIface
  | .interface _, false, _, x' => ∃ t v, x' = .iface t v
  | .func _ _ _, true, _, x' => x' = .nilFunc
  | .func _ _ _, false, _, x' => ∃ f a b, x' = .func f a b
  | _, _, _, _ => False
theorem nz_ok {d : TypeDesc} {x : V} {x' : Value} {b : Bool} (e : nz d x = some b) (h : VRel m x x') : NzIs m d b x x' := by
  unfold nz at e
  split at e
  case h_13 => cases e
  all_goals (injection e with e; subst e; cases h <;> simp only [NzIs] <;> first | rfl | exact ⟨_, _, _, rfl, ‹_›, rfl⟩ | exact ⟨_, _, _, rfl⟩ | exact ⟨_, _, _, rfl⟩ | exact ⟨_, _, rfl⟩ | exact ⟨_, rfl⟩)
theorem nilIn_ok (dd : Nat) {t : TypeId} {x y : V} {x' y' : Value} {b : Bool} (e : nilA P t x y = some b) (hx : VRel m x x') (hy : VRel m y y') :
    (¬ (x' = .nilIface ∧ y' = .nilIface)) ∧ (∀ p q, ¬ (x' = .agg p ∧ y' = .agg q)) ∧ (Op.equalIn (dd + 1) t x' y').run P w = .ok b w := by
  replace e := bnd_some.1 e; obtain ⟨d, hd, e⟩ := e
  replace e := bnd_some.1 e; obtain ⟨p, hp, e⟩ := e
  replace e := bnd_some.1 e; obtain ⟨q, hq, e⟩ := e
  have h1 := nz_ok hp hx
  have h2 := nz_ok hq hy
  clear hp hq hx hy
  cases d <;> simp only [NzIs] at h1 <;> first | (exact h1.elim) | skip
  case pointer el =>
    cases p <;> cases q <;> simp only [NzIs] at h1 h2
    · obtain ⟨i, a, L, rfl, m1, rfl⟩ := h1
      obtain ⟨j, c, L', rfl, m2, rfl⟩ := h2
      have e : (szOf P el).bind (fun n => grd (!Nat.beq n 0 && Nat.beq i j) (some (Nat.beq a c))) = some b := e
      replace e := bnd_some.1 e; obtain ⟨n, hn, e⟩ := e
      replace e := grd_some.1 e; obtain ⟨hg, e⟩ := e
      injection e with e; subst e
      simp only [Bool.and_eq_true, Bool.not_eq_true'] at hg
      have hij := Nat.eq_of_beq_eq_true hg.2
      subst hij
      rw [m1] at m2; injection m2 with m2; subst m2
      have hn0 : n ≠ 0 := by intro h0; subst h0; cases hg.1
      refine ⟨by simp, by simp, ?_⟩
      simp only [Op.equalIn, Sem.run_bind, run_underlying hd, Result.andThen_ok, run_sizeOf hn]
      rw [if_pos hn0]
      simp only [sameAddr, beq_self_eq_true, if_true, Sem.run_pure]
      congr 1
      cases hb : Nat.beq a c with
      | true => have := Nat.eq_of_beq_eq_true hb; subst this; simp
      | false =>
        have hne : a ≠ c := by intro h; subst h; rw [Nat.beq_refl] at hb; cases hb
        simp [hne]
    · obtain ⟨i, a, L, rfl, m1, rfl⟩ := h1
      subst h2; injection e with e; subst e
      exact ⟨by simp, by simp, by simp [Op.equalIn, run_underlying hd]⟩
    · obtain ⟨i, a, L, rfl, m1, rfl⟩ := h2
      subst h1; injection e with e; subst e
      exact ⟨by simp, by simp, by simp [Op.equalIn, run_underlying hd]⟩
    · subst h1; subst h2; injection e with e; subst e
      exact ⟨by simp, by simp, by simp [Op.equalIn, run_underlying hd]⟩
  case slice el =>
    cases p <;> cases q <;> simp only [NzIs] at h1 h2
    · cases e
    · obtain ⟨a1, a2, a3, rfl⟩ := h1; subst h2; injection e with e; subst e
      exact ⟨by simp, by simp, by simp [Op.equalIn, run_underlying hd]⟩
    · obtain ⟨a1, a2, a3, rfl⟩ := h2; subst h1; injection e with e; subst e
      exact ⟨by simp, by simp, by simp [Op.equalIn, run_underlying hd]⟩
    · subst h1; subst h2; injection e with e; subst e
      exact ⟨by simp, by simp, by simp [Op.equalIn, run_underlying hd]⟩
  case map k el =>
    cases p <;> cases q <;> simp only [NzIs] at h1 h2
    · cases e
    · obtain ⟨a1, rfl⟩ := h1; subst h2; injection e with e; subst e
      exact ⟨by simp, by simp, by simp [Op.equalIn, run_underlying hd]⟩
    · obtain ⟨a1, rfl⟩ := h2; subst h1; injection e with e; subst e
      exact ⟨by simp, by simp, by simp [Op.equalIn, run_underlying hd]⟩
    · subst h1; subst h2; injection e with e; subst e
      exact ⟨by simp, by simp, by simp [Op.equalIn, run_underlying hd]⟩
  case interface ms =>
    cases p <;> cases q <;> simp only [NzIs] at h1 h2
    · cases e
    · obtain ⟨a1, a2, rfl⟩ := h1; subst h2; injection e with e; subst e
      exact ⟨by simp, by simp, by simp [Op.equalIn, run_underlying hd]⟩
    · obtain ⟨a1, a2, rfl⟩ := h2; subst h1; injection e with e; subst e
      exact ⟨by simp, by simp, by simp [Op.equalIn, run_underlying hd]⟩
    · cases e
  case func ps rs va =>
    cases p <;> cases q <;> simp only [NzIs] at h1 h2
    · cases e
    · obtain ⟨a1, a2, a3, rfl⟩ := h1; subst h2; injection e with e; subst e
      exact ⟨by simp, by simp, by simp [Op.equalIn, run_underlying hd]⟩
    · obtain ⟨a1, a2, a3, rfl⟩ := h2; subst h1; injection e with e; subst e
      exact ⟨by simp, by simp, by simp [Op.equalIn, run_underlying hd]⟩
    · subst h1; subst h2; injection e with e; subst e
      exact ⟨by simp, by simp, by simp [Op.equalIn, run_underlying hd]⟩
theorem nilA_ok {t : TypeId} {x y : V} {x' y' : Value} {b : Bool} (e : nilA P t x y = some b) (hx : VRel m x x') (hy : VRel m y y') :
    (¬ (x' = .nilIface ∧ y' = .nilIface)) ∧ (∀ p q, ¬ (x' = .agg p ∧ y' = .agg q)) ∧ (Op.equal t x' y').run P w = .ok b w := nilIn_ok 9999 e hx hy
end
end Go.Proofs.YtejnegabdjpipaaGreatDoor.AM

/- The smaller machine's operations that don't look at memory, whole. -/
namespace Go.Proofs.YtejnegabdjpipaaGreatDoor.AM
variable [Syms]
open Go.RowKit (Below)

section
variable {P : Program} {m : Mu} {w : World} {ev : Operand → Option V} {ρ : Operand → Value}

theorem bin_ok {op : BinOp} {t : TypeId} {x y : Operand} {a b v : V} {a' b' : Value} (e : binA P op t a b = some v) (ha : VRel m a a') (hb : VRel m b b') :
    ∃ v', (do eqGuard op t x y a' b'; binOp op t a' b' : Sem Value).run P w = .ok v' w ∧ VRel m v v' := by
  unfold binA at e
  split at e
  · obtain rfl := str_inv ha
    obtain rfl := str_inv hb
    exact strA_ok e
  · rename_i a1 k
    obtain rfl := int_inv ha
    replace e := grd_some.1 e; obtain ⟨hg, e⟩ := e
    injection e with e; subst e
    have hg : a1 ≤ (k : Int) := of_decide_eq_true hg
    cases hb with
    | atl _ c hc =>
      refine ⟨.bool false, ?_, .bool _⟩
      have : ¬ ((c : Int) < a1) := by omega
      simp [eqGuard, binOp, Op.intCmp, this]
  · rename_i k p k' q
    obtain rfl := int_inv ha
    obtain rfl := int_inv hb
    by_cases hk : k = k'
    · subst hk
      simp only [decide_true] at e
      exact intA_ok e
    · simp only [hk, decide_false] at e; cases e
  · rename_i hni
    replace e := bnd_some.1 e; obtain ⟨r, hr, e⟩ := e
    injection e with e; subst e
    obtain ⟨h1, h2, h3⟩ := nilA_ok (w := w) hr ha hb
    refine ⟨.bool r, ?_, .bool r⟩
    rw [Sem.run_bind, eqGuard_nil h1 h2]
    simp only [Result.andThen_ok]
    have : binOp .eql t a' b' = (do pure (.bool (← Op.equal t a' b')) : Sem Value) := by
      replace hr := bnd_some.1 hr; obtain ⟨d, hd, hr⟩ := hr
      replace hr := bnd_some.1 hr; obtain ⟨p, hp, hr⟩ := hr
      replace hr := bnd_some.1 hr; obtain ⟨q, hq, hr⟩ := hr
      have n1 := nz_ok hp ha
      have n2 := nz_ok hq hb
      cases d <;> simp only [NzIs] at n1 <;> first | (exact n1.elim) | skip
      all_goals
        cases p <;> cases q <;> simp only [NzIs] at n1 n2
        all_goals
          (repeat (first | (obtain ⟨_, n1⟩ := n1) | (obtain ⟨_, n2⟩ := n2)))
          first | subst n1 | skip
          first | subst n2 | skip
          first | rfl | skip
    rw [this, Sem.run_bind, h3]
    rfl
  · rename_i hni
    replace e := bnd_some.1 e; obtain ⟨r, hr, e⟩ := e
    injection e with e; subst e
    obtain ⟨h1, h2, h3⟩ := nilA_ok (w := w) hr ha hb
    refine ⟨.bool (!r), ?_, .bool _⟩
    rw [Sem.run_bind, eqGuard_nil h1 h2]
    simp only [Result.andThen_ok]
    have : binOp .neq t a' b' = (do pure (.bool (!(← Op.equal t a' b'))) : Sem Value) := by
      replace hr := bnd_some.1 hr; obtain ⟨d, hd, hr⟩ := hr
      replace hr := bnd_some.1 hr; obtain ⟨p, hp, hr⟩ := hr
      replace hr := bnd_some.1 hr; obtain ⟨q, hq, hr⟩ := hr
      have n1 := nz_ok hp ha
      have n2 := nz_ok hq hb
      cases d <;> simp only [NzIs] at n1 <;> first | (exact n1.elim) | skip
      all_goals
        cases p <;> cases q <;> simp only [NzIs] at n1 n2
        all_goals
          (repeat (first | (obtain ⟨_, n1⟩ := n1) | (obtain ⟨_, n2⟩ := n2)))
          first | subst n1 | skip
          first | subst n2 | skip
          first | rfl | skip
    rw [this, Sem.run_bind, h3]
    rfl
  · cases e

theorem symCell_ok {x y : V} {x' y' : Value} {d : TypeDesc} (e : symCell x y = true) (ht : symTy d x = true) (hx : VRel m x x') (hy : VRel m y y') : x' = y' ∧ ((d = .string ∧ ∃ s, x' = .string s) ∨ ∃ k n, d = .int k ∧ x' = .int k n) := by
  unfold symCell at e
  split at e
  · obtain rfl := Nat.eq_of_beq_eq_true e
    cases hx; cases hy
    refine ⟨rfl, .inl ⟨?_, _, rfl⟩⟩
    cases d <;> first | rfl | cases ht
  · simp only [Bool.and_eq_true, decide_eq_true_iff] at e
    obtain ⟨rfl, e⟩ := e
    obtain rfl := Nat.eq_of_beq_eq_true e
    cases hx; cases hy
    refine ⟨rfl, .inr ⟨_, _, ?_, rfl⟩⟩
    cases d <;> first | (cases ht; done) | (rename_i q; have ht : decide (q = _) = true := ht; rw [of_decide_eq_true ht])
  · rw [eqT_eq] at e
    obtain rfl := eq_of_beq e
    obtain rfl := str_inv hx
    obtain rfl := str_inv hy
    refine ⟨rfl, .inl ⟨?_, _, rfl⟩⟩
    cases d <;> first | rfl | cases ht
  · simp only [Bool.and_eq_true, decide_eq_true_iff] at e
    obtain ⟨rfl, rfl⟩ := e
    obtain rfl := int_inv hx
    obtain rfl := int_inv hy
    refine ⟨rfl, .inr ⟨_, _, ?_, rfl⟩⟩
    cases d <;> first | (cases ht; done) | (rename_i q; have ht : decide (q = _) = true := ht; rw [of_decide_eq_true ht])
  · cases e
theorem symFields_ok (dd : Nat) {a b : List V} {a' b' : List Value} (ha : VsRel m a a') (hb : VsRel m b b') : ∀ {fs : List Field}, symFields P a b fs = some () → (Op.eqFields (dd + 1) a'.toArray b'.toArray fs).run P w = .ok true w
  | [], _ => by simp [Op.eqFields]
  | f :: fs, e => by
    replace e := bnd_some.1 (show (P.underlying f.type).bind _ = some () from e); obtain ⟨d, hd, e⟩ := e
    replace e := bnd_some.1 e; obtain ⟨x, hx, e⟩ := e
    replace e := bnd_some.1 e; obtain ⟨y, hy, e⟩ := e
    replace e := grd_some.1 e; obtain ⟨hg, e⟩ := e
    simp only [Bool.and_eq_true] at hg
    rw [lget_eq] at hx hy
    obtain ⟨x', h1, h2⟩ := ha.get hx
    obtain ⟨y', h3, h4⟩ := hb.get hy
    have ih := symFields_ok dd ha hb e
    obtain ⟨rfl, hk⟩ := symCell_ok hg.1 hg.2 h2 h4
    have hagg : ∀ w, (isAgg f.type).run P w = .ok false w := fun w => run_isAgg (by
      unfold isAggB
      rw [hd]
      rcases hk with ⟨rfl, _⟩ | ⟨_, _, rfl, _⟩ <;> rfl) w
    have hp1 : (part f.type a'.toArray f.offset).run P w = .ok x' w := by simp [part, hagg, h1]
    have hp2 : (part f.type b'.toArray f.offset).run P w = .ok x' w := by simp [part, hagg, h3]
    have he : (Op.equalIn (dd + 1) f.type x' x').run P w = .ok true w := by
      rcases hk with ⟨rfl, s, rfl⟩ | ⟨k, n, rfl, rfl⟩
      · rw [run_equalIn_string w dd f.type s s hd]; simp
      · rw [run_equalIn_int w dd f.type k k n n hd]; simp
    simp only [Op.eqFields, Sem.run_ite]
    split
    · simp only [Sem.run_bind, hp1, hp2, he, Result.andThen_ok, Bool.not_true, Bool.false_eq_true, if_false, ih]
    · exact ih
theorem tx_ok {t : TypeId} {x y : Operand} (k : Nat) : (∃ v', (do eqGuard .eql t x y (.string ⟨(Syms.tx k).toArray⟩) (.string ⟨(Syms.tx k).toArray⟩); binOp .eql t (.string ⟨(Syms.tx k).toArray⟩) (.string ⟨(Syms.tx k).toArray⟩) : Sem Value).run P w = .ok v' w ∧ VRel m (.bool true) v') ∧
    ∃ v', (do eqGuard .neq t x y (.string ⟨(Syms.tx k).toArray⟩) (.string ⟨(Syms.tx k).toArray⟩); binOp .neq t (.string ⟨(Syms.tx k).toArray⟩) (.string ⟨(Syms.tx k).toArray⟩) : Sem Value).run P w = .ok v' w ∧ VRel m (.bool false) v' := by
  have q1 := strA_ok (P := P) (m := m) (w := w) (t := t) (x := x) (y := y) (op := .eql) (a := Syms.tx k) (b := Syms.tx k) (v := .bool (eqT (Syms.tx k) (Syms.tx k))) rfl
  have q2 := strA_ok (P := P) (m := m) (w := w) (t := t) (x := x) (y := y) (op := .neq) (a := Syms.tx k) (b := Syms.tx k) (v := .bool (!eqT (Syms.tx k) (Syms.tx k))) rfl
  rw [show eqT (Syms.tx k) (Syms.tx k) = true by rw [eqT_eq]; exact beq_self_eq_true _] at q1 q2
  exact ⟨q1, q2⟩
theorem nm_ok {t : TypeId} {x y : Operand} (kd : IntKind) (k : Nat) : (∃ v', (do eqGuard .eql t x y (.int kd (kd.wrap (Syms.nm k))) (.int kd (kd.wrap (Syms.nm k))); binOp .eql t (.int kd (kd.wrap (Syms.nm k))) (.int kd (kd.wrap (Syms.nm k))) : Sem Value).run P w = .ok v' w ∧ VRel m (.bool true) v') ∧
    ∃ v', (do eqGuard .neq t x y (.int kd (kd.wrap (Syms.nm k))) (.int kd (kd.wrap (Syms.nm k))); binOp .neq t (.int kd (kd.wrap (Syms.nm k))) (.int kd (kd.wrap (Syms.nm k))) : Sem Value).run P w = .ok v' w ∧ VRel m (.bool false) v' := by
  have q1 := intA_ok (P := P) (m := m) (w := w) (t := t) (x := x) (y := y) (op := .eql) (k := kd) (a := kd.wrap (Syms.nm k)) (b := kd.wrap (Syms.nm k)) (v := .bool (kd.wrap (Syms.nm k) == kd.wrap (Syms.nm k))) rfl
  have q2 := intA_ok (P := P) (m := m) (w := w) (t := t) (x := x) (y := y) (op := .neq) (k := kd) (a := kd.wrap (Syms.nm k)) (b := kd.wrap (Syms.nm k)) (v := .bool (kd.wrap (Syms.nm k) != kd.wrap (Syms.nm k))) rfl
  rw [beq_self_eq_true] at q1
  rw [bne_self_eq_false] at q2
  exact ⟨q1, q2⟩
theorem symBin_ok {op : BinOp} {t : TypeId} {x y : Operand} {a b v : V} {a' b' : Value} (e : symBin P op t a b = some v) (ha : VRel m a a') (hb : VRel m b b') :
    ∃ v', (do eqGuard op t x y a' b'; binOp op t a' b' : Sem Value).run P w = .ok v' w ∧ VRel m v v' := by
  have key : symA P t a b = some () → (∃ v', (do eqGuard .eql t x y a' b'; binOp .eql t a' b' : Sem Value).run P w = .ok v' w ∧ VRel m (.bool true) v') ∧ ∃ v', (do eqGuard .neq t x y a' b'; binOp .neq t a' b' : Sem Value).run P w = .ok v' w ∧ VRel m (.bool false) v' := by
    intro e
    unfold symA at e
    split at e
    · replace e := (grd_some.1 e).1
      obtain rfl := Nat.eq_of_beq_eq_true e
      cases ha; cases hb
      exact tx_ok _
    · replace e := (grd_some.1 e).1
      simp only [Bool.and_eq_true, decide_eq_true_iff] at e
      have e2 := Nat.eq_of_beq_eq_true e.2
      have e1 := e.1
      subst e1; subst e2
      cases ha; cases hb
      exact nm_ok _ _
    · rename_i a1 b1
      replace e := bnd_some.1 e; obtain ⟨d, hd, e⟩ := e
      split at e
      case h_2 => cases e
      case h_1 fs =>
        replace e := grd_some.1 e; obtain ⟨hg, e⟩ := e
        simp only [Bool.and_eq_true, Bool.not_eq_true'] at hg
        obtain ⟨a2, ha', rfl⟩ := agg_inv ha
        obtain ⟨b2, hb', rfl⟩ := agg_inv hb
        have hfs : P.fieldsOf t = fs := by simp [Program.fieldsOf, hd]
        have h1 := run_equalIn_struct (P := P) w 9999 t a2.toArray b2.toArray (by rw [hfs]; exact hd) hg.1
        rw [hfs, symFields_ok 9998 ha' hb' e] at h1
        refine ⟨⟨.bool true, ?_, .bool _⟩, .bool false, ?_, .bool _⟩
        · rw [Sem.run_bind, run_eqGuard_agg w .eql t x y _ _ hg.2]
          simp only [Result.andThen_ok]
          rw [run_eql_struct, h1]; rfl
        · rw [Sem.run_bind, run_eqGuard_agg w .neq t x y _ _ hg.2]
          simp only [Result.andThen_ok]
          rw [run_neq_struct, h1]; rfl
    · cases e
  unfold symBin at e
  split at e
  · replace e := bnd_some.1 e; obtain ⟨⟨⟩, h1, e⟩ := e
    injection e with e; subst e
    exact (key h1).1
  · replace e := bnd_some.1 e; obtain ⟨⟨⟩, h1, e⟩ := e
    injection e with e; subst e
    exact (key h1).2
  · cases e
theorem nv_inv {k : Nat} {c lo hi : Int} {rel : Option (Nat × Bool)} {x : Value} (h : VRel m (.nv k c lo hi rel) x) : ∃ v, x = .int .i64 v ∧ v = Syms.nm k + c ∧ lo ≤ v ∧ v ≤ hi ∧ relOK rel v := by
  cases h with
  | nv _ _ _ _ _ v e1 e2 e3 e4 => exact ⟨v, rfl, e1, e2, e3, e4⟩
theorem cmpB_ok {op : BinOp} {t : TypeId} {x y : Operand} {a b : Int} {lt ge : Bool} {v : V} (e : cmpB op lt ge = some v) (h1 : lt = true → a < b) (h2 : ge = true → b ≤ a) :
    ∃ v', (do eqGuard op t x y (.int .i64 a) (.int .i64 b); binOp op t (.int .i64 a) (.int .i64 b) : Sem Value).run P w = .ok v' w ∧ VRel m v v' := by
  unfold cmpB at e
  split at e
  · have q := intA_ok (P := P) (m := m) (w := w) (t := t) (x := x) (y := y) (op := .lss) (k := .i64) (a := a) (b := b) (v := .bool (decide (a < b))) rfl
    cases lt with
    | true => injection e with e; subst e; rw [decide_eq_true (h1 rfl)] at q; exact q
    | false => cases ge with
      | true => injection e with e; subst e; rw [decide_eq_false (by have := h2 rfl; omega)] at q; exact q
      | false => cases e
  · have q := intA_ok (P := P) (m := m) (w := w) (t := t) (x := x) (y := y) (op := .geq) (k := .i64) (a := a) (b := b) (v := .bool (decide (a ≥ b))) rfl
    cases ge with
    | true => injection e with e; subst e; rw [decide_eq_true (h2 rfl)] at q; exact q
    | false => cases lt with
      | true => injection e with e; subst e; rw [decide_eq_false (by have := h1 rfl; omega)] at q; exact q
      | false => cases e
  · cases e
theorem cmpC_ok {op : BinOp} {t : TypeId} {x y : Operand} {a b : Int} {gt le : Bool} {v : V} (e : cmpC op gt le = some v) (h1 : gt = true → b < a) (h2 : le = true → a ≤ b) :
    ∃ v', (do eqGuard op t x y (.int .i64 a) (.int .i64 b); binOp op t (.int .i64 a) (.int .i64 b) : Sem Value).run P w = .ok v' w ∧ VRel m v v' := by
  unfold cmpC at e
  split at e
  · have q := intA_ok (P := P) (m := m) (w := w) (t := t) (x := x) (y := y) (op := .gtr) (k := .i64) (a := a) (b := b) (v := .bool (decide (a > b))) rfl
    cases gt with
    | true => injection e with e; subst e; rw [decide_eq_true (h1 rfl)] at q; exact q
    | false => cases le with
      | true => injection e with e; subst e; rw [decide_eq_false (by have := h2 rfl; omega)] at q; exact q
      | false => cases e
  · have q := intA_ok (P := P) (m := m) (w := w) (t := t) (x := x) (y := y) (op := .leq) (k := .i64) (a := a) (b := b) (v := .bool (decide (a ≤ b))) rfl
    cases le with
    | true => injection e with e; subst e; rw [decide_eq_true (h2 rfl)] at q; exact q
    | false => cases gt with
      | true => injection e with e; subst e; rw [decide_eq_false (by have := h1 rfl; omega)] at q; exact q
      | false => cases e
  · cases e
theorem nv_or {α : Type} {x y : Option α} {a : α} (e : x.or y = some a) : x = some a ∨ y = some a := by
  cases x with
  | none => exact .inr (by simpa using e)
  | some b => exact .inl (by simpa using e)
theorem nvBin_ok {op : BinOp} {t : TypeId} {x y : Operand} {a b v : V} {a' b' : Value} (e : nvBin op a b = some v) (ha : VRel m a a') (hb : VRel m b b') :
    ∃ v', (do eqGuard op t x y a' b'; binOp op t a' b' : Sem Value).run P w = .ok v' w ∧ VRel m v v' := by
  unfold nvBin at e
  split at e
  · obtain rfl := int_inv ha
    obtain ⟨u, rfl, _, h2, h3, _⟩ := nv_inv hb
    rcases nv_or e with e | e
    · exact cmpB_ok e (fun h => by have := of_decide_eq_true h; omega) (fun h => by have := of_decide_eq_true h; omega)
    · exact cmpC_ok e (fun h => by have := of_decide_eq_true h; omega) (fun h => by have := of_decide_eq_true h; omega)
  · obtain rfl := int_inv hb
    obtain ⟨u, rfl, _, h2, h3, _⟩ := nv_inv ha
    rcases nv_or e with e | e
    · exact cmpB_ok e (fun h => by have := of_decide_eq_true h; omega) (fun h => by have := of_decide_eq_true h; omega)
    · rcases nv_or e with e | e
      · exact cmpC_ok e (fun h => by have := of_decide_eq_true h; omega) (fun h => by have := of_decide_eq_true h; omega)
      · cases e
  · rename_i k c _ _ _ _ _ _ _ j bb
    obtain ⟨u, rfl, h1, _, _, _⟩ := nv_inv ha
    obtain ⟨z, rfl, _, _, _, h4⟩ := nv_inv hb
    cases hg : (Nat.beq k j && decide (c = 0)) with
    | false => rw [hg] at e; cases e
    | true =>
      rw [hg] at e
      simp only [Bool.and_eq_true, decide_eq_true_iff] at hg
      obtain ⟨g1, g2⟩ := hg
      have g1 := Nat.eq_of_beq_eq_true g1
      subst g1; subst g2
      refine cmpC_ok (show cmpC op (!bb) bb = some v from e) (fun h => ?_) (fun h => ?_)
      · cases bb with
        | true => cases h
        | false => have : z < Syms.nm k := h4; omega
      · subst h; have : Syms.nm k ≤ z := h4; omega
  · cases e
theorem nvAdd_ok {op : BinOp} {t : TypeId} {x y : Operand} {a b v : V} {a' b' : Value} (e : nvAdd op a b = some v) (ha : VRel m a a') (hb : VRel m b b') :
    ∃ v', (do eqGuard op t x y a' b'; binOp op t a' b' : Sem Value).run P w = .ok v' w ∧ VRel m v v' := by
  unfold nvAdd at e
  split at e
  case h_2 => cases e
  case h_1 k c lo hi rel n =>
    cases hg : (decide (-4611686018427387904 ≤ lo + n) && decide (hi + n ≤ 4611686018427387904)) with
    | false => rw [hg] at e; cases e
    | true =>
      rw [hg] at e
      injection e with e; subst e
      simp only [Bool.and_eq_true, decide_eq_true_iff] at hg
      obtain rfl := int_inv hb
      obtain ⟨u, rfl, h1, h2, h3, _⟩ := nv_inv ha
      have q := intA_ok (P := P) (m := m) (w := w) (t := t) (x := x) (y := y) (op := .add) (k := .i64) (a := u) (b := n) (v := .int .i64 (IntKind.i64.wrap (u + n))) rfl
      obtain ⟨v', q1, q2⟩ := q
      obtain rfl := int_inv q2
      refine ⟨_, q1, ?_⟩
      have hw : IntKind.i64.wrap (u + n) = u + n := by rw [IntKind.wrap_i64]; omega
      rw [hw]
      exact .nv k (c + n) (lo + n) (hi + n) none (u + n) (by omega) (by omega) (by omega) trivial
theorem farN_ok {k j : Nat} (h : farN k j = true) : Syms.tx k ≠ Syms.tx j := by
  unfold farN at h
  simp only [Bool.or_eq_true, Bool.and_eq_true] at h
  have p1 : Syms.tx 1000 ≠ Syms.tx 1001 := fun e => Syms.pf.1 (by rw [e]; exact List.prefix_rfl)
  rcases h with ((⟨h1, h2⟩ | ⟨h1, h2⟩) | ⟨h1, h2⟩) | ⟨h1, h2⟩
  all_goals
    have h1 := Nat.eq_of_beq_eq_true h1
    have h2 := Nat.eq_of_beq_eq_true h2
    subst h1; subst h2
  · exact Syms.df
  · exact Ne.symm Syms.df
  · exact p1
  · exact Ne.symm p1
theorem byte_beq {a b : UInt8} (h : (!Nat.beq a.toNat b.toNat) = true) : a ≠ b := by
  intro e; subst e; rw [Nat.beq_refl] at h; cases h
theorem neTp_ok {k j : Nat} : ∀ {p q : List UInt8}, neTp k j p q = true → p ++ Syms.tx k ≠ q ++ Syms.tx j
  | [], [], h => farN_ok h
  | a :: p, b :: q, h => by
    have h : (!Nat.beq a.toNat b.toNat || neTp k j p q) = true := h
    simp only [Bool.or_eq_true] at h
    intro e
    simp only [List.cons_append, List.cons.injEq] at e
    rcases h with h | h
    · exact byte_beq h e.1
    · exact neTp_ok h e.2
  | [], _ :: _, h => by cases h
  | _ :: _, [], h => by cases h
theorem neTs_ok {k lo : Nat} (hl : lo ≤ (Syms.tx k).length) : ∀ {p s : List UInt8}, neTs lo p s = true → p ++ Syms.tx k ≠ s
  | a :: p, b :: s, h => by
    have h : (!Nat.beq a.toNat b.toNat || neTs lo p s) = true := h
    simp only [Bool.or_eq_true] at h
    intro e
    simp only [List.cons_append, List.cons.injEq] at e
    rcases h with h | h
    · exact byte_beq h e.1
    · exact neTs_ok hl h e.2
  | [], s, h => by
    have h : Nat.blt s.length lo = true := h
    have := Nat.le_of_ble_eq_true h
    intro e
    have := congrArg List.length e
    simp only [List.nil_append] at this
    omega
  | _ :: _, [], _ => by simp
theorem tpEq_ok {x y : V} {x' y' : Value} {b : Bool} (e : tpEq x y = some b) (hx : VRel m x x') (hy : VRel m y y') : ∃ s t : List UInt8, x' = .string ⟨s.toArray⟩ ∧ y' = .string ⟨t.toArray⟩ ∧ eqT s t = b := by
  unfold tpEq at e
  split at e
  · rename_i p k _ _ q j _ _
    cases hx; cases hy
    refine ⟨_, _, rfl, rfl, ?_⟩
    cases h1 : (Nat.beq k j && eqT p q) with
    | true =>
      rw [h1] at e; injection e with e; subst e
      simp only [Bool.and_eq_true] at h1
      obtain ⟨h1, h2⟩ := h1
      have h1 := Nat.eq_of_beq_eq_true h1
      rw [eqT_eq] at h2
      have h2 := eq_of_beq h2
      subst h1; subst h2
      rw [eqT_eq]; exact beq_self_eq_true _
    | false =>
      rw [h1] at e
      cases h2 : neTp k j p q with
      | true => rw [h2] at e; injection e with e; subst e; rw [eqT_eq]; exact beq_eq_false_iff_ne.2 (neTp_ok h2)
      | false => rw [h2] at e; cases e
  · rename_i p k lo _ s
    cases hx with
    | tp _ _ _ _ f1 f2 =>
      obtain rfl := str_inv hy
      refine ⟨_, _, rfl, rfl, ?_⟩
      cases h2 : neTs lo p s with
      | true => rw [h2] at e; injection e with e; subst e; rw [eqT_eq]; exact beq_eq_false_iff_ne.2 (neTs_ok f1 h2)
      | false => rw [h2] at e; cases e
  · rename_i s p k lo _
    cases hy with
    | tp _ _ _ _ f1 f2 =>
      obtain rfl := str_inv hx
      refine ⟨_, _, rfl, rfl, ?_⟩
      cases h2 : neTs lo p s with
      | true => rw [h2] at e; injection e with e; subst e; rw [eqT_eq]; exact beq_eq_false_iff_ne.2 (Ne.symm (neTs_ok f1 h2))
      | false => rw [h2] at e; cases e
  · cases e
theorem nvEq_ok {x y : V} {x' y' : Value} {b : Bool} (e : nvEq x y = some b) (hx : VRel m x x') (hy : VRel m y y') : ∃ s t : Int, x' = .int .i64 s ∧ y' = .int .i64 t ∧ (s == t) = b := by
  unfold nvEq at e
  split at e
  · rename_i k c _ _ _ j d _ _ _
    obtain ⟨u, rfl, h1, _⟩ := nv_inv hx
    obtain ⟨z, rfl, h2, _⟩ := nv_inv hy
    refine ⟨_, _, rfl, rfl, ?_⟩
    cases hk : Nat.beq k j with
    | false => rw [hk] at e; cases e
    | true =>
      rw [hk] at e; injection e with e; subst e
      obtain rfl := Nat.eq_of_beq_eq_true hk
      rw [Bool.eq_iff_iff, beq_iff_eq, decide_eq_true_iff]
      omega
  · rename_i lo hi _ n
    obtain ⟨u, rfl, _, h2, h3, _⟩ := nv_inv hx
    obtain rfl := int_inv hy
    refine ⟨_, _, rfl, rfl, ?_⟩
    cases hk : (decide (n < lo) || decide (hi < n)) with
    | false => rw [hk] at e; cases e
    | true =>
      rw [hk] at e; injection e with e; subst e
      simp only [Bool.or_eq_true, decide_eq_true_iff] at hk
      exact beq_eq_false_iff_ne.2 (by omega)
  · rename_i n _ _ lo hi _
    obtain ⟨u, rfl, _, h2, h3, _⟩ := nv_inv hy
    obtain rfl := int_inv hx
    refine ⟨_, _, rfl, rfl, ?_⟩
    cases hk : (decide (n < lo) || decide (hi < n)) with
    | false => rw [hk] at e; cases e
    | true =>
      rw [hk] at e; injection e with e; subst e
      simp only [Bool.or_eq_true, decide_eq_true_iff] at hk
      exact beq_eq_false_iff_ne.2 (by omega)
  · cases e
theorem anyCmp_ok {a b v : V} {a' b' : Value} (e : anyCmp a b = some v) (ha : VRel m a a') (hb : VRel m b b') : v = .any ∧ ∃ (k : IntKind) (s u : Int), a' = .int k s ∧ b' = .int k u := by
  unfold anyCmp at e
  split at e
  case h_2 => cases e
  case h_1 k n l z =>
    by_cases hk : k = l
    · subst hk
      rw [decide_eq_true rfl] at e
      injection e with e
      cases ha
      obtain rfl := int_inv hb
      exact ⟨e.symm, _, _, _, rfl, rfl⟩
    · rw [decide_eq_false hk] at e; cases e
theorem tpBin_ok {op : BinOp} {t : TypeId} {x y : Operand} {a b v : V} {a' b' : Value} (e : tpBin op a b = some v) (ha : VRel m a a') (hb : VRel m b b') :
    ∃ v', (do eqGuard op t x y a' b'; binOp op t a' b' : Sem Value).run P w = .ok v' w ∧ VRel m v v' := by
  unfold tpBin at e
  split at e
  · rcases nv_or e with e | e
    case inr =>
      obtain ⟨rfl, k, s, u, rfl, rfl⟩ := anyCmp_ok e ha hb
      obtain ⟨v', q1, q2⟩ := intA_ok (P := P) (m := m) (w := w) (t := t) (x := x) (y := y) (op := .eql) (k := k) (a := s) (b := u) (v := .bool (s == u)) rfl
      obtain rfl := bool_inv q2
      exact ⟨_, q1, .any _ rfl⟩
    replace e := bnd_some.1 e; obtain ⟨q, hq, e⟩ := e
    injection e with e; subst e
    rcases nv_or hq with hq | hq
    · obtain ⟨s, u, rfl, rfl, h⟩ := tpEq_ok hq ha hb
      subst h
      exact strA_ok (P := P) (m := m) (w := w) (t := t) (x := x) (y := y) (op := .eql) (a := s) (b := u) rfl
    · obtain ⟨s, u, rfl, rfl, h⟩ := nvEq_ok hq ha hb
      subst h
      exact intA_ok (P := P) (m := m) (w := w) (t := t) (x := x) (y := y) (op := .eql) (k := .i64) (a := s) (b := u) rfl
  · rcases nv_or e with e | e
    case inr =>
      obtain ⟨rfl, k, s, u, rfl, rfl⟩ := anyCmp_ok e ha hb
      obtain ⟨v', q1, q2⟩ := intA_ok (P := P) (m := m) (w := w) (t := t) (x := x) (y := y) (op := .neq) (k := k) (a := s) (b := u) (v := .bool (s != u)) rfl
      obtain rfl := bool_inv q2
      exact ⟨_, q1, .any _ rfl⟩
    replace e := bnd_some.1 e; obtain ⟨q, hq, e⟩ := e
    injection e with e; subst e
    rcases nv_or hq with hq | hq
    · obtain ⟨s, u, rfl, rfl, h⟩ := tpEq_ok hq ha hb
      subst h
      exact strA_ok (P := P) (m := m) (w := w) (t := t) (x := x) (y := y) (op := .neq) (a := s) (b := u) rfl
    · obtain ⟨s, u, rfl, rfl, h⟩ := nvEq_ok hq ha hb
      subst h
      exact intA_ok (P := P) (m := m) (w := w) (t := t) (x := x) (y := y) (op := .neq) (k := .i64) (a := s) (b := u) rfl
  · split at e
    · rename_i s p k lo hi
      cases hg : Nat.ble (s.length + p.length + hi) 1048576 with
      | false => rw [hg] at e; cases e
      | true =>
        rw [hg] at e; injection e with e; subst e
        have hg := Nat.le_of_ble_eq_true hg
        obtain rfl := str_inv ha
        cases hb with
        | tp _ _ _ _ f1 f2 =>
          obtain ⟨v', q1, q2⟩ := strA_ok (P := P) (m := m) (w := w) (t := t) (x := x) (y := y) (op := .add) (a := s) (b := p ++ Syms.tx k) (v := .str (s ++ (p ++ Syms.tx k))) (by
            show grd (Nat.ble (s.length + (p ++ Syms.tx k).length) 1048576) _ = _
            rw [Nat.ble_eq_true_of_le (by rw [List.length_append]; omega)]; rfl)
          obtain rfl := str_inv q2
          refine ⟨_, q1, ?_⟩
          rw [← List.append_assoc]
          exact .tp _ _ _ _ f1 f2
    · rename_i n k c lo hi rel
      cases hg : (decide (-4611686018427387904 ≤ lo + n) && decide (hi + n ≤ 4611686018427387904)) with
      | false => rw [hg] at e; cases e
      | true =>
        rw [hg] at e
        injection e with e; subst e
        simp only [Bool.and_eq_true, decide_eq_true_iff] at hg
        obtain rfl := int_inv ha
        obtain ⟨u, rfl, h1, h2, h3, _⟩ := nv_inv hb
        obtain ⟨v', q1, q2⟩ := intA_ok (P := P) (m := m) (w := w) (t := t) (x := x) (y := y) (op := .add) (k := .i64) (a := n) (b := u) (v := .int .i64 (IntKind.i64.wrap (n + u))) rfl
        obtain rfl := int_inv q2
        refine ⟨_, q1, ?_⟩
        have hw : IntKind.i64.wrap (n + u) = n + u := by rw [IntKind.wrap_i64]; omega
        rw [hw]
        exact .nv k (c + n) (lo + n) (hi + n) none (n + u) (by omega) (by omega) (by omega) trivial
    · cases e
  · cases e
theorem wrap_64 {k l : IntKind} (hk : is64 k = true) (hl : is64 l = true) (n : Int) : k.wrap (l.wrap n) = k.wrap n := by
  cases k <;> first | (cases hk; done) | skip
  all_goals cases l <;> first | (cases hl; done) | skip
  all_goals simp only [IntKind.wrap_u64, IntKind.wrap_i64]
  all_goals omega
theorem conv_ok {s d : TypeId} {x v : V} {x' : Value} (e : convA P s d x = some v) (hx : VRel m x x') : ∃ v', (convert s d x').run P w = .ok v' w ∧ VRel m v v' := by
  replace e := bnd_some.1 e; obtain ⟨sd, hs, e⟩ := e
  replace e := bnd_some.1 e; obtain ⟨dd, hd, e⟩ := e
  split at e
  · injection e with e; subst e
    obtain rfl := int_inv hx
    exact ⟨_, by simp [convert, run_underlying hs, run_underlying hd, Conv.intToInt], .int _ _⟩
  · injection e with e; subst e
    obtain rfl := str_inv hx
    exact ⟨_, by simp [convert, run_underlying hs, run_underlying hd], .str _⟩
  · rename_i k l n
    cases hg : (is64 k && is64 l) with
    | false => rw [hg] at e; cases e
    | true =>
      rw [hg] at e
      injection e with e; subst e
      simp only [Bool.and_eq_true] at hg
      cases hx
      refine ⟨.int k (k.wrap (l.wrap (Syms.nm n))), by simp [convert, run_underlying hs, run_underlying hd, Conv.intToInt], ?_⟩
      rw [wrap_64 hg.1 hg.2]; exact .nm _ _
  · cases e

theorem nilOk_ok {x v : V} {x' : Value} {o : Oper} {a : Operand} (ho : o.op = .nilCheck a) (e : nilOk x = some v) (hx : VRel m x x') (hρ : ρ a = x') : (execOp ρ o).run P w = .ok (.value x') w ∧ v = x := by
  unfold nilOk at e
  split at e
  · injection e with e; subst e
    obtain ⟨L, _, rfl⟩ := ptr_inv hx
    exact ⟨by simp [execOp, ho, hρ], rfl⟩
  · injection e with e; subst e
    cases hx
    exact ⟨by simp [execOp, ho, hρ], rfl⟩
  · injection e with e; subst e
    cases hx
    exact ⟨by simp [execOp, ho, hρ], rfl⟩
  · cases e
end
end Go.Proofs.YtejnegabdjpipaaGreatDoor.AM

/- The smaller machine's operations, by kinds. -/
namespace Go.Proofs.YtejnegabdjpipaaGreatDoor.AM
variable [Syms]
open Go.RowKit (Below)

section
variable {P : Program} {NG N0 : Nat} {w0 : World} {m : Mu} {h : H} {w : World} {nid : Nat} {ev : Operand → Option V} {ρ : Operand → Value}

/-- The operation leaves the world and gives a value. -/
def Val (P : Program) (m : Mu) (w : World) (s : Sem Next) (v : V) : Prop := ∃ v', VRel m v v' ∧ s.run P w = .ok (.value v') w

theorem or_some {α : Type} {x y : Option α} {a : α} (e : x.or y = some a) : x = some a ∨ y = some a := by
  cases x with
  | none => right; simpa using e
  | some b => left; simpa using e
theorem val_of {s : Sem Value} {v : V} (h : Gets P m w s v) : Val P m w (do pure (.value (← s))) v := by
  obtain ⟨v', h1, h2⟩ := h
  exact ⟨v', h1, by simp [h2]⟩
theorem val_plain (hev : ∀ x v, ev x = some v → VRel m v (ρ x)) {o : Oper} {v : V} (hs : ∀ cs b, o.op ≠ .select cs b) (e : plainA P ev o = some v) : Val P m w (execOp ρ o) v := by
  obtain ⟨v', h1, h2⟩ := plain_ok (w := w) hev hs e
  exact ⟨v', h2, h1⟩

theorem getElem?_map {xs : Array Operand} {i : Nat} {x : Operand} (h : xs[i]? = some x) : (xs.map ρ)[i]? = some (ρ x) := by simp [h]

theorem len_run {c : Call} {x : Operand} {a v : V} {t : TypeId} {d : TypeDesc} {ty : TypeId} (hc : c.callee = .builtin .len) (hx : c.args[0]? = some x) (ht : c.argTypes[0]? = some t) (hd : P.underlying t = some d)
    (hk : lenOk d a = true) (e : lenPureA a = some v) (ha : VRel m a (ρ x)) :
    Val P m w (do let d ← resolve ρ c ty; invoke d.target d.args) v := by
  have hq : (c.args.map ρ)[0]? = some (ρ x) := getElem?_map hx
  generalize ρ x = y at hq ha
  unfold lenPureA at e
  split at e <;> first | (cases e; done) | skip
  all_goals
    injection e with e
    subst e
    cases d <;> first | (cases hk; done) | skip
  · rename_i pre k lo hi
    cases ha with
    | tp _ _ _ _ f1 f2 =>
      have hsz : (⟨(pre ++ Syms.tx k).toArray⟩ : ByteArray).size = (pre ++ Syms.tx k).length := by simp [ByteArray.size]
      refine ⟨.int .i64 ((pre ++ Syms.tx k).length : Int), .nv _ _ _ _ none _ ?_ ?_ ?_ trivial, by simp [resolve, hc, invoke, builtin, Builtin.len_, ht, hq, run_underlying hd, goInt, hsz]⟩
      · rw [Syms.ln, List.length_append]; omega
      · show ((lo + pre.length : Nat) : Int) ≤ _; rw [List.length_append]; omega
      · show _ ≤ ((hi + pre.length : Nat) : Int); rw [List.length_append]; omega
  · cases ha
    exact ⟨.int .i64 0, .int _ _, by simp [resolve, hc, invoke, builtin, Builtin.len_, ht, hq, run_underlying hd, goInt]⟩
  · rename_i s
    obtain rfl := str_inv ha
    have hsz : (⟨s.toArray⟩ : ByteArray).size = s.length := by simp [ByteArray.size]
    exact ⟨.int .i64 (s.length : Int), .int _ _, by simp [resolve, hc, invoke, builtin, Builtin.len_, ht, hq, run_underlying hd, goInt, hsz]⟩
  · obtain ⟨L, cc, _, rfl, _⟩ := sl_inv ha
    exact ⟨_, .int _ _, by simp [resolve, hc, invoke, builtin, Builtin.len_, ht, hq, run_underlying hd, goInt]⟩
  · cases ha
    exact ⟨_, .int _ _, by simp [resolve, hc, invoke, builtin, Builtin.len_, ht, hq, run_underlying hd, goInt]⟩
  · obtain ⟨L, cc, _, rfl, _⟩ := sle_inv ha
    exact ⟨_, .int _ _, by simp [resolve, hc, invoke, builtin, Builtin.len_, ht, hq, run_underlying hd, goInt]⟩
theorem cap_run {c : Call} {x : Operand} {a v : V} {t : TypeId} {el : TypeId} {ty : TypeId} (hc : c.callee = .builtin .cap) (hx : c.args[0]? = some x) (ht : c.argTypes[0]? = some t) (hd : P.underlying t = some (.slice el))
    (e : capPureA a = some v) (ha : VRel m a (ρ x)) : Val P m w (do let d ← resolve ρ c ty; invoke d.target d.args) v := by
  have hq : (c.args.map ρ)[0]? = some (ρ x) := getElem?_map hx
  generalize ρ x = y at hq ha
  unfold capPureA at e
  split at e <;> first | (cases e; done) | skip
  all_goals
    injection e with e
    subst e
  · cases ha
    exact ⟨.int .i64 0, .int _ _, by simp [resolve, hc, invoke, builtin, Builtin.cap_, ht, hq, run_underlying hd, goInt]⟩
  · obtain ⟨L, cc, _, rfl, hcap⟩ := sl_inv ha
    dsimp only at hcap
    subst hcap
    exact ⟨_, .int _ _, by simp [resolve, hc, invoke, builtin, Builtin.cap_, ht, hq, run_underlying hd, goInt]⟩
  · obtain ⟨L, cc, _, rfl, _, _, hk⟩ := sle_inv ha
    exact ⟨_, .atl _ cc hk, by simp [resolve, hc, invoke, builtin, Builtin.cap_, ht, hq, run_underlying hd, goInt]⟩

theorem slData_run {c : Call} {x : Operand} {a : V} {p : Nat × Nat × Nat × Option Nat} {ty : TypeId} (hc : c.callee = .builtin .unsafeSliceData) (hx : c.args[0]? = some x) (hsz : c.args.size = 1) (hp : a.sl? = some p) (h0 : p.2.2.2.getD p.2.2.1 ≠ 0)
    (ha : VRel m a (ρ x)) : Val P m w (do let d ← resolve ρ c ty; invoke d.target d.args) (.ptr p.1 p.2.1) := by
  obtain ⟨id, off, len, cap⟩ := p
  obtain rfl := V.sl?_inv hp
  dsimp only at *
  obtain ⟨L, cc, hm, hρ, hcap⟩ := sl_inv ha
  have hcc : cc ≠ 0 := by
    cases cap with
    | none => have := hcap.2; simp at h0; omega
    | some c' => dsimp only at hcap; subst hcap; simpa using h0
  have hargs : c.args.map ρ = #[.slice (some ⟨L.b, L.d + off, none⟩) len cc] := by
    apply Array.ext
    · simp [hsz]
    · intro i h1 h2
      have : i = 0 := by simp at h2; omega
      subst this
      have hx' := getElem?_map (ρ := ρ) hx
      rw [Array.getElem?_eq_getElem h1] at hx'
      injection hx' with hx'
      rw [hx', hρ]; rfl
  have e : ∀ ats ty (a : Addr) l, (Builtin.unsafeSliceData_ ats ty #[.slice (some a) l cc]).run P w = .ok (.pointer (some a)) w := fun ats ty a l => by
    show (ite (cc ≠ 0) (pure (.pointer (some a))) _ : Sem Value).run P w = _
    rw [if_pos hcc]; rfl
  exact ⟨_, .ptr _ _ _ hm, by simp [resolve, hc, invoke, builtin, hargs, e]⟩
theorem one_arg {c : Call} {x : Operand} (hsz : c.args.size = 1) (hx : c.args[0]? = some x) : c.args.map ρ = #[ρ x] := by
  apply Array.ext
  · simp [hsz]
  · intro i h1 h2
    have : i = 0 := by simp at h2; omega
    subst this
    have hx' := getElem?_map (ρ := ρ) hx
    rw [Array.getElem?_eq_getElem h1] at hx'
    injection hx' with hx'
theorem slDataNil_run {c : Call} {x : Operand} {ty : TypeId} (hc : c.callee = .builtin .unsafeSliceData) (hx : c.args[0]? = some x) (hsz : c.args.size = 1)
    (ha : VRel m .nilsl (ρ x)) : Val P m w (do let d ← resolve ρ c ty; invoke d.target d.args) .nilptr := by
  have hargs : c.args.map ρ = #[.slice none 0 0] := by
    rw [one_arg hsz hx]
    generalize ρ x = y at ha
    cases ha; rfl
  have e : ∀ ats ty, (Builtin.unsafeSliceData_ ats ty #[.slice none 0 0]).run P w = .ok (.pointer none) w := fun ats ty => rfl
  exact ⟨_, .nilptr, by simp [resolve, hc, invoke, builtin, hargs, e]⟩
end
end Go.Proofs.YtejnegabdjpipaaGreatDoor.AM

/- The smaller machine's maps. -/
namespace Go.Proofs.YtejnegabdjpipaaGreatDoor.AM
variable [Syms]
open Go.RowKit (Below)

section
variable {P : Program} {NG N0 : Nat} {w0 : World} {m : Mu} {h : H} {w : World} {nid : Nat}

theorem key_inv {kd : TypeDesc} {k : V} {k' : Value} (hk : keyKd kd k = true) (hv : VRel m k k') : MapKept.IsKey kd k' := by
  cases kd <;> cases k <;> first | (cases hk; done) | skip
  · obtain rfl := bool_inv hv; trivial
  · obtain rfl := int_inv hv; exact (of_decide_eq_true hk : _ = _)
  · obtain rfl := str_inv hv; trivial
  · cases hv; trivial
theorem bytes_ne {a b : List UInt8} (h : a ≠ b) : ((⟨a.toArray⟩ : ByteArray) == ⟨b.toArray⟩) = false := by
  cases e : ((⟨a.toArray⟩ : ByteArray) == ⟨b.toArray⟩) with
  | false => rfl
  | true =>
    rw [MapKept.bytes_beq] at e
    injection e with e
    exact absurd (by simpa using e) h
theorem keyEq_ok {kd : TypeDesc} {k k2 : V} {k' k2' : Value} (hk : keyKd kd k = true) {q : Bool} (e : keyEq k k2 = some q) (hv : VRel m k k') (hv2 : VRel m k2 k2') :
    Instr.sameNow kd k' k2' = some q ∧ (q = true → k2 = k ∧ k2' = k') := by
  unfold keyEq at e
  split at e
  · injection e with e
    obtain rfl := str_inv hv; obtain rfl := str_inv hv2
    rename_i a b
    cases kd <;> first | (cases hk; done) | skip
    refine ⟨?_, fun hq => ?_⟩
    · show some ((⟨a.toArray⟩ : ByteArray) == ⟨b.toArray⟩) = some q
      congr 1
      rw [← e, Bool.eq_iff_iff, MapKept.bytes_beq, decide_eq_true_iff]
      constructor
      · intro h; injection h with h; simpa using h
      · intro h; rw [h]
    · rw [hq] at e
      have := of_decide_eq_true e
      subst this; exact ⟨rfl, rfl⟩
  · rename_i j a l b
    obtain rfl := int_inv hv; obtain rfl := int_inv hv2
    cases kd <;> first | (cases hk; done) | skip
    rename_i kk
    have hj : j = kk := of_decide_eq_true hk
    subst hj
    by_cases hjl : j = l
    · subst hjl
      rw [show decide (j = j) = true from decide_eq_true rfl] at e
      have e : some (decide (a = b)) = some q := e
      injection e with e
      refine ⟨?_, fun hq => ?_⟩
      · simp only [Instr.sameNow, if_true]
        exact congrArg some e
      · rw [hq] at e
        have := of_decide_eq_true e
        subst this; exact ⟨rfl, rfl⟩
    · rw [show decide (j = l) = false from decide_eq_false hjl] at e
      cases e
  · injection e with e
    obtain rfl := bool_inv hv; obtain rfl := bool_inv hv2
    rename_i a b
    cases kd <;> first | (cases hk; done) | skip
    subst e
    refine ⟨rfl, fun hq => ?_⟩
    have : a = b := by simpa using hq
    subst this; exact ⟨rfl, rfl⟩
  · rename_i p k1 a b q2 j c d
    cases kd <;> first | (cases hk; done) | skip
    cases h1 : (Nat.beq k1 j && eqT p q2 && Nat.beq a c && Nat.beq b d) with
    | true =>
      rw [h1] at e
      injection e with e; subst e
      simp only [Bool.and_eq_true] at h1
      obtain ⟨⟨⟨h1, h2⟩, h3⟩, h4⟩ := h1
      have h1 := Nat.eq_of_beq_eq_true h1
      have h3 := Nat.eq_of_beq_eq_true h3
      have h4 := Nat.eq_of_beq_eq_true h4
      rw [eqT_eq] at h2
      have h2 := eq_of_beq h2
      subst h1; subst h2; subst h3; subst h4
      cases hv; cases hv2
      refine ⟨?_, fun _ => ⟨rfl, rfl⟩⟩
      show some ((⟨(p ++ Syms.tx k1).toArray⟩ : ByteArray) == ⟨(p ++ Syms.tx k1).toArray⟩) = some true
      congr 1
      rw [MapKept.bytes_beq]
    | false =>
      rw [h1] at e
      cases h2 : neTp k1 j p q2 with
      | false => rw [h2] at e; cases e
      | true =>
        rw [h2] at e
        injection e with e; subst e
        cases hv; cases hv2
        refine ⟨?_, fun h => by cases h⟩
        show some ((⟨(p ++ Syms.tx k1).toArray⟩ : ByteArray) == ⟨(q2 ++ Syms.tx j).toArray⟩) = some false
        congr 1
        exact bytes_ne (neTp_ok h2)
  · rename_i p k1 lo _ s
    cases kd <;> first | (cases hk; done) | skip
    cases h2 : neTs lo p s with
    | false => rw [h2] at e; cases e
    | true =>
      rw [h2] at e
      injection e with e; subst e
      cases hv with
      | tp _ _ _ _ f1 f2 =>
        obtain rfl := str_inv hv2
        refine ⟨?_, fun h => by cases h⟩
        show some ((⟨(p ++ Syms.tx k1).toArray⟩ : ByteArray) == ⟨s.toArray⟩) = some false
        congr 1
        exact bytes_ne (neTs_ok f1 h2)
  · rename_i s p k1 lo _
    cases kd <;> first | (cases hk; done) | skip
    cases h2 : neTs lo p s with
    | false => rw [h2] at e; cases e
    | true =>
      rw [h2] at e
      injection e with e; subst e
      cases hv2 with
      | tp _ _ _ _ f1 f2 =>
        obtain rfl := str_inv hv
        refine ⟨?_, fun h => by cases h⟩
        show some ((⟨s.toArray⟩ : ByteArray) == ⟨(p ++ Syms.tx k1).toArray⟩) = some false
        congr 1
        exact bytes_ne (Ne.symm (neTs_ok f1 h2))
  · cases e

/-- What a search comes to. -/
def Found (m : Mu) (kd : TypeDesc) (k : V) (k' : Value) (es : List (V × V × Nat)) (es' : List MapEntry) (i : Nat) : Option (Nat × V × Nat) → Prop
  | none => Instr.findNow kd k' es' i = some none
  | some (j, v, b) => ∃ v' n, j = i + n ∧ Instr.findNow kd k' es' i = some (some (j, v')) ∧ VRel m v v' ∧ es'[n]? = some ⟨k', v', b⟩ ∧ es[n]? = some (k, v, b)
theorem findA_ok {kd : TypeDesc} {k : V} {k' : Value} (hk : keyKd kd k = true) (hv : VRel m k k') : ∀ {es : List (V × V × Nat)} {es' : List MapEntry} {i : Nat} {r : Option (Nat × V × Nat)}, EsRel m es es' → findA k es i = some r → Found m kd k k' es es' i r
  | [], _, i, r, h, e => by
    cases h
    injection e with e; subst e
    rfl
  | (k2, v, b) :: es, _, i, r, h, e => by
    cases h with
    | cons _ _ _ k2' v' _ es' hk2 hv2 hes =>
      replace e := bnd_some.1 (show (keyEq k k2).bind _ = some r from e)
      obtain ⟨q, hq, e⟩ := e
      obtain ⟨h1, h2⟩ := keyEq_ok hk hq hv hk2
      cases q with
      | true =>
        have e : some (some (i, v, b)) = some r := e
        injection e with e; subst e
        obtain ⟨rfl, rfl⟩ := h2 rfl
        exact ⟨v', 0, rfl, by simp [Instr.findNow, h1], hv2, rfl, rfl⟩
      | false =>
        have e : findA k es (i + 1) = some r := e
        have ih := findA_ok hk hv hes e
        cases r with
        | none => simpa [Found, Instr.findNow, h1] using ih
        | some p =>
          obtain ⟨j, u, c⟩ := p
          obtain ⟨u', n, e1, e2, e3, e4, e5⟩ := ih
          exact ⟨u', n + 1, by omega, by simp [Instr.findNow, h1, e2], e3, by simpa using e4, by simpa using e5⟩

theorem mapTy_inv {t : TypeId} {k : V} {el : TypeId} (e : mapTyA P t k = some el) : ∃ kt kd, P.underlying t = some (.map kt el) ∧ P.underlying kt = some kd ∧ keyKd kd k = true := by
  replace e := bnd_some.1 e; obtain ⟨d, hd, e⟩ := e
  split at e
  · rename_i kt el'
    replace e := bnd_some.1 e; obtain ⟨kd, hkd, e⟩ := e
    replace e := grd_some.1 e; obtain ⟨hg, e⟩ := e
    injection e with e; subst e
    exact ⟨kt, kd, hd, hkd, hg⟩
  · cases e
theorem map_inv {id : Nat} {x : Value} (hx : VRel m (.map id) x) : ∃ L, m id = some L ∧ x = .map (some L.b) := by cases hx with | map _ L e => exact ⟨L, e, rfl⟩
theorem mapAt_inv {id : Nat} {p : List (V × V × Nat) × Nat} (e : mapAt h id = some p) : h.get id = some (.map p.1 p.2) := by
  replace e := bnd_some.1 e; obtain ⟨o, ho, e⟩ := e
  split at e
  · injection e with e; subst e; exact ho
  · cases e
theorem map_of (R : HRel NG N0 w0 m h w) {id : Nat} {p : List (V × V × Nat) × Nat} (e : mapAt h id = some p) {L : Loc} (hm : m id = some L) : ∃ es' : Array MapEntry, w.heap[L.b]? = some (.map es' p.2) ∧ EsRel m p.1 es'.toList := by
  obtain ⟨L', m1, _, _, es', h1, h2⟩ := R.objs id _ (mapAt_inv e)
  rw [hm] at m1; injection m1 with m1; subst m1
  exact ⟨es', h1, h2⟩
theorem lookup_ok (R : HRel NG N0 w0 m h w) {t : TypeId} {x k v : V} {ok : Bool} {x' k' : Value} (e : lookupA P t x k ok h = some v) (hx : VRel m x x') (hk : VRel m k k') : Gets P m w (Instr.lookup t x' k' ok) v := by
  replace e := bnd_some.1 e; obtain ⟨el, hty, e⟩ := e
  obtain ⟨kt, kd, hu, hkd, hkk⟩ := mapTy_inv hty
  replace e := bnd_some.1 e; obtain ⟨z, hz, e⟩ := e
  obtain ⟨z', z1, z2⟩ := run_zeroValue hz w
  replace e := bnd_some.1 e; obtain ⟨es, hes, e⟩ := e
  replace e := bnd_some.1 e; obtain ⟨r, hr, e⟩ := e
  have hck : ∀ b, (Instr.checkKey b 10000 kt k').run P w = .ok () w := fun b => MapKept.run_checkKey hkd (key_inv hkk hk) b 9999
  have fin : ∀ (es' : Array MapEntry) (s : Sem (Array MapEntry)), EsRel m es es'.toList → s.run P w = .ok es' w → Gets P m w (do
      let es ← s
      Instr.checkKey es.isEmpty 10000 kt k'
      let (v, ok') ← match ← Instr.findKey kt k' es.toList with
        | some (_, v) => pure (v, true)
        | none => pure (← zeroValue el, false)
      pure (if ok then .tuple #[v, .bool ok'] else v)) v := fun es' s he hg => by
    have hf := findA_ok hkk hk he hr
    cases r with
    | none =>
      have e : some (cond ok (.tup [z, .bool false]) z) = some v := e
      injection e with e
      have hfn := MapKept.run_findKey (w := w) (P := P) hkd (show Instr.findNow kd k' es'.toList 0 = some none from hf)
      cases ok with
      | true => subst e; exact ⟨.tuple #[z', .bool false], .tup _ [z', .bool false] (.cons _ _ _ _ (z2 m) (.cons _ _ _ _ (.bool _) .nil)), by simp only [Sem.run_bind, Result.andThen_ok, hg, hck, hfn, z1, Sem.run_pure, if_true]⟩
      | false => subst e; exact ⟨z', z2 m, by simp only [Sem.run_bind, Result.andThen_ok, hg, hck, hfn, z1, Sem.run_pure, Bool.false_eq_true, if_false]⟩
    | some p =>
      obtain ⟨j, u, b⟩ := p
      obtain ⟨u', n, _, hf, hu', _, _⟩ := hf
      have e : some (cond ok (.tup [u, .bool true]) u) = some v := e
      injection e with e
      have hfn := MapKept.run_findKey (w := w) (P := P) hkd hf
      cases ok with
      | true => subst e; exact ⟨.tuple #[u', .bool true], .tup _ [u', .bool true] (.cons _ _ _ _ hu' (.cons _ _ _ _ (.bool _) .nil)), by simp only [Sem.run_bind, Result.andThen_ok, hg, hck, hfn, Sem.run_pure, if_true]⟩
      | false => subst e; exact ⟨u', hu', by simp only [Sem.run_bind, Result.andThen_ok, hg, hck, hfn, Sem.run_pure, Bool.false_eq_true, if_false]⟩
  cases x <;> first | (cases hes; done) | skip
  case nilmap =>
    cases hx
    injection hes with hes; subst hes
    obtain ⟨v', h1, h2⟩ := fin #[] (pure #[]) .nil rfl
    refine ⟨v', h1, ?_⟩
    simp only [Instr.lookup, Sem.run_bind, run_underlying hu, Result.andThen_ok, Sem.run_pure] at h2 ⊢
    exact h2
  case map id =>
    replace hes := bnd_some.1 hes; obtain ⟨p, hp, hes⟩ := hes
    injection hes with hes; subst hes
    obtain ⟨L, hm, rfl⟩ := map_inv hx
    obtain ⟨es', h1, h2⟩ := map_of R hp hm
    obtain ⟨v', h3, h4⟩ := fin es' (pure es') h2 rfl
    refine ⟨v', h3, ?_⟩
    simp only [Instr.lookup, Sem.run_bind, run_underlying hu, Result.andThen_ok, MapKept.run_getObj_map h1, Sem.run_pure] at h4 ⊢
    exact h4
theorem esRel_len : ∀ {es : List (V × V × Nat)} {es' : List MapEntry}, EsRel m es es' → es'.length = es.length
  | _, _, .nil => rfl
  | _, _, .cons _ _ _ _ _ _ _ _ _ h => by simp [esRel_len h]
theorem lenMap_ok (R : HRel NG N0 w0 m h w) {x v : V} {x' : Value} {t kt el ty : TypeId} {ats : Array TypeId} (hat : ats[0]? = some t) (ht : P.underlying t = some (.map kt el)) (e : lenMapA x h = some v) (hx : VRel m x x') : Gets P m w (Builtin.len_ ats ty #[x']) v := by
  replace e := bnd_some.1 e; obtain ⟨es, hes, e⟩ := e
  injection e with e; subst e
  cases x <;> first | (cases hes; done) | skip
  case nilmap =>
    cases hx
    injection hes with hes; subst hes
    exact ⟨_, .int _ _, by simp [Builtin.len_, hat, run_underlying ht, goInt]⟩
  case map id =>
    replace hes := bnd_some.1 hes; obtain ⟨p, hp, hes⟩ := hes
    injection hes with hes; subst hes
    obtain ⟨L, hm, rfl⟩ := map_inv hx
    obtain ⟨es', h1, h2⟩ := map_of R hp hm
    have hl := esRel_len h2
    refine ⟨_, .int _ _, ?_⟩
    simp only [Array.length_toList] at hl
    simp [Builtin.len_, hat, run_underlying ht, MapKept.run_getObj_map h1, hl, goInt]

theorem lastOf_ok : ∀ {l : List Nat} {b : Nat}, lastOf l = some b → l.toArray.back? = some b
  | [a], b, e => by injection e with e; subst e; rfl
  | a :: c :: r, b, e => by
    have ih := lastOf_ok (l := c :: r) (b := b) e
    simp only [List.back?_toArray] at ih ⊢
    rw [List.getLast?_cons_cons]; exact ih
theorem bornAt_ok {n : Nat} {es : List (V × V × Nat)} {es' : List MapEntry} (h : EsRel m es es') : ∀ {e : V × V}, bornAt n es = some e → ∃ e', es'.find? (fun x => x.born == n) = some e' ∧ VRel m e.1 e'.key ∧ VRel m e.2 e'.val := by
  induction h with
  | nil => intro e h; cases h
  | cons a c b a' c' es es' h1 h2 h3 ih =>
    intro e he
    have he : cond (Nat.beq b n) (some (a, c)) (bornAt n es) = some e := he
    cases hb : Nat.beq b n with
    | true =>
      rw [hb] at he
      injection he with he; subst he
      have := Nat.eq_of_beq_eq_true hb
      subst this
      exact ⟨⟨a', c', b⟩, by simp, h1, h2⟩
    | false =>
      rw [hb] at he
      obtain ⟨e', e1, e2⟩ := ih he
      have hne : ¬ b = n := fun h => by subst h; rw [Nat.beq_refl] at hb; cases hb
      exact ⟨e', by rw [List.find?_cons_of_neg (by simpa using hne)]; exact e1, e2⟩
/-- A walk over a map, as the world has it. -/
theorem miter_of (R : HRel NG N0 w0 m h w) {id mid since last : Nat} {seen : List Nat} (ho : h.get id = some (.miter (some mid) since seen last)) {L : Loc} (hm : m id = some L) :
    L.d = 0 ∧ L.b < w.heap.size ∧ ∃ L', m mid = some L' ∧ w.heap[L.b]? = some (.mapIter (some L'.b) since seen.toArray last) := by
  obtain ⟨L2, m1, hlt, _, h0, mp', h1, L', h2, h3⟩ := R.objs id _ ho
  rw [hm] at m1; injection m1 with m1; subst m1
  subst h3
  exact ⟨h0, hlt, L', h2, h1⟩
theorem entry_ok (R : HRel NG N0 w0 m h w) {x v : V} {x' : Value} (e : entryA x h = some v) (hx : VRel m x x') : Gets P m w (Instr.entry x') v := by
  replace e := bnd_some.1 e; obtain ⟨⟨id, off⟩, hp, e⟩ := e
  obtain rfl := V.ptr?_inv hp; dsimp only at *
  obtain ⟨L, hm, rfl⟩ := ptr_inv hx
  replace e := bnd_some.1 e; obtain ⟨o, ho, e⟩ := e
  split at e
  case h_2 => cases e
  case h_1 mid since seen stepped =>
    replace e := grd_some.1 e; obtain ⟨hg, e⟩ := e
    obtain rfl := Nat.eq_of_beq_eq_true hg
    replace e := bnd_some.1 e; obtain ⟨q, hq, e⟩ := e
    replace e := bnd_some.1 e; obtain ⟨b, hb, e⟩ := e
    replace e := grd_some.1 e; obtain ⟨hc, e⟩ := e
    have hc := Nat.eq_of_beq_eq_true hc
    replace e := bnd_some.1 e; obtain ⟨y, hy, e⟩ := e
    injection e with e; subst e
    obtain ⟨hd0, hlt, L', hm', hat⟩ := miter_of R ho hm
    obtain ⟨es', h1, h2⟩ := map_of R hq hm'
    obtain ⟨e', f1, f2, f3⟩ := bornAt_ok h2 hy
    have hf : es'.find? (fun x => x.born == b) = some e' := by rw [← Array.find?_toList]; exact f1
    have hgo : (getObj L.b).run P w = .ok (.mapIter (some L'.b) since seen.toArray stepped) w := by simp [getObj, Sem.run, hat]
    refine ⟨.tuple #[e'.key, e'.val], .tup _ [e'.key, e'.val] (.cons _ _ _ _ f2 (.cons _ _ _ _ f3 .nil)), ?_⟩
    simp [Instr.entry, hd0, hgo, lastOf_ok hb, MapKept.run_getObj_map h1, hc, hf]
/-! ### Changes -/
theorem EsRel.push {es : List (V × V × Nat)} {es' : List MapEntry} (h : EsRel m es es') {k v : V} {k' v' : Value} {b : Nat} (hk : VRel m k k') (hv : VRel m v v') : EsRel m (es ++ [(k, v, b)]) (es' ++ [⟨k', v', b⟩]) := by
  induction h with
  | nil => exact .cons _ _ _ _ _ _ _ hk hv .nil
  | cons a b n a' b' es es' h1 h2 _ ih => exact .cons _ _ _ _ _ _ _ h1 h2 ih
theorem EsRel.set {es : List (V × V × Nat)} {es' : List MapEntry} (h : EsRel m es es') {k v : V} {k' v' : Value} {b : Nat} (hk : VRel m k k') (hv : VRel m v v') : ∀ i, EsRel m (es.set i (k, v, b)) (es'.set i ⟨k', v', b⟩) := by
  induction h with
  | nil => exact fun i => .nil
  | cons a c n a' c' es es' h1 h2 h3 ih =>
    intro i
    cases i with
    | zero => exact .cons _ _ _ _ _ _ _ hk hv h3
    | succ i => exact .cons _ _ _ _ _ _ _ h1 h2 (ih i)
theorem EsRel.erase {es : List (V × V × Nat)} {es' : List MapEntry} (h : EsRel m es es') : ∀ i, EsRel m (es.eraseIdx i) (es'.eraseIdx i) := by
  induction h with
  | nil => exact fun i => .nil
  | cons a c n a' c' es es' h1 h2 h3 ih =>
    intro i
    cases i with
    | zero => exact h3
    | succ i => exact .cons _ _ _ _ _ _ _ h1 h2 (ih i)
theorem EsRel.born {es : List (V × V × Nat)} {es' : List MapEntry} (h : EsRel m es es') : ∀ {n i : Nat} {q : Nat × V}, findBorn n es i = some q → ∃ j e', q.1 = i + j ∧ es'[j]? = some e' ∧ VRel m q.2 e'.key ∧ e'.born = n ∧ es'.findIdx? (fun e => (e.born : Int) == (n : Int)) = some j := by
  induction h with
  | nil => intro n i q e; cases e
  | cons a c b a' c' es es' h1 h2 h3 ih =>
    intro n i q e
    have e : cond (Nat.beq b n) (some (i, a)) (findBorn n es (i + 1)) = some q := e
    cases hb : Nat.beq b n with
    | true =>
      rw [hb] at e
      injection e with e; subst e
      have := Nat.eq_of_beq_eq_true hb
      subst this
      exact ⟨0, _, rfl, rfl, h1, rfl, by simp [List.findIdx?_cons]⟩
    | false =>
      rw [hb] at e
      obtain ⟨j, e', e1, e2, e3, e4, e5⟩ := ih e
      have hne : b ≠ n := fun h => by subst h; rw [Nat.beq_refl] at hb; cases hb
      refine ⟨j + 1, e', by omega, by simpa using e2, e3, e4, ?_⟩
      rw [List.findIdx?_cons, if_neg (by simp; omega), e5]
      rfl
end
end Go.Proofs.YtejnegabdjpipaaGreatDoor.AM

/- The smaller machine's maps and channels: what changes them. -/
namespace Go.Proofs.YtejnegabdjpipaaGreatDoor.AM
variable [Syms]
open Go.RowKit (Below)

section
variable {P : Program} {NG N0 : Nat} {w0 : World} {m : Mu} {h : H} {w : World} {nid : Nat}

theorem obj_put (R : HRel NG N0 w0 m h w) {id : Nat} {o o' : O} {L : Loc} (ho : h.get id = some o) (hm : m id = some L) (hro : o.ro = false) {x : Obj} (hO : ∀ w' : World, w'.heap[L.b]? = some x → ORel m w' L o') :
    Good NG N0 w0 m h w m (h.set id (some o')) { w with heap := w.heap.setIfInBounds L.b x } := by
  obtain ⟨L', m1, hlt, _⟩ := R.objs id _ ho
  rw [hm] at m1; injection m1 with m1; subst m1
  exact R.set ho hm hro ⟨rfl, rfl, rfl, by simp, fun k hk => Array.getElem?_setIfInBounds_ne (Ne.symm hk)⟩ (hO _ (by simp [hlt]))
theorem map_put (R : HRel NG N0 w0 m h w) {id : Nat} {p : List (V × V × Nat) × Nat} {L : Loc} (ho : mapAt h id = some p) (hm : m id = some L) {es : List (V × V × Nat)} {c : Nat} {es' : Array MapEntry} (hE : EsRel m es es'.toList) :
    Good NG N0 w0 m h w m (h.set id (some (.map es c))) { w with heap := w.heap.setIfInBounds L.b (.map es' c) } :=
  obj_put R (mapAt_inv ho) hm rfl fun w' hw => ⟨es', hw, hE⟩
theorem map?A_inv {x : V} {id : Nat} (e : map?A x = some id) : x = .map id := by
  cases x <;> first | (cases e; done) | skip
  injection e with e; subst e; rfl
theorem modify_at' {es : Array MapEntry} {n : Nat} {f : MapEntry → MapEntry} {x : MapEntry} (h : es.toList[n]? = some x) : (es.modify n f).toList = es.toList.set n (f x) := by
  apply List.ext_getElem?
  intro i
  rw [Array.getElem?_toList, Array.getElem?_modify, List.getElem?_set]
  by_cases hi : n = i
  · subst hi
    have hlt := (List.getElem?_eq_some_iff.1 h).1
    rw [Array.getElem?_toList] at h
    simp only [if_true]
    rw [if_pos (by simpa using hlt), h]; rfl
  · simp [hi]

theorem mapUpdate_ok (R : HRel NG N0 w0 m h w) {t : TypeId} {x k v u : V} {x' k' v' : Value} {h' : H} (e : mapUpdateA P t x k v h = some (u, h')) (hx : VRel m x x') (hk : VRel m k k') (hv : VRel m v v') :
    u = .undef ∧ ∃ w', Good NG N0 w0 m h w m h' w' ∧ (Instr.mapUpdate t x' k' v').run P w = .ok () w' := by
  replace e := bnd_some.1 e; obtain ⟨el, hty, e⟩ := e
  obtain ⟨kt, kd, hu, hkd, hkk⟩ := mapTy_inv hty
  replace e := bnd_some.1 e; obtain ⟨id, hid, e⟩ := e
  obtain rfl := map?A_inv hid
  obtain ⟨L, hm, rfl⟩ := map_inv hx
  replace e := bnd_some.1 e; obtain ⟨p, hp, e⟩ := e
  obtain ⟨es', h1, h2⟩ := map_of R hp hm
  replace e := bnd_some.1 e; obtain ⟨r, hr, e⟩ := e
  have hf := findA_ok hkk hk h2 hr
  have hik := key_inv hkk hk
  have hck : (Instr.checkKey false 10000 kt k').run P w = .ok () w := MapKept.run_checkKey hkd hik false 9999
  cases r with
  | none =>
    injection (show some _ = some _ from e) with e; injection e with e1 e2; subst e1; subst e2
    have hfn := MapKept.run_findKey (w := w) (P := P) hkd (show Instr.findNow kd k' es'.toList 0 = some none from hf)
    refine ⟨rfl, _, map_put R hp hm (es' := es'.push ⟨k', v', p.2⟩) (by rw [Array.toList_push]; exact h2.push hk hv), ?_⟩
    simp only [Instr.mapUpdate, Sem.run_bind, run_underlying hu, Result.andThen_ok, MapKept.run_getObj_map h1, hck, hfn, MapKept.run_setObj_map _ h1]
  | some q =>
    obtain ⟨j, y, b⟩ := q
    obtain ⟨y', n, e0, hf, hy', he, _⟩ := hf
    rw [Nat.zero_add] at e0; subst e0
    injection (show some _ = some _ from e) with e; injection e with e1 e2; subst e1; subst e2
    have hfn := MapKept.run_findKey (w := w) (P := P) hkd hf
    have he' : es'[j]? = some ⟨k', y', b⟩ := by rw [← Array.getElem?_toList]; exact he
    refine ⟨rfl, _, map_put R hp hm (es' := es'.modify j fun e => { e with key := k', val := v' }) (by rw [modify_at' he]; exact h2.set hk hv j), ?_⟩
    simp only [Instr.mapUpdate, Sem.run_bind, run_underlying hu, Result.andThen_ok, MapKept.run_getObj_map h1, hck, hfn, he', Option.map_some, Option.getD_some, MapKept.run_keyThatStays hik, MapKept.run_setObj_map _ h1]

theorem mapEntry_ok (R : HRel NG N0 w0 m h w) {t : TypeId} {x k u : V} {x' k' : Value} {h' : H} (e : mapEntryA P t x k h = some (u, h')) (hx : VRel m x x') (hk : VRel m k k') : Yld P NG N0 w0 m h w nid (Instr.mapEntry t x' k') u h' := by
  replace e := bnd_some.1 e; obtain ⟨el, hty, e⟩ := e
  obtain ⟨kt, kd, hu, hkd, hkk⟩ := mapTy_inv hty
  replace e := bnd_some.1 e; obtain ⟨z, hz, e⟩ := e
  obtain ⟨z', z1, z2⟩ := run_zeroValue hz w
  replace e := bnd_some.1 e; obtain ⟨id, hid, e⟩ := e
  obtain rfl := map?A_inv hid
  obtain ⟨L, hm, rfl⟩ := map_inv hx
  replace e := bnd_some.1 e; obtain ⟨p, hp, e⟩ := e
  obtain ⟨es', h1, h2⟩ := map_of R hp hm
  replace e := bnd_some.1 e; obtain ⟨r, hr, e⟩ := e
  have hf := findA_ok hkk hk h2 hr
  have hik := key_inv hkk hk
  have hck : (Instr.checkKey false 10000 kt k').run P w = .ok () w := MapKept.run_checkKey hkd hik false 9999
  cases r with
  | none =>
    injection (show some _ = some _ from e) with e; injection e with e1 e2; subst e1; subst e2
    have hfn := MapKept.run_findKey (w := w) (P := P) hkd (show Instr.findNow kd k' es'.toList 0 = some none from hf)
    refine ⟨m, _, .tuple #[z', .int .i64 p.2], Ext.refl m _, map_put R hp hm (es' := es'.push ⟨k', z', p.2⟩) (by rw [Array.toList_push]; exact h2.push hk (z2 m)), .tup _ [z', .int .i64 p.2] (.cons _ _ _ _ (z2 m) (.cons _ _ _ _ (.int _ _) .nil)), ?_⟩
    simp only [Instr.mapEntry, Sem.run_bind, run_underlying hu, Result.andThen_ok, MapKept.run_getObj_map h1, hck, hfn, z1, MapKept.run_setObj_map _ h1, Sem.run_pure, goInt]
  | some q =>
    obtain ⟨j, y, b⟩ := q
    obtain ⟨y', n, e0, hf, hy', he, _⟩ := hf
    rw [Nat.zero_add] at e0; subst e0
    injection (show some _ = some _ from e) with e; injection e with e1 e2; subst e1; subst e2
    have hfn := MapKept.run_findKey (w := w) (P := P) hkd hf
    have he' : es'[j]? = some ⟨k', y', b⟩ := by rw [← Array.getElem?_toList]; exact he
    refine ⟨m, _, .tuple #[y', .int .i64 b], Ext.refl m _, map_put R hp hm (es' := es'.modify j fun e => { e with key := k' }) (by rw [modify_at' he]; exact h2.set hk hy' j), .tup _ [y', .int .i64 b] (.cons _ _ _ _ hy' (.cons _ _ _ _ (.int _ _) .nil)), ?_⟩
    simp only [Instr.mapEntry, Sem.run_bind, run_underlying hu, Result.andThen_ok, MapKept.run_getObj_map h1, hck, hfn, he', Option.map_some, Option.getD_some, MapKept.run_keyThatStays hik, MapKept.run_setObj_map _ h1, Sem.run_pure, goInt]

theorem entryStore_ok (R : HRel NG N0 w0 m h w) {t : TypeId} {x s v u : V} {x' s' v' : Value} {h' : H} (e : entryStoreA x s v h = some (u, h')) (hx : VRel m x x') (hs : VRel m s s') (hv : VRel m v v') :
    u = .undef ∧ ∃ w', Good NG N0 w0 m h w m h' w' ∧ (Instr.entryStore t x' s' v').run P w = .ok () w' := by
  replace e := bnd_some.1 e; obtain ⟨id, hid, e⟩ := e
  obtain rfl := map?A_inv hid
  obtain ⟨L, hm, rfl⟩ := map_inv hx
  replace e := bnd_some.1 e; obtain ⟨p, hp, e⟩ := e
  obtain ⟨es', h1, h2⟩ := map_of R hp hm
  replace e := bnd_some.1 e; obtain ⟨⟨ik, n⟩, hn, e⟩ := e
  obtain rfl := V.nat?_inv hn
  obtain rfl := int_inv hs
  replace e := bnd_some.1 e; obtain ⟨q, hq, e⟩ := e
  injection e with e; injection e with e1 e2; subst e1; subst e2
  obtain ⟨j, y, e0, e1, e2, e3, e4⟩ := h2.born hq
  rw [Nat.zero_add] at e0
  obtain ⟨qi, qk⟩ := q
  dsimp only at e0; subst e0
  refine ⟨rfl, _, map_put R hp hm (es' := es'.modify qi fun e => { e with val := v' }) (by rw [modify_at' e1, ← e3]; exact h2.set e2 hv qi), ?_⟩
  have hfi : es'.findIdx? (fun e => (e.born : Int) == (n : Int)) = some qi := by
    show (es'.toList.toArray).findIdx? (fun e => (e.born : Int) == (n : Int)) = some qi
    rw [List.findIdx?_toArray]; exact e4
  simp only [Instr.entryStore, Sem.run_bind, MapKept.run_getObj_map h1, Result.andThen_ok, asInt, asIntOf, Sem.run_pure, hfi, MapKept.run_setObj_map _ h1]

theorem delete_ok (R : HRel NG N0 w0 m h w) {t ty : TypeId} {x k u : V} {x' k' : Value} {h' : H} {ats : Array TypeId} (hat : ats[0]? = some t) (e : deleteA P t x k h = some (u, h')) (hx : VRel m x x') (hk : VRel m k k') :
    Yld P NG N0 w0 m h w nid (Builtin.delete_ ats ty #[x', k']) u h' := by
  replace e := bnd_some.1 e; obtain ⟨el, hty, e⟩ := e
  obtain ⟨kt, kd, hu, hkd, hkk⟩ := mapTy_inv hty
  replace e := bnd_some.1 e; obtain ⟨id, hid, e⟩ := e
  obtain rfl := map?A_inv hid
  obtain ⟨L, hm, rfl⟩ := map_inv hx
  replace e := bnd_some.1 e; obtain ⟨p, hp, e⟩ := e
  obtain ⟨es', h1, h2⟩ := map_of R hp hm
  replace e := bnd_some.1 e; obtain ⟨r, hr, e⟩ := e
  have hf := findA_ok hkk hk h2 hr
  have hik := key_inv hkk hk
  have hck : ∀ b, (Instr.checkKey b 10000 kt k').run P w = .ok () w := fun b => MapKept.run_checkKey hkd hik b 9999
  cases r with
  | none =>
    injection (show some _ = some _ from e) with e; injection e with e1 e2; subst e1; subst e2
    have hfn := MapKept.run_findKey (w := w) (P := P) hkd (show Instr.findNow kd k' es'.toList 0 = some none from hf)
    have hsame : w.heap.setIfInBounds L.b (.map es' p.2) = w.heap := by
      apply Array.ext_getElem?
      intro i
      by_cases hi : L.b = i
      · subst hi; rw [Array.getElem?_setIfInBounds_self, if_pos (Array.getElem?_eq_some_iff.1 h1).1, h1]
      · rw [Array.getElem?_setIfInBounds_ne hi]
    refine ⟨m, w, .tuple #[], Ext.refl m _, R.same, .tup [] [] .nil, ?_⟩
    simp only [Builtin.delete_, hat, Sem.run_bind, run_underlying hu, Result.andThen_ok, MapKept.run_getObj_map h1, hck, hfn, MapKept.run_setObj_map _ h1, Sem.run_pure, hsame, List.getElem?_toArray, List.getElem?_cons_zero, List.getElem?_cons_succ]
  | some q =>
    obtain ⟨j, y, b⟩ := q
    obtain ⟨y', n, e0, hf, hy', he, _⟩ := hf
    rw [Nat.zero_add] at e0; subst e0
    injection (show some _ = some _ from e) with e; injection e with e1 e2; subst e1; subst e2
    have hfn := MapKept.run_findKey (w := w) (P := P) hkd hf
    refine ⟨m, _, .tuple #[], Ext.refl m _, map_put R hp hm (es' := es'.eraseIdxIfInBounds j) (by rw [Array.toList_eraseIdxIfInBounds]; exact h2.erase j), .tup [] [] .nil, ?_⟩
    simp only [Builtin.delete_, hat, Sem.run_bind, run_underlying hu, Result.andThen_ok, MapKept.run_getObj_map h1, hck, hfn, MapKept.run_setObj_map _ h1, Sem.run_pure, List.getElem?_toArray, List.getElem?_cons_zero, List.getElem?_cons_succ]

theorem chan?A_inv {x : V} {id : Nat} (e : chan?A x = some id) : x = .chan id := by
  cases x <;> first | (cases e; done) | skip
  injection e with e; subst e; rfl
theorem chan_inv {id : Nat} {x : Value} (hx : VRel m (.chan id) x) : ∃ L, m id = some L ∧ x = .chan (some L.b) := by cases hx with | chan _ L e => exact ⟨L, e, rfl⟩
theorem close_ok (R : HRel NG N0 w0 m h w) {ty : TypeId} {x u : V} {x' : Value} {h' : H} {ats : Array TypeId} (e : closeA x h = some (u, h')) (hx : VRel m x x') : Yld P NG N0 w0 m h w nid (Builtin.close_ ats ty #[x']) u h' := by
  replace e := bnd_some.1 e; obtain ⟨id, hid, e⟩ := e
  obtain rfl := chan?A_inv hid
  obtain ⟨L, hm, rfl⟩ := chan_inv hx
  replace e := bnd_some.1 e; obtain ⟨o, ho, e⟩ := e
  split at e
  · injection e with e; injection e with e1 e2; subst e1; subst e2
    obtain ⟨L', m1, hlt, _, hat⟩ := R.objs id _ ho
    rw [hm] at m1; injection m1 with m1; subst m1
    have hat : w.heap[L.b]? = some (.chan 0 #[] false 0 0 false) := hat
    refine ⟨m, _, .tuple #[], Ext.refl m _, obj_put R ho hm rfl (x := .chan 0 #[] true 0 0 false) (o' := .chan true) fun w' hw => hw, .tup [] [] .nil, ?_⟩
    have e0 : Builtin.close_ ats ty #[.chan (some L.b)] = (getObj L.b >>= fun o => match o with
      | .chan room buf closed sent received timer => (if closed then (runtimePanic (.plain "close of closed channel") >>= fun (_ : Unit) => setObj L.b (.chan room buf true sent received timer) >>= fun _ => pure (.tuple #[])) else setObj L.b (.chan room buf true sent received timer) >>= fun _ => pure (.tuple #[]))
      | _ => stuck "close: no channel in this block" : Sem Value) := rfl
    rw [e0]
    simp [getObj, setObj, Sem.run, hat]
  · cases e

/-! ### New ones -/
theorem makeMap_ok (R : HRel NG N0 w0 m h w) (hf : m nid = none) (hn : nid < h.next) {t : TypeId} {y : Option V} {y' : Option Value} {v : V} {o : O} (e : makeMapA P t y nid = some (v, o)) (hy : ORelO m y y') :
    Yld P NG N0 w0 m h w nid (Instr.makeMap t y') v (h.set nid (some o)) := by
  have key : v = .map nid ∧ o = .map [] 0 ∧ (Instr.makeMap t y').run P w = .ok (.map (some w.heap.size)) { w with heap := w.heap.push (.map #[] 0) } := by
    cases hy with
    | none =>
      injection (show some _ = some _ from e) with e; injection e with e1 e2; subst e1; subst e2
      exact ⟨rfl, rfl, rfl⟩
    | some a a' ha =>
      replace e := bnd_some.1 (show (a.nat?).bind _ = some _ from e); obtain ⟨⟨ik, n⟩, hn', e⟩ := e
      obtain rfl := V.nat?_inv hn'
      obtain rfl := int_inv ha
      replace e := bnd_some.1 e; obtain ⟨d, hd, e⟩ := e
      split at e
      · injection e with e; injection e with e1 e2; subst e1; subst e2
        refine ⟨rfl, rfl, ?_⟩
        simp [Instr.makeMap, run_underlying hd, asInt, asIntOf, newObj, Sem.run]
      · cases e
  obtain ⟨rfl, rfl, hr⟩ := key
  obtain ⟨p1, p2⟩ := R.alloc (o := .map [] 0) (L := ⟨w.heap.size, 0, 0, 0⟩) hf hn (.map #[] 0) (w' := { w with heap := w.heap.push (.map #[] 0) }) rfl rfl rfl rfl rfl ⟨#[], by simp, .nil⟩
  exact ⟨_, _, _, p1, p2, VRel.map nid ⟨w.heap.size, 0, 0, 0⟩ (Mu.upd_at _ _ _), hr⟩
theorem rangeMap_ok (R : HRel NG N0 w0 m h w) (hf : m nid = none) (hn : nid < h.next) {t : TypeId} {x v : V} {x' : Value} {h' : H} (e : rangeMapA P t x nid h = some (v, h')) (hx : VRel m x x') :
    Yld P NG N0 w0 m h w nid (Instr.range t x') v h' := by
  replace e := bnd_some.1 e; obtain ⟨id, hid, e⟩ := e
  obtain rfl := map?A_inv hid
  obtain ⟨L, hm, rfl⟩ := map_inv hx
  replace e := bnd_some.1 e; obtain ⟨p, hp, e⟩ := e
  obtain ⟨es', h1, h2⟩ := map_of R hp hm
  replace e := bnd_some.1 e; obtain ⟨d, hd, e⟩ := e
  split at e
  case h_2 => cases e
  injection e with e; injection e with e1 e2; subst e1; subst e2
  have hne : id ≠ nid := fun h => by subst h; rw [hf] at hm; cases hm
  obtain ⟨p1, p2⟩ := R.alloc (o := .miter (some id) p.2 [] p.2) (L := ⟨w.heap.size, 0, 0, 0⟩) hf hn (.mapIter (some L.b) p.2 #[] p.2) (w' := { w with heap := w.heap.push (.mapIter (some L.b) p.2 #[] p.2) }) rfl rfl rfl rfl rfl
    ⟨rfl, some L.b, by simp, L, by rw [Mu.upd_ne _ _ hne]; exact hm, rfl⟩
  refine ⟨_, _, .pointer (some ⟨w.heap.size, 0 + 0, none⟩), p1, p2, VRel.ptr nid 0 ⟨w.heap.size, 0, 0, 0⟩ (Mu.upd_at _ _ _), ?_⟩
  simp [Instr.range, run_underlying hd, MapKept.run_getObj_map h1, newObj, Sem.run]
theorem run_bytesOf {t : TypeId} {n : Nat} (e : bytesOf' P t = some n) : ∃ i, P.info? t = some i ∧ i.bytes = n := by
  replace e := bnd_some.1 e; obtain ⟨i, hi, e⟩ := e
  injection e with e
  exact ⟨i, hi, e⟩
theorem makeChan_ok (R : HRel NG N0 w0 m h w) (hf : m nid = none) (hn : nid < h.next) {t : TypeId} {y : V} {y' : Value} {v : V} {o : O} (e : makeChanA P t y nid = some (v, o)) (hy : VRel m y y') :
    Yld P NG N0 w0 m h w nid (Instr.makeChan t y') v (h.set nid (some o)) := by
  replace e := bnd_some.1 e; obtain ⟨⟨ik, n⟩, hn', e⟩ := e
  obtain rfl := V.nat?_inv hn'
  obtain rfl := int_inv hy
  replace e := bnd_some.1 e; obtain ⟨d, hd, e⟩ := e
  split at e
  · rename_i dir el
    replace e := bnd_some.1 e; obtain ⟨by_, hb, e⟩ := e
    obtain ⟨i, hi, _⟩ := run_bytesOf hb
    replace e := grd_some.1 e; obtain ⟨hg, e⟩ := e
    injection e with e; injection e with e1 e2; subst e1; subst e2
    have h0 := Nat.eq_of_beq_eq_true hg
    dsimp only at h0; subst h0
    obtain ⟨p1, p2⟩ := R.alloc (o := .chan false) (L := ⟨w.heap.size, 0, 0, 0⟩) hf hn (.chan 0 #[] false 0 0 false) (w' := { w with heap := w.heap.push (.chan 0 #[] false 0 0 false) }) rfl rfl rfl rfl rfl (by show _ = _; simp)
    refine ⟨_, _, .chan (some w.heap.size), p1, p2, VRel.chan nid ⟨w.heap.size, 0, 0, 0⟩ (Mu.upd_at _ _ _), ?_⟩
    simp [Instr.makeChan, run_underlying hd, asInt, asIntOf, run_typeInfo hi, newObj, Sem.run, IntKind.max, IntKind.bits, IntKind.signed]
  · cases e
end
end Go.Proofs.YtejnegabdjpipaaGreatDoor.AM

/- The smaller machine's operations: those that leave memory, and those that make a row. -/
namespace Go.Proofs.YtejnegabdjpipaaGreatDoor.AM
variable [Syms]
open Go.RowKit (Below)

section
variable {P : Program} {NG N0 : Nat} {w0 : World} {m : Mu} {h : H} {w : World} {nid : Nat} {ev : Operand → Option V} {ρ : Operand → Value}

theorem max_run {c : Call} {v : V} {ty : TypeId} (hev : ∀ x v, ev x = some v → VRel m v (ρ x)) (hc : c.callee = .builtin .max) (e : maxA ev c = some v) : Val P m w (do let d ← resolve ρ c ty; invoke d.target d.args) v := by
  unfold maxA at e
  split at e
  case h_2 => cases e
  case h_1 x y hl =>
    have hargs : c.args.map ρ = #[ρ x, ρ y] := by apply Array.ext'; simp [hl]
    replace e := bnd_some.1 e; obtain ⟨a, h1, e⟩ := e
    replace e := bnd_some.1 e; obtain ⟨b, h2, e⟩ := e
    split at e
    case h_2 => cases e
    case h_1 k c' lo hi rel n =>
      cases hg : decide (n ≤ lo) with
      | false => rw [hg] at e; cases e
      | true =>
        rw [hg] at e
        injection e with e; subst e
        have hg := of_decide_eq_true hg
        have ha := hev _ _ h1
        have hb := int_inv (hev _ _ h2)
        obtain ⟨u, hu, _, h3, _, _⟩ := nv_inv ha
        refine ⟨ρ x, ha, ?_⟩
        rw [hu] at hargs ⊢
        rw [hb] at hargs
        have hn : ¬ (n > u) := by omega
        simp [resolve, hc, invoke, builtin, hargs, Builtin.max_, Builtin.max2, hn]
theorem pure_ok (hev : ∀ x v, ev x = some v → VRel m v (ρ x)) {o : Oper} {v : V} (e : pureA P ev o = some v) : Val P m w (execOp ρ o) v := by
  obtain ⟨dst, op, type, pos, after, guard⟩ := o
  cases op <;> simp only [pureA] at e <;> first | (cases e; done) | skip
  case move x => exact ⟨ρ x, hev _ _ e, rfl⟩
  case assign x => exact ⟨ρ x, hev _ _ e, rfl⟩
  case pick c a b =>
    replace e := bnd_some.1 e; obtain ⟨q, hq, e⟩ := e
    split at e
    · rename_i b'
      have hb := bool_inv (hev _ _ hq)
      cases b' with
      | true =>
        exact ⟨ρ a, hev _ _ (show ev a = some v from e), by simp only [execOp, Sem.run_bind, hb, asBool, Sem.run_pure, Result.andThen_ok, if_true]⟩
      | false =>
        exact ⟨ρ b, hev _ _ (show ev b = some v from e), by simp only [execOp, Sem.run_bind, hb, asBool, Sem.run_pure, Result.andThen_ok, Bool.false_eq_true, if_false]⟩
    · cases e
  case build t ps =>
    replace e := bnd_some.1 e; obtain ⟨vs, h1, e⟩ := e
    have hp := partsOf_ok hev h1
    exact val_of (build_ok (parts' := ps.map fun p => (p.1, ρ p.2)) e (by simpa using hp))
  case nilCheck x =>
    replace e := bnd_some.1 e; obtain ⟨a, h1, e⟩ := e
    obtain ⟨h2, rfl⟩ := nilOk_ok (w := w) (P := P) (ρ := ρ) (o := ⟨dst, .nilCheck x, type, pos, after, guard⟩) rfl e (hev _ _ h1) rfl
    exact ⟨ρ x, hev _ _ h1, h2⟩
  case binOp op t x y yt =>
    replace e := bnd_some.1 e; obtain ⟨a, h1, e⟩ := e
    replace e := bnd_some.1 e; obtain ⟨b, h2, e⟩ := e
    rcases or_some e with e | e
    · obtain ⟨v', h3, h4⟩ : ∃ v', (do eqGuard op t x y (ρ x) (ρ y); binOp op t (ρ x) (ρ y) : Sem Value).run P w = .ok v' w ∧ VRel m v v' := by
        rcases or_some e with e | e
        · exact bin_ok (w := w) (x := x) (y := y) e (hev _ _ h1) (hev _ _ h2)
        · rcases or_some e with e | e
          · exact symBin_ok (w := w) (x := x) (y := y) e (hev _ _ h1) (hev _ _ h2)
          · rcases or_some e with e | e
            · exact nvBin_ok (w := w) (x := x) (y := y) e (hev _ _ h1) (hev _ _ h2)
            · rcases or_some e with e | e
              · exact nvAdd_ok (w := w) (x := x) (y := y) e (hev _ _ h1) (hev _ _ h2)
              · exact tpBin_ok (w := w) (x := x) (y := y) e (hev _ _ h1) (hev _ _ h2)
      exact ⟨v', h4, by simp only [execOp, Sem.run_bind, Sem.run_pure] at h3 ⊢; rw [h3]; rfl⟩
    · exact val_plain hev (by intro cs b h; cases h) e
  case unOp op t x => exact val_plain hev (by intro cs b h; cases h) e
  case convert s d x =>
    replace e := bnd_some.1 e; obtain ⟨a, h1, e⟩ := e
    rcases or_some e with e | e
    · obtain ⟨v', h3, h4⟩ := conv_ok (w := w) e (hev _ _ h1)
      exact val_of ⟨v', h4, h3⟩
    · exact val_plain hev (by intro cs b h; cases h) e
  case makeInterface t x =>
    replace e := bnd_some.1 e; obtain ⟨a, h1, e⟩ := e
    replace e := bnd_some.1 e; obtain ⟨d, hd, e⟩ := e
    split at e
    · cases e
    · rename_i hni
      injection e with e; subst e
      refine ⟨.iface t (ρ x), .iface _ _ _ (hev _ _ h1), ?_⟩
      simp only [execOp, Instr.makeInterface, Sem.run_bind, run_underlying hd, Result.andThen_ok, Sem.run_pure]
  case makeFunc fn first captured =>
    replace e := bnd_some.1 e; obtain ⟨f, h1, e⟩ := e
    replace e := bnd_some.1 e; obtain ⟨c, h2, e⟩ := e
    injection e with e; subst e
    have r1 := evAll_ok hev h1
    have r2 := evAll_ok hev h2
    refine ⟨.func fn (first.map ρ) (captured.map ρ), ?_, rfl⟩
    have := VRel.func fn f c _ _ r1 r2
    have e1 : ∀ xs : Array Operand, xs.map ρ = (xs.toList.map ρ).toArray := fun xs => by apply Array.ext'; simp
    rw [e1, e1]
    exact this
  case fieldAddr s x f =>
    replace e := bnd_some.1 e; obtain ⟨a, h1, e⟩ := e
    exact val_of (fieldAt_ok e (hev _ _ h1))
  case field s x f =>
    replace e := bnd_some.1 e; obtain ⟨a, h1, e⟩ := e
    exact val_of (field_ok e (hev _ _ h1))
  case indexAddr t x i =>
    replace e := bnd_some.1 e; obtain ⟨a, h1, e⟩ := e
    replace e := bnd_some.1 e; obtain ⟨b, h2, e⟩ := e
    exact val_of (indexAt_ok e (hev _ _ h1) (hev _ _ h2))
  case index t x i =>
    replace e := bnd_some.1 e; obtain ⟨a, h1, e⟩ := e
    replace e := bnd_some.1 e; obtain ⟨b, h2, e⟩ := e
    exact val_of (index_ok e (hev _ _ h1) (hev _ _ h2))
  case extract t ix =>
    replace e := bnd_some.1 e; obtain ⟨a, h1, e⟩ := e
    split at e
    · rename_i vs
      rw [lget_eq] at e
      have hr := hev _ _ h1
      cases hr' : ρ t <;> rw [hr'] at hr <;> cases hr
      rename_i vs' hv
      obtain ⟨v', h2, h3⟩ := hv.get e
      refine ⟨v', h3, ?_⟩
      have : (vs'.toArray)[ix]? = some v' := by simpa using h2
      simp only [execOp, hr', Instr.extract, this, Sem.run_bind, Sem.run_pure, Result.andThen_ok]
    · cases e
  case typeAssert x a b ok => exact val_plain hev (by intro cs b h; cases h) e
  case call c =>
    split at e
    · rename_i hc
      replace e := bnd_some.1 e; obtain ⟨x, h1, e⟩ := e
      replace e := bnd_some.1 e; obtain ⟨a, h2, e⟩ := e
      replace e := bnd_some.1 e; obtain ⟨t, h3, e⟩ := e
      replace e := bnd_some.1 e; obtain ⟨d, h4, e⟩ := e
      replace e := grd_some.1 e; obtain ⟨h5, e⟩ := e
      exact len_run hc h1 h3 h4 h5 e (hev _ _ h2)
    · rename_i hc
      replace e := bnd_some.1 e; obtain ⟨x, h1, e⟩ := e
      replace e := bnd_some.1 e; obtain ⟨a, h2, e⟩ := e
      replace e := bnd_some.1 e; obtain ⟨t, h3, e⟩ := e
      replace e := bnd_some.1 e; obtain ⟨d, h4, e⟩ := e
      split at e
      · exact cap_run hc h1 h3 h4 e (hev _ _ h2)
      · cases e
    · exact val_plain hev (by intro cs b h; cases h) e
    · rename_i hc
      rcases or_some e with e | e
      · exact max_run hev hc e
      · exact val_plain hev (by intro cs b h; cases h) e
    · rename_i hc
      replace e := bnd_some.1 e; obtain ⟨x, h1, e⟩ := e
      replace e := bnd_some.1 e; obtain ⟨a, h2, e⟩ := e
      split at e
      · replace e := grd_some.1 e; obtain ⟨h5, e⟩ := e
        injection e with e; subst e
        exact slDataNil_run hc h1 (Nat.eq_of_beq_eq_true h5) (hev _ _ h2)
      replace e := bnd_some.1 e; obtain ⟨p, h3, e⟩ := e
      replace e := grd_some.1 e; obtain ⟨h5, e⟩ := e
      injection e with e; subst e
      simp only [Bool.and_eq_true, Bool.not_eq_true'] at h5
      exact slData_run hc h1 (Nat.eq_of_beq_eq_true h5.2) h3 (by intro h0; rw [h0] at h5; cases h5.1) (hev _ _ h2)
    · cases e

theorem optA_ok (hev : ∀ x v, ev x = some v → VRel m v (ρ x)) {x : Option Operand} {y : Option V} (e : optA ev x = some y) : ORelO m y (x.map ρ) := by
  cases x with
  | none => injection e with e; subst e; exact .none
  | some x =>
    replace e := bnd_some.1 (show (ev x).bind _ = some y from e); obtain ⟨a, h1, e⟩ := e
    injection e with e; subst e
    exact .some _ _ (hev _ _ h1)
theorem bytesOf_ok : ∀ {cs : List V} {bs : List UInt8} {cs' : List Value}, bytesOfCells cs = some bs → VsRel m cs cs' →
    ∃ ns : List Int, cs' = ns.map (Value.int .u8) ∧ bs = ns.map fun n => UInt8.ofNat n.toNat
  | [], bs, cs', e, h => by injection e with e; subst e; cases h; exact ⟨[], rfl, rfl⟩
  | v :: cs, bs, cs', e, h => by
    cases h with
    | cons _ v' _ cs' hv hvs =>
      unfold bytesOfCells at e
      split at e
      · rename_i heq; cases heq
      · rename_i n vs heq
        injection heq with h1 h2; subst h1; subst h2
        replace e := bnd_some.1 e; obtain ⟨r, hr, e⟩ := e
        injection e with e; subst e
        obtain ⟨ns, rfl, rfl⟩ := bytesOf_ok hr hvs
        cases hv
        exact ⟨n :: ns, rfl, rfl⟩
      · cases e
theorem run_bytesToString {a : Addr} {len c : Nat} {ns : List Int} (hl : (loadCells a len).run P w = .ok (ns.map (Value.int .u8)).toArray w) :
    (Conv.bytesToString (.slice (some a) len c)).run P w = .ok (.string ⟨(ns.map fun n => UInt8.ofNat n.toNat).toArray⟩) w := by
  have key : ∀ (ns : List Int) (s : ByteArray), (forIn (m := Sem) (ns.map (Value.int .u8)) s fun c s => (match c with
      | .int .u8 n => pure (ForInStep.yield (s.push (UInt8.ofNat n.toNat)))
      | _ => (do let _ ← (stuck "bytesToString: byte expected" : Sem PUnit); pure (ForInStep.yield s)) : Sem (ForInStep ByteArray))).run P w = .ok ⟨s.data ++ (ns.map fun n => UInt8.ofNat n.toNat).toArray⟩ w := by
    intro ns
    induction ns with
    | nil => intro s; simp
    | cons n ns ih =>
      intro s
      rw [List.map_cons, List.forIn_cons]
      simp only [Sem.run_bind, Sem.run_pure, Result.andThen_ok, ih]
      congr 2
      simp [ByteArray.push]
  simp only [Conv.bytesToString, Sem.run_bind, hl, Result.andThen_ok]
  rw [List.forIn_toArray]
  have := key ns ByteArray.empty
  rw [show ByteArray.empty.data = #[] from rfl, Array.empty_append] at this
  exact (congrArg (fun r : Result ByteArray => r.andThen fun a w' => Sem.run P (pure (Value.string a)) w') this)

theorem bytesStr_ok (R : HRel NG N0 w0 m h w) {s d : TypeId} {a v : V} {a' : Value} (e : bytesStrA P s d a h = some v) (ha : VRel m a a') : Gets P m w (convert s d a') v := by
  replace e := bnd_some.1 e; obtain ⟨sd, hs, e⟩ := e
  split at e
  case h_2 => cases e
  case h_1 el =>
    replace e := bnd_some.1 e; obtain ⟨ed, he, e⟩ := e
    split at e
    case h_2 => cases e
    case h_1 =>
      replace e := bnd_some.1 e; obtain ⟨dd, hd, e⟩ := e
      split at e
      case h_2 => cases e
      case h_1 =>
        replace e := bnd_some.1 e; obtain ⟨n, hn, e⟩ := e
        replace e := bnd_some.1 e; obtain ⟨cs, hcs, e⟩ := e
        replace e := bnd_some.1 e; obtain ⟨bs, hbs, e⟩ := e
        injection e with e; subst e
        cases a with
        | nilsl =>
          cases ha
          injection hcs with hcs; subst hcs
          injection hbs with hbs; subst hbs
          exact ⟨.string .empty, .str [], by simp [convert, run_underlying hs, run_underlying hd, run_underlying he, Conv.bytesToString]⟩
        | sl id off len cap =>
          injection hn with hn; subst hn
          obtain ⟨L, c, hm, rfl, _⟩ := sl_inv ha
          obtain ⟨cs', h1, h2⟩ := first_ok (P := P) R hcs ha
          obtain ⟨ns, h3, h4⟩ := bytesOf_ok hbs h2
          subst h4
          simp only [Builtin.firstCells, Nat.mul_one] at h1
          have hl : (loadCells ⟨L.b, L.d + off, none⟩ len).run P w = .ok (ns.map (Value.int .u8)).toArray w := by
            rw [h1, ← h3]
          exact ⟨_, .str _, by simp only [convert, Sem.run_bind, run_underlying hs, run_underlying hd, run_underlying he, Result.andThen_ok]; exact run_bytesToString hl⟩
        | _ => simp [slLenA] at hn
theorem shape_of {b : Nat} {c : Array Value} {t : TypeId} {fz : Nat × Nat} (e : w.heap[b]? = some (.cells c t fz)) : w.shape? b = some (t, c.size) := by simp [World.shape?, e]
theorem uptr_ok (R : HRel NG N0 w0 m h w) {s d : TypeId} {a v : V} {a' : Value} (e : uptrA P s d a h = some v) (ha : VRel m a a') : Gets P m w (convert s d a') v := by
  replace e := bnd_some.1 e; obtain ⟨⟨id, off⟩, hp, e⟩ := e
  obtain rfl := V.ptr?_inv hp; dsimp only at *
  obtain ⟨L, hm, rfl⟩ := ptr_inv ha
  replace e := bnd_some.1 e; obtain ⟨r, hr, e⟩ := e
  obtain ⟨_, _, cc, fz, RR⟩ := row_of R hr hm
  have hsh := shape_of RR.at_
  have hfit := RR.fits
  have hend := RR.ends
  replace e := bnd_some.1 e; obtain ⟨sd, hs, e⟩ := e
  replace e := bnd_some.1 e; obtain ⟨dd, hd, e⟩ := e
  have hseen : ∀ o, (Conv.seenAt ⟨L.b, o, none⟩).run P w = .ok ⟨L.b, o, none⟩ w := fun o => by
    simp [Conv.seenAt, viewAt, hsh]
  split at e
  · replace e := bnd_some.1 e; obtain ⟨n, hn, e⟩ := e
    replace e := grd_some.1 e; obtain ⟨hg, e⟩ := e
    injection e with e; subst e
    simp only [Bool.and_eq_true, Bool.not_eq_true'] at hg
    have hn0 : n ≠ 0 := by intro h0; subst h0; cases hg.1
    have hlt := Nat.le_of_ble_eq_true hg.2
    have hge : ¬ (cc.size ≤ L.d + off) := by omega
    refine ⟨_, ha, ?_⟩
    simp [convert, run_underlying hs, run_underlying hd, Conv.unsafePointer, hseen, cellsIn, hsh, run_sizeOf hn, hn0, hge]
  · replace e := bnd_some.1 e; obtain ⟨n, hn, e⟩ := e
    replace e := grd_some.1 e; obtain ⟨hg, e⟩ := e
    injection e with e; subst e
    simp only [Bool.and_eq_true] at hg
    obtain ⟨hd0, hcs⟩ := RR.ex hg.1
    have hv : ∀ u, (variablesAt ⟨L.b, L.d + off, none⟩ u 1).run P w = .ok (liesAt P P.depth r.elem (cc.size / P.cellsOf r.elem) (L.d + off) u 1) w := fun u => by
      simp [variablesAt, hsh]
    rw [hd0, Nat.zero_add] at *
    rw [hcs] at hv
    refine ⟨_, ha, ?_⟩
    simp [convert, run_underlying hs, run_underlying hd, Conv.unsafePointer, hseen, run_sizeOf hn, hv, hg.2]
  · cases e

theorem load_ok (R : HRel NG N0 w0 m h w) (hev : ∀ x v, ev x = some v → VRel m v (ρ x)) {o : Oper} {v : V} (e : loadA P ev o h = some v) : Val P m w (execOp ρ o) v := by
  obtain ⟨dst, op, type, pos, after, guard⟩ := o
  cases op <;> simp only [loadA] at e <;> first | (cases e; done) | skip
  case load t a =>
    replace e := bnd_some.1 e; obtain ⟨a', h1, e⟩ := e
    exact val_of (loadAt_ok R e (hev _ _ h1))
  case slice t x lo hi mx =>
    replace e := bnd_some.1 e; obtain ⟨a', h1, e⟩ := e
    replace e := bnd_some.1 e; obtain ⟨l, h2, e⟩ := e
    replace e := bnd_some.1 e; obtain ⟨u, h3, e⟩ := e
    replace e := bnd_some.1 e; obtain ⟨c, h4, e⟩ := e
    exact val_of (sliceAt_ok R e (hev _ _ h1) (optA_ok hev h2) (optA_ok hev h3) (optA_ok hev h4))
  case convert s d x =>
    replace e := bnd_some.1 e; obtain ⟨a', h1, e⟩ := e
    rcases or_some e with e | e
    · exact val_of (bytesStr_ok R e (hev _ _ h1))
    · exact val_of (uptr_ok R e (hev _ _ h1))
  case lookup t x k ok =>
    replace e := bnd_some.1 e; obtain ⟨a', h1, e⟩ := e
    replace e := bnd_some.1 e; obtain ⟨q, h2, e⟩ := e
    exact val_of (lookup_ok R e (hev _ _ h1) (hev _ _ h2))
  case entry it =>
    replace e := bnd_some.1 e; obtain ⟨a', h1, e⟩ := e
    exact val_of (entry_ok R e (hev _ _ h1))
  case call c =>
    split at e
    · rename_i hc
      replace e := grd_some.1 e; obtain ⟨hsz, e⟩ := e
      have hsz := Nat.eq_of_beq_eq_true hsz
      replace e := bnd_some.1 e; obtain ⟨x, hx, e⟩ := e
      replace e := bnd_some.1 e; obtain ⟨a', h1, e⟩ := e
      replace e := bnd_some.1 e; obtain ⟨t, ht, e⟩ := e
      replace e := bnd_some.1 e; obtain ⟨d, hd, e⟩ := e
      split at e
      · obtain ⟨v', h2, h3⟩ := lenMap_ok (ty := type) R ht hd e (hev _ _ h1)
        refine ⟨v', h2, ?_⟩
        have hargs : c.args.map ρ = #[ρ x] := one_arg hsz hx
        simp [execOp, resolve, hc, invoke, builtin, hargs, h3]
      · cases e
    · cases e

/-! ### Operations that make a row -/
/-- The operation gives a value and makes the row. -/
def Mks (P : Program) (NG N0 : Nat) (w0 : World) (m : Mu) (h : H) (w : World) (nid : Nat) (s : Sem Next) (v : V) (h' : H) : Prop :=
  ∃ m' w' v', Ext m m' nid ∧ Good NG N0 w0 m h w m' h' w' ∧ VRel m' v v' ∧ s.run P w = .ok (.value v') w'
theorem mks_of {s : Sem Value} {v : V} {h' : H} (k : Yld P NG N0 w0 m h w nid s v h') : Mks P NG N0 w0 m h w nid (do pure (.value (← s))) v h' := by
  obtain ⟨m', w', v', h1, h2, h3, h4⟩ := k
  exact ⟨m', w', v', h1, h2, h3, by simp [h4]⟩
theorem strBytes_ok (R : HRel NG N0 w0 m h w) (hf : m nid = none) (hn : nid < h.next) {s d : TypeId} {a v : V} {a' : Value} {r : Row} (e : strBytesA P s d a nid = some (v, r)) (ha : VRel m a a') :
    Yld P NG N0 w0 m h w nid (convert s d a') v (h.set nid (some (.row r))) := by
  replace e := bnd_some.1 e; obtain ⟨b, hb, e⟩ := e
  obtain rfl := V.str?_inv hb
  obtain rfl := str_inv ha
  replace e := bnd_some.1 e; obtain ⟨sd, hs, e⟩ := e
  replace e := bnd_some.1 e; obtain ⟨dd, hd, e⟩ := e
  split at e
  case h_2 => cases e
  case h_1 el =>
    replace e := bnd_some.1 e; obtain ⟨ed, he, e⟩ := e
    split at e
    case h_2 => cases e
    case h_1 =>
      replace e := grd_some.1 e; obtain ⟨hg, e⟩ := e
      injection e with e; injection e with e1 e2; subst e1; subst e2
      have hsz : (⟨b.toArray⟩ : ByteArray).size = b.length := by simp [ByteArray.size]
      generalize hcap : (Question.appendCap b.length 0 el).cut (w.tape w.drawn (.appendCap b.length 0 el)) = cap
      have hcl : b.length ≤ cap := by rw [← hcap]; exact Nat.le_add_right _ _
      have hch : (choose (.appendCap b.length 0 el)).run P w = .ok cap { w with drawn := w.drawn + 1 } := by rw [run_choose, hcap]; rfl
      -- the row as it stands
      let c : Array Value := (Array.map (fun b : UInt8 => Value.int .u8 (b.toNat : Int)) b.toArray) ++ Array.replicate (cap - b.length) (.int .u8 0)
      have hc : c.size = cap := by simp [c]; omega
      have hv : VsRel m (b.map fun c => V.int .u8 (c.toNat : Int)) (c.toList.take (b.map fun c => V.int .u8 (c.toNat : Int)).length) := by
        have h1 : ∀ l : List UInt8, VsRel m (l.map fun c => V.int .u8 (c.toNat : Int)) (l.map fun c => Value.int .u8 (c.toNat : Int)) := by
          intro l
          induction l with
          | nil => exact .nil
          | cons a l ih => exact .cons _ _ _ _ (.int _ _) ih
        have h2 : c.toList.take (b.map fun c => V.int .u8 (c.toNat : Int)).length = b.map fun c => Value.int .u8 (c.toNat : Int) := by
          simp only [c, Array.toList_append]
          rw [take_app _ _ _ (by simp)]
          simp
        rw [h2]; exact h1 b
      obtain ⟨p1, p2⟩ := new_row R hf hn (t := el) (sz := 1) (st := true) (ex := false) (frz := 0) (fz := (cap, cap + 1)) cap (vs := b.map fun c => V.int .u8 (c.toNat : Int)) (c := c) hv (by simpa using hcl) (by omega)
        (w1 := { w with drawn := w.drawn + 1 }) rfl rfl rfl rfl (w' := { w with drawn := w.drawn + 1, heap := w.heap.push (.cells c el (cap, cap + 1)) }) rfl rfl rfl rfl (.inr ⟨rfl, rfl, by rw [hc]; exact Nat.le_refl _⟩) (fun h => by cases h)
      refine ⟨_, _, .slice (some ⟨w.heap.size, 0, none⟩) b.length cap, p1, p2, ?_, ?_⟩
      · exact VRel.slo nid 0 b.length cap ⟨w.heap.size, 0, cap, 1⟩ (Mu.upd_at _ _ _) (by simp) hcl
      · simp only [convert, Sem.run_bind, run_underlying hs, run_underlying hd, run_underlying he, Result.andThen_ok]
        have hmk : ∀ W : World, W.heap = w.heap.push (.cells c el (0, 0)) → (markStringish ⟨w.heap.size, 0, none⟩).run P W = .ok () { W with heap := w.heap.push (.cells c el (cap, cap + 1)) } := by
          intro W hW
          have hs' : W.shape? w.heap.size = some (el, c.size) := by simp [World.shape?, hW]
          simp only [markStringish, Sem.run_bind, run_shape, hs', Result.andThen_ok, run_freeze, hc]
          congr 1
          simp only [World.freeze, hW]
          rw [if_neg (by omega)]
          congr 1
          apply Array.ext_getElem?
          intro k
          rw [Array.getElem?_modify]
          by_cases hk : w.heap.size = k
          · subst hk; simp
          · rw [if_neg hk, Array.getElem?_push, Array.getElem?_push, if_neg (Ne.symm hk), if_neg (Ne.symm hk)]
        simp only [Conv.stringToBytes, Sem.run_bind, hsz, hch, Result.andThen_ok, newRow, run_newObj, Sem.run_pure]
        rw [hmk _ rfl]
        rfl
end
end Go.Proofs.YtejnegabdjpipaaGreatDoor.AM

/- The smaller machine's operations: those that make a row, and those that change memory. -/
namespace Go.Proofs.YtejnegabdjpipaaGreatDoor.AM
variable [Syms]
open Go.RowKit (Below)

section
variable {P : Program} {NG N0 : Nat} {w0 : World} {m : Mu} {h : H} {w : World} {nid : Nat} {ev : Operand → Option V} {ρ : Operand → Value}

theorem mks_of' {s : Sem Value} {s' : Sem Next} {v : V} {h' : H} (hx : s' = (do pure (.value (← s)))) (k : Yld P NG N0 w0 m h w nid s v h') : Mks P NG N0 w0 m h w nid s' v h' := by rw [hx]; exact mks_of k
theorem mks_rowed {s : Sem Value} {s' : Sem Next} {r : V × Row} {v : V} {o : O} (hr : rowed r = (v, o)) (hx : s' = (do pure (.value (← s)))) (k : Yld P NG N0 w0 m h w nid s r.1 (h.set nid (some (.row r.2)))) : Mks P NG N0 w0 m h w nid s' v (h.set nid (some o)) := by
  injection hr with h1 h2; subst h1; subst h2
  exact mks_of' hx k
theorem alloc_op (R : HRel NG N0 w0 m h w) (hf : m nid = none) (hn : nid < h.next) (hev : ∀ x v, ev x = some v → VRel m v (ρ x)) {o : Oper} {v : V} {r : O} (e : allocA P ev o nid = some (v, r)) :
    Mks P NG N0 w0 m h w nid (execOp ρ o) v (h.set nid (some r)) := by
  obtain ⟨dst, op, type, pos, after, guard⟩ := o
  cases op <;> simp only [allocA] at e <;> first | (cases e; done) | skip
  case alloc t =>
    replace e := bnd_some.1 e; obtain ⟨z, h1, e⟩ := e
    injection e with e
    exact mks_rowed e rfl (alloc_ok (P := P) R hf hn h1)
  case box t x =>
    replace e := bnd_some.1 e; obtain ⟨a, h1, e⟩ := e
    injection e with e
    exact mks_rowed e rfl (box_ok (P := P) R hf hn (t := t) (hev _ _ h1))
  case buildSlice t len ps =>
    replace e := bnd_some.1 e; obtain ⟨vs, h1, e⟩ := e
    replace e := bnd_some.1 e; obtain ⟨⟨v1, r1⟩, h2, e⟩ := e
    injection e with e
    have hp := partsOf_ok hev h1
    have hp' : PsRel m vs (ps.map fun (i, x) => (i, ρ x)).toList := by rw [Array.toList_map]; exact hp
    exact mks_rowed e rfl (buildSlice_ok (P := P) R hf hn h2 hp')
  case makeSlice t l c =>
    replace e := bnd_some.1 e; obtain ⟨a, h1, e⟩ := e
    replace e := bnd_some.1 e; obtain ⟨b, h2, e⟩ := e
    replace e := bnd_some.1 e; obtain ⟨⟨v1, r1⟩, h3, e⟩ := e
    injection e with e
    exact mks_rowed e (s := Instr.makeSlice t (ρ l) (ρ c)) rfl (makeSlice_ok R hf hn h3 (hev _ _ h1) (hev _ _ h2))
  case convert s d x =>
    replace e := bnd_some.1 e; obtain ⟨a, h1, e⟩ := e
    replace e := bnd_some.1 e; obtain ⟨⟨v1, r1⟩, h2, e⟩ := e
    injection e with e
    exact mks_rowed e (s := Go.convert s d (ρ x)) rfl (strBytes_ok R hf hn h2 (hev _ _ h1))
  case makeMap t r =>
    replace e := bnd_some.1 e; obtain ⟨a, h1, e⟩ := e
    exact mks_of' rfl (makeMap_ok R hf hn e (optA_ok hev h1))
  case makeChan t n =>
    replace e := bnd_some.1 e; obtain ⟨a, h1, e⟩ := e
    exact mks_of' (s := Instr.makeChan t (ρ n)) rfl (makeChan_ok R hf hn e (hev _ _ h1))

/-- The operation changes memory: behind it stands h', and v is given. -/
def Chg (P : Program) (NG N0 : Nat) (w0 : World) (m : Mu) (h : H) (w : World) (nid : Nat) (s : Sem Next) (v : V) (h' : H) : Prop :=
  ∃ m' w' v', Ext m m' nid ∧ Good NG N0 w0 m h w m' h' w' ∧ VRel m' v v' ∧ (s.run P w = .ok (.value v') w' ∨ (s.run P w = .ok .skip w' ∧ v' = undef))
theorem chg_of {s : Sem Value} {v : V} {h' : H} (k : Yld P NG N0 w0 m h w nid s v h') : Chg P NG N0 w0 m h w nid (do pure (.value (← s))) v h' := by
  obtain ⟨m', w', v', h1, h2, h3, h4⟩ := k
  exact ⟨m', w', v', h1, h2, h3, .inl (by simp [h4])⟩

theorem putExt_ok (R : HRel NG N0 w0 m h w) {id off : Nat} {vs : List V} {vs' : List Value} {h' : H} (e : putExt h id off vs = some h') (hv : VsRel m vs vs') {L : Loc} (hm : m id = some L) (hroom : L.d + off + vs.length * L.sz ≤ L.e) :
    ∃ w', (storeCells ⟨L.b, L.d + off, none⟩ vs').run P w = .ok () w' ∧ Good NG N0 w0 m h w m h' w' := by
  replace e := bnd_some.1 e; obtain ⟨r, hr, e⟩ := e
  replace e := grd_some.1 e; obtain ⟨hg, e⟩ := e
  injection e with e; subst e
  simp only [Bool.and_eq_true, Bool.not_eq_true'] at hg
  obtain ⟨⟨⟨⟨⟨hro, hst⟩, hfz⟩, hsz⟩, hoff⟩, h1⟩ := hg
  have hfz := Nat.eq_of_beq_eq_true hfz
  have hsz := Nat.eq_of_beq_eq_true hsz
  have hoff := Nat.le_of_ble_eq_true hoff
  obtain ⟨hlt, _, c, fz, RR⟩ := row_of R hr hm
  have hfit := RR.fits; have hend := RR.ends
  rw [RR.sz, hsz, Nat.mul_one] at hroom
  obtain ⟨w', c', e1, e2, e3, e4, e5⟩ := RR.stores (P := P) off hv h1 (by omega) hroom
  have hn := hv.length
  have hsl : (splice r.cs off vs).length = off + (vs.length + (r.cs.length - (off + vs.length))) := by
    unfold splice
    rw [List.length_append, List.length_append, List.length_take, List.length_drop]; omega
  refine ⟨w', e1, R.set (rowOf_some hr) hm hro e2 ⟨c', fz, { at_ := e3, sz := RR.sz, fits := ?_, ends := by rw [e5]; exact hend, vals := ?_, frz := ?_, ex := fun h => by cases h }⟩⟩
  · show L.d + (splice r.cs off vs).length ≤ L.e
    rw [hsl]; omega
  · show VsRel m (splice r.cs off vs) ((c'.toList.drop L.d).take (splice r.cs off vs).length)
    have hcl : L.d + off ≤ c.toList.length := by rw [Array.length_toList]; omega
    have hB : c'.toList.drop L.d = (c.toList.drop L.d).take off ++ (vs' ++ (c.toList.drop L.d).drop (off + vs'.length)) := by
      rw [e4, List.drop_append_of_le_length (by rw [List.length_take]; omega), List.drop_take, List.drop_drop, Nat.add_sub_cancel_left, Nat.add_assoc]
    rw [hB]
    have v1 : VsRel m (r.cs.take off) ((c.toList.drop L.d).take off) := by
      have := RR.vals.take off
      rwa [List.take_take, Nat.min_eq_left hoff] at this
    have v2 : VsRel m (r.cs.drop (off + vs.length)) (((c.toList.drop L.d).drop (off + vs'.length)).take (r.cs.length - (off + vs.length))) := by
      have := RR.vals.drop (off + vs.length)
      rw [List.drop_take] at this
      rw [hn]; exact this
    have hfin := v1.append (hv.append v2)
    have hl1 : ((c.toList.drop L.d).take off).length = off := by rw [List.length_take, List.length_drop]; omega
    have e6 : ((c.toList.drop L.d).take off ++ (vs' ++ (c.toList.drop L.d).drop (off + vs'.length))).take (splice r.cs off vs).length = (c.toList.drop L.d).take off ++ (vs' ++ ((c.toList.drop L.d).drop (off + vs'.length)).take (r.cs.length - (off + vs.length))) := by
      rw [hsl, List.take_append, hl1, List.take_of_length_le (by rw [hl1]; omega), Nat.add_sub_cancel_left, List.take_append, List.take_of_length_le (l := vs') (by omega), ← hn, Nat.add_sub_cancel_left]
    rw [e6]
    exact hfin
  · have := RR.frz
    rw [e5]; exact this
theorem copy_ok (R : HRel NG N0 w0 m h w) {dt : TypeId} {d x v : V} {d' x' : Value} {h' : H} {ats : Array TypeId} {ty : TypeId} (ha : ats[0]? = some dt)
    (e : copyA P dt d x h = some (v, h')) (hd : VRel m d d') (hx : VRel m x x') : Yld P NG N0 w0 m h w nid (Builtin.copy_ ats ty #[d', x']) v h' := by
  replace e := bnd_some.1 e; obtain ⟨td, hu, e⟩ := e
  split at e
  case h_2 => cases e
  case h_1 el =>
    replace e := bnd_some.1 e; obtain ⟨k, hk, e⟩ := e
    replace e := bnd_some.1 e; obtain ⟨n, hn, e⟩ := e
    replace e := bnd_some.1 e; obtain ⟨q, hq, e⟩ := e
    replace e := bnd_some.1 e; obtain ⟨new, hnew, e⟩ := e
    have hlen := len_ok (P := P) (w := w) hn hx
    obtain ⟨new', h1, h2⟩ := first_ok (P := P) R hnew hx
    cases d <;> first | (cases e; done) | skip
    case nilsl =>
      cases hd
      injection hq with hq; subst hq
      injection e with e; injection e with e1 e2; subst e1; subst e2
      refine ⟨m, w, _, Ext.refl m _, R.same, .int _ _, ?_⟩
      have h1' : (Builtin.firstCells k 0 x').run P w = .ok new' w := by simpa using h1
      simp [Builtin.copy_, ha, run_underlying hu, hlen, run_sizeOf hk, h1', goInt]
    case sl id off len cap =>
      obtain ⟨L, c, hm, rfl, _⟩ := sl_inv hd
      injection hq with hq; subst hq
      replace e := bnd_some.1 e; obtain ⟨h1', hp, e⟩ := e
      injection e with e; injection e with e1 e2; subst e1; subst e2
      obtain ⟨w', q1, q2⟩ := putCells_ok (P := P) R hp h2 hm
      refine ⟨m, w', _, Ext.refl m _, q2, .int _ _, ?_⟩
      simp [Builtin.copy_, ha, run_underlying hu, hlen, run_sizeOf hk, h1, q1, goInt]
    case sle id off len cap =>
      obtain ⟨L, c, hm, rfl, hc1, hc2, hc3⟩ := sle_inv hd
      injection hq with hq; subst hq
      replace e := grd_some.1 e; obtain ⟨hg, e⟩ := e
      simp only [Bool.and_eq_true] at hg
      have hk1 := Nat.eq_of_beq_eq_true hg.1
      have hnl := Nat.le_of_ble_eq_true hg.2
      replace e := bnd_some.1 e; obtain ⟨h1', hp, e⟩ := e
      injection e with e; injection e with e1 e2; subst e1; subst e2
      have hroom : L.d + off + new.length * L.sz ≤ L.e := by
        have : new.length * L.sz ≤ c * L.sz := Nat.mul_le_mul_right _ (by omega)
        omega
      obtain ⟨w', q1, q2⟩ := putExt_ok (P := P) R hp h2 hm hroom
      refine ⟨m, w', _, Ext.refl m _, q2, .int _ _, ?_⟩
      simp [Builtin.copy_, ha, run_underlying hu, hlen, run_sizeOf hk, h1, q1, goInt]

theorem clear_ok (R : HRel NG N0 w0 m h w) {t : TypeId} {s v : V} {s' : Value} {h' : H} {ats : Array TypeId} {ty : TypeId} (ha : ats[0]? = some t)
    (e : clearA P t s h = some (v, h')) (hs : VRel m s s') : Yld P NG N0 w0 m h w nid (Builtin.clear_ ats ty #[s']) v h' := by
  replace e := bnd_some.1 e; obtain ⟨td, hu, e⟩ := e
  split at e
  case h_2 => cases e
  case h_1 el =>
    replace e := bnd_some.1 e; obtain ⟨z, hz, e⟩ := e
    obtain ⟨z', h1, h2⟩ := run_zeroValue hz w
    cases s <;> first | (cases e; done) | skip
    case nilsl =>
      cases hs
      injection e with e; injection e with e1 e2; subst e1; subst e2
      exact ⟨m, w, .tuple #[], Ext.refl m _, R.same, .tup [] [] .nil, by simp [Builtin.clear_, ha, run_underlying hu]⟩
    case sl id off len cap =>
      obtain ⟨L, c, hm, rfl, _⟩ := sl_inv hs
      replace e := bnd_some.1 e; obtain ⟨h1', hp, e⟩ := e
      replace e := grd_some.1 e; obtain ⟨hg, e⟩ := e
      injection e with e; injection e with e1 e2; subst e1; subst e2
      simp only [Bool.and_eq_true, Bool.not_eq_true'] at hg
      have hl0 : len ≠ 0 := by intro h0; subst h0; cases hg.1
      have hz0 : 0 < z.cells.length := by
        rcases Nat.eq_zero_or_pos z.cells.length with h0 | h0
        · rw [h0] at hg; cases hg.2
        · exact h0
      have hr := rep_ok (m := m) (z := z.cells) (z' := z'.cells) (h2 m).cells hz0 len
      have hzl := (h2 m).cells.length
      simp only [Array.length_toList] at hzl
      obtain ⟨w', q1, q2⟩ := putCells_ok (P := P) R hp hr hm
      refine ⟨m, w', .tuple #[], Ext.refl m _, q2, .tup [] [] .nil, ?_⟩
      have e0 : (Builtin.zeroCells z'.cells len) = (Array.range (len * z.cells.length)).map (z'.cells[· % z'.cells.size]!) := by unfold Builtin.zeroCells; rw [hzl]
      cases len with
      | zero => exact absurd rfl hl0
      | succ len =>
        have q1' : (storeCells ⟨L.b, L.d + off, none⟩ (Builtin.zeroCells z'.cells (len + 1)).toList).run P w = .ok () w' := by rw [e0]; exact q1
        simp [Builtin.clear_, ha, run_underlying hu, h1, q1']

theorem mark_ok (R : HRel NG N0 w0 m h w) {s d : TypeId} {x v : V} {x' : Value} {h' : H} (e : markA P s d x h = some (v, h')) (hx : VRel m x x') :
    Yld P NG N0 w0 m h w nid (convert s d x') v h' := by
  replace e := bnd_some.1 e; obtain ⟨⟨id, off, len, cap⟩, hp, e⟩ := e
  obtain rfl := V.sl?_inv hp; dsimp only at *
  obtain ⟨L, c, hm, rfl, _⟩ := sl_inv hx
  replace e := bnd_some.1 e; obtain ⟨r, hr, e⟩ := e
  replace e := bnd_some.1 e; obtain ⟨sd, hs, e⟩ := e
  split at e
  case h_2 => cases e
  case h_1 el0 =>
    replace e := bnd_some.1 e; obtain ⟨dd, hd, e⟩ := e
    split at e
    case h_2 => cases e
    case h_1 el =>
      replace e := bnd_some.1 e; obtain ⟨ed, he, e⟩ := e
      split at e
      case h_2 => cases e
      case h_1 =>
        replace e := grd_some.1 e; obtain ⟨hg, e⟩ := e
        injection e with e; injection e with e1 e2; subst e1; subst e2
        simp only [Bool.and_eq_true, Bool.not_eq_true'] at hg
        obtain ⟨⟨⟨g1, g2⟩, g3⟩, g4⟩ := hg
        have g1 := Nat.eq_of_beq_eq_true g1
        have g3 := Nat.eq_of_beq_eq_true g3
        subst g1
        rw [hs] at hd; injection hd with hd; injection hd with hd; subst hd
        obtain ⟨hlt, hro, cc, fz, RR⟩ := row_of R hr hm
        have hsh := shape_of RR.at_
        have hfz : fz.1 = fz.2 := by
          rcases RR.frz with ⟨_, h2 | ⟨q, h1, rfl⟩⟩ | ⟨h1, _, _⟩
          · exact h2
          · rw [g3] at h1; have : q = 0 := by omega
            subst this; rfl
          · rw [g2] at h1; cases h1
        have hmk : (markStringish ⟨L.b, L.d + off, none⟩).run P w = .ok () (w.freeze { block := L.b, off := cc.size } 1) := by
          simp [markStringish, hsh]
        have hat : (w.freeze { block := L.b, off := cc.size } 1).heap[L.b]? = some (.cells cc r.elem (cc.size, cc.size + 1)) := by
          simp only [World.freeze]
          rw [if_neg (by omega)]
          show (w.heap.modify L.b _)[L.b]? = _
          rw [modify_at _ _ _ _ RR.at_]
          obtain ⟨f1, f2⟩ := fz
          dsimp only at hfz
          subst hfz
          simp
        have hS : Same1 L.b w (w.freeze { block := L.b, off := cc.size } 1) := by
          simp only [World.freeze]
          rw [if_neg (by omega)]
          exact ⟨rfl, rfl, rfl, by simp, fun k hk => modify_other _ _ _ _ hk⟩
        have hG := R.set (rowOf_some hr) hm g4 hS (o' := .row { r with st := true }) ⟨cc, (cc.size, cc.size + 1), { at_ := hat, sz := RR.sz, fits := RR.fits, ends := RR.ends, vals := RR.vals, frz := .inr ⟨rfl, g3, Nat.le_refl _⟩, ex := RR.ex }⟩
        refine ⟨m, _, _, Ext.refl m _, hG, hx, ?_⟩
        simp [convert, run_underlying hs, run_underlying he, hmk]
end
end Go.Proofs.YtejnegabdjpipaaGreatDoor.AM

/- The smaller machine's operations that change memory, whole; and calls. -/
namespace Go.Proofs.YtejnegabdjpipaaGreatDoor.AM
variable [Syms]
open Go.RowKit (Below)

section
variable {P : Program} {NG N0 : Nat} {w0 : World} {m : Mu} {h : H} {w : World} {nid : Nat} {ev : Operand → Option V} {ρ : Operand → Value}

theorem run_loadBytes : ∀ (ns : List Int) (b o : Nat) (acc : ByteArray), (∀ j n, ns[j]? = some n → w.cell? ⟨b, o + j, none⟩ = some (.int .u8 n)) →
    (loadBytes ⟨b, o, none⟩ acc ns.length).run P w = .ok ⟨acc.data ++ (ns.map fun n => UInt8.ofNat n.toNat).toArray⟩ w
  | [], b, o, acc, _ => by simp [loadBytes]
  | n :: ns, b, o, acc, hc => by
    have h0 := hc 0 n rfl
    simp only [Nat.add_zero] at h0
    have ih := run_loadBytes ns b (o + 1) (acc.push (UInt8.ofNat n.toNat)) (fun j k hj => by rw [show o + 1 + j = o + (j + 1) by omega]; exact hc (j + 1) k (by simpa using hj))
    simp only [List.length_cons, loadBytes, Sem.run_bind, run_load, h0, Result.andThen_ok, addr_add]
    have : (n.toNat).toUInt8 = UInt8.ofNat n.toNat := rfl
    rw [this, ih]
    congr 2
    simp [ByteArray.push]

theorem unsafeStr_ok (R : HRel NG N0 w0 m h w) {pt : TypeId} {a n v : V} {a' n' : Value} {h' : H} {ats : Array TypeId} {ty : TypeId} (hat : ats[0]? = some pt)
    (e : unsafeStrA P pt a n h = some (v, h')) (ha : VRel m a a') (hn : VRel m n n') : Yld P NG N0 w0 m h w nid (Builtin.unsafeString_ ats ty #[a', n']) v h' := by
  unfold unsafeStrA at e
  cases hnil : isNilptr a with
  | true =>
    rw [hnil] at e
    replace e := bnd_some.1 (show (n.nat?).bind _ = some _ from e); obtain ⟨⟨k, q⟩, hq, e⟩ := e
    obtain rfl := V.nat?_inv hq; dsimp only at *
    obtain rfl := int_inv hn
    replace e := grd_some.1 e; obtain ⟨hg, e⟩ := e
    injection e with e; injection e with e1 e2; subst e1; subst e2
    have h0 := Nat.eq_of_beq_eq_true hg
    subst h0
    cases a <;> first | (cases hnil; done) | skip
    cases ha
    refine ⟨m, w, .string .empty, Ext.refl m _, R.same, .str [], ?_⟩
    show (do
      let n ← asInt (.int k ((0 : Nat) : Int))
      let some pt := ats[0]? | stuck "unsafe.String: no argument types"
      if n < 0 then runtimePanic (.error "unsafe.String: len out of range")
      if n > IntKind.i64.max then unsupported (.unsafePointer "String: a length above the largest int")
      if n = 0 then pure (.string .empty)
      else runtimePanic (.error "unsafe.String: ptr is nil and len is not zero") : Sem Value).run P w = _
    simp [asInt, asIntOf, hat, IntKind.max, IntKind.bits, IntKind.signed]
  | false =>
  rw [hnil] at e
  replace e := bnd_some.1 (show (a.ptr?).bind _ = some _ from e); obtain ⟨⟨id, off⟩, hp, e⟩ := e
  obtain rfl := V.ptr?_inv hp; dsimp only at *
  replace e := bnd_some.1 e; obtain ⟨⟨k, q⟩, hq, e⟩ := e
  obtain rfl := V.nat?_inv hq; dsimp only at *
  obtain rfl := int_inv hn
  obtain ⟨L, hm, rfl⟩ := ptr_inv ha
  replace e := bnd_some.1 e; obtain ⟨r, hr, e⟩ := e
  replace e := bnd_some.1 e; obtain ⟨d, hu, e⟩ := e
  split at e
  case h_2 => cases e
  case h_1 el =>
    replace e := grd_some.1 e; obtain ⟨hg, e⟩ := e
    replace e := bnd_some.1 e; obtain ⟨bs, hbs, e⟩ := e
    injection e with e; injection e with e1 e2; subst e1; subst e2
    simp only [Bool.and_eq_true, Bool.not_eq_true'] at hg
    obtain ⟨⟨⟨⟨⟨⟨⟨g1, g2⟩, g3⟩, g4⟩, g5⟩, g6⟩, g7⟩, g8⟩ := hg
    have g1 := Nat.eq_of_beq_eq_true g1
    have g2 : q ≠ 0 := by intro h0; subst h0; cases g2
    have g5 := Nat.le_of_ble_eq_true g5
    have g6 := Nat.le_of_ble_eq_true g6
    have g7 := Nat.eq_of_beq_eq_true g7
    subst g1
    obtain ⟨hlt, hro, cc, fz, RR⟩ := row_of R hr hm
    have hfit := RR.fits
    have hend := RR.ends
    have hsh := shape_of RR.at_
    obtain ⟨ns, h3, h4⟩ := bytesOf_ok hbs (RR.vals.take q)
    have hnl : ns.length = q := by
      have := congrArg List.length h3
      simp at this; omega
    have hcells : ∀ j n, ns[j]? = some n → w.cell? ⟨L.b, L.d + 0 + j, none⟩ = some (.int .u8 n) := by
      intro j n hj
      have hjq : j < q := by rw [← hnl]; exact (List.getElem?_eq_some_iff.1 hj).1
      rw [Nat.add_zero, RR.cellAt]
      have := congrArg (fun l : List Value => l[j]?) h3
      simp only [List.getElem?_map, hj, Option.map_some] at this
      rw [List.getElem?_take, if_pos hjq, List.getElem?_take, if_pos (by omega)] at this
      exact this
    have hlb := run_loadBytes (P := P) (w := w) ns L.b (L.d + 0) ByteArray.empty hcells
    rw [hnl, show ByteArray.empty.data = #[] from rfl, Array.empty_append, ← h4] at hlb
    have hv : (variablesAt ⟨L.b, L.d + 0, none⟩ el q).run P w = .ok true w := by
      simp only [variablesAt, Sem.run_bind, run_program, Result.andThen_ok, run_shape, hsh, Sem.run_pure, g7, Nat.div_one, Nat.add_zero]
      congr 1
      have hdep : ∃ dd, P.depth = dd + 1 := ⟨2 * (P.types.size + Made.depth) + 1, rfl⟩
      obtain ⟨dd, hdd⟩ := hdep
      rw [hdd] at g8 ⊢
      unfold liesAt
      rw [hdd]
      unfold rowAt
      simp only [g7, Nat.div_one, Nat.mod_one, beq_self_eq_true, Bool.true_and]
      rw [if_neg (by omega), g8]
      simp
      omega
    have hfz0 : fz.1 = fz.2 ∨ ∃ p, p ≤ r.frz ∧ fz = (L.d, L.d + p) := by
      rcases RR.frz with ⟨_, h⟩ | ⟨h1, _, _⟩
      · exact h
      · rw [g3] at h1; cases h1
    have hat' : ∃ fz', (w.freeze ⟨L.b, L.d + 0, none⟩ q).heap[L.b]? = some (.cells cc r.elem fz') ∧ FrzOk { r with frz := Nat.max r.frz q } L.d fz' cc.size := by
      simp only [World.freeze]
      rw [if_neg g2]
      refine ⟨_, (modify_at _ _ _ _ RR.at_).trans rfl, .inl ⟨g3, .inr ?_⟩⟩
      obtain ⟨f1, f2⟩ := fz
      by_cases hf : f1 = f2
      · subst hf
        exact ⟨q, Nat.le_max_right _ _, by simp⟩
      · rcases hfz0 with h | ⟨p, hp', h⟩
        · exact absurd h hf
        · injection h with h1 h2
          subst h1; subst h2
          have hne : (L.d == L.d + p) = false := by simp; intro h0; subst h0; exact hf rfl
          refine ⟨max p q, Nat.max_le.2 ⟨Nat.le_trans hp' (Nat.le_max_left _ _), Nat.le_max_right _ _⟩, ?_⟩
          simp only [hne, Bool.false_eq_true, if_false, Nat.add_zero, Nat.min_self]
          congr 1
          omega
    obtain ⟨fz', hat1, hfz'⟩ := hat'
    have hS : Same1 L.b w (w.freeze ⟨L.b, L.d + 0, none⟩ q) := by
      simp only [World.freeze]
      rw [if_neg g2]
      exact ⟨rfl, rfl, rfl, by simp, fun k hk => modify_other _ _ _ _ hk⟩
    have hG := R.set (rowOf_some hr) hm g4 hS (o' := .row { r with frz := Nat.max r.frz q }) ⟨cc, fz', { at_ := hat1, sz := RR.sz, fits := RR.fits, ends := RR.ends, vals := RR.vals, frz := hfz', ex := RR.ex }⟩
    refine ⟨m, _, _, Ext.refl m _, hG, .str bs, ?_⟩
    have hel : (elemOf pt).run P w = .ok el w := by simp [elemOf, run_underlying hu]
    show (do
      let n ← asInt (.int k (q : Int))
      let some pt := ats[0]? | stuck "unsafe.String: no argument types"
      if n < 0 then runtimePanic (.error "unsafe.String: len out of range")
      if n > IntKind.i64.max then unsupported (.unsafePointer "String: a length above the largest int")
      if n = 0 then pure (.string .empty)
      else if ← variablesAt ⟨L.b, L.d + 0, none⟩ (← elemOf pt) n.toNat then do
        let s ← loadBytes ⟨L.b, L.d + 0, none⟩ .empty n.toNat
        freeze ⟨L.b, L.d + 0, none⟩ n.toNat
        pure (.string s)
      else unsupported (.unsafePointer "String: not so many bytes at ptr") : Sem Value).run P w = _
    have n1 : ¬ ((q : Int) < 0) := by omega
    have n2 : ¬ ((q : Int) > IntKind.i64.max) := by simp [IntKind.max, IntKind.bits, IntKind.signed]; omega
    have n3 : ¬ ((q : Int) = 0) := by omega
    simp only [asInt, asIntOf, Sem.run_bind, Sem.run_pure, Result.andThen_ok, hat, hel, n1, n2, n3, if_false, Int.toNat_natCast, hv, if_true, hlb, run_freeze]
end
end Go.Proofs.YtejnegabdjpipaaGreatDoor.AM

/- The smaller machine's operations do what the program's do: a walk over a text. -/
namespace Go.Proofs.YtejnegabdjpipaaGreatDoor.AM
variable [Syms]
open Go.RowKit (Below)

section
variable {P : Program} {NG N0 : Nat} {w0 : World} {m : Mu} {h : H} {w : World} {nid : Nat}

theorem range_ok (R : HRel NG N0 w0 m h w) (hf : m nid = none) (hn : nid < h.next) {t : TypeId} {x v : V} {x' : Value} {h' : H} (e : rangeA P t x nid h = some (v, h')) (hx : VRel m x x') :
    Yld P NG N0 w0 m h w nid (Instr.range t x') v h' := by
  replace e := bnd_some.1 e; obtain ⟨b, hb, e⟩ := e
  obtain rfl := V.str?_inv hb
  obtain rfl := str_inv hx
  replace e := bnd_some.1 e; obtain ⟨d, hd, e⟩ := e
  split at e
  case h_2 => cases e
  injection e with e; injection e with e1 e2; subst e1; subst e2
  obtain ⟨h1, h2⟩ := R.alloc (o := .siter b 0) (L := ⟨w.heap.size, 0, 0, 0⟩) hf hn (.stringIter ⟨b.toArray⟩ 0) (w' := { w with heap := w.heap.push (.stringIter ⟨b.toArray⟩ 0) }) rfl rfl rfl rfl rfl ⟨rfl, by simp⟩
  refine ⟨_, _, .pointer (some ⟨w.heap.size, 0 + 0, none⟩), h1, h2, VRel.ptr nid 0 ⟨w.heap.size, 0, 0, 0⟩ (Mu.upd_at _ _ _), ?_⟩
  simp [Instr.range, run_underlying hd, newObj, Sem.run]
theorem next_ok (R : HRel NG N0 w0 m h w) {x v : V} {x' : Value} {h' : H} {ty : TypeId} (e : nextA x h = some (v, h')) (hx : VRel m x x') :
    Yld P NG N0 w0 m h w nid (Instr.next x' true ty) v h' := by
  replace e := bnd_some.1 e; obtain ⟨⟨id, off⟩, hp, e⟩ := e
  obtain rfl := V.ptr?_inv hp; dsimp only at *
  obtain ⟨L, hm, rfl⟩ := ptr_inv hx
  replace e := bnd_some.1 e; obtain ⟨o, ho, e⟩ := e
  split at e
  case h_2 => cases e
  case h_1 b pos =>
    replace e := grd_some.1 e; obtain ⟨hg, e⟩ := e
    obtain rfl := Nat.eq_of_beq_eq_true hg
    obtain ⟨L', m1, hlt, hro, hd0, hat⟩ := R.objs id _ ho
    rw [hm] at m1; injection m1 with m1; subst m1
    have hsz : (⟨b.toArray⟩ : ByteArray).size = b.length := by simp [ByteArray.size]
    have hget : (getObj L.b).run P w = .ok (.stringIter ⟨b.toArray⟩ pos) w := by simp [getObj, Sem.run, hat]
    cases hb : Nat.blt pos b.length with
    | false =>
      rw [hb] at e
      have e : some (V.tup [.bool false], h) = some (v, h') := e
      injection e with e; injection e with e1 e2; subst e1; subst e2
      have hn : ¬ pos < (⟨b.toArray⟩ : ByteArray).size := by
        rw [hsz]; intro hlt'
        have : Nat.blt pos b.length = true := Nat.ble_eq_true_of_le hlt'
        rw [hb] at this; cases this
      refine ⟨m, w, _, Ext.refl m _, R.same, .tup _ [.bool false] (.cons _ _ _ _ (.bool false) .nil), ?_⟩
      simp [Instr.next, hd0, hget, hn]
    | true =>
      rw [hb] at e
      have e : some (V.tup [.bool true, .int .i64 pos, .int .i32 (Utf8.decode ⟨b.toArray⟩ pos).1], h.set id (some (.siter b (pos + (Utf8.decode ⟨b.toArray⟩ pos).2)))) = some (v, h') := e
      injection e with e; injection e with e1 e2; subst e1; subst e2
      have hl : pos < (⟨b.toArray⟩ : ByteArray).size := by rw [hsz]; exact Nat.le_of_ble_eq_true hb
      have hG := R.set ho hm rfl (w' := w.putObj L.b (.stringIter ⟨b.toArray⟩ (pos + (Utf8.decode ⟨b.toArray⟩ pos).2))) ⟨rfl, rfl, rfl, by simp [World.putObj], fun k hk => World.putObj_heap_other hk⟩ (o' := .siter b (pos + (Utf8.decode ⟨b.toArray⟩ pos).2)) ⟨hd0, World.putObj_heap_same hlt⟩
      have hset : ∀ o, (setObj L.b o).run P w = .ok () (w.putObj L.b o) := fun o => by simp [setObj, Sem.run, hat, World.putObj]
      refine ⟨m, _, _, Ext.refl m _, hG, .tup _ [.bool true, .int .i64 pos, .int .i32 (Utf8.decode ⟨b.toArray⟩ pos).1] (.cons _ _ _ _ (.bool true) (.cons _ _ _ _ (.int _ _) (.cons _ _ _ _ (.int _ _) .nil))), ?_⟩
      simp [Instr.next, hd0, hget, hl, goInt, hset]
end
end Go.Proofs.YtejnegabdjpipaaGreatDoor.AM
