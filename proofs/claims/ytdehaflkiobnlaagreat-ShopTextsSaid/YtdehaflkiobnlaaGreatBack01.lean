/- A part of the proof of Rows.ShopBackSaid: what ShopBack answers, whatever the arguments; it stands under no condition. -/
import Derived.Orders
import Derived.Laws.CopyRow
import Derived.Laws.AppendOwn
import Derived.Laws.Rows
import Derived.Below
import Derived.MapKept
import GoSem.Extern.SlicesOverlaps
set_option linter.unusedVariables false
set_option linter.unusedSimpArgs false
set_option linter.unusedSectionVars false
set_option linter.deprecated false
/- The abstract evaluator: values, states, and what has to hold for a code to run well (definitions alone). -/
namespace Go.Fw
open Go

/-! ### Values: a slice that is only read carries its elements' cells -/
inductive PC where
  | v (x : Value)
  | sl (xs : List (List Value))
  | slc (xs : List (List Value))
inductive Cap where
  | c (x : PC)
  | pv (cs : List PC)
  | ag (cs : List PC)
/-- A captured variable: a shared one, or one that is fixed. -/
inductive CapR where
  | ref (r o : Nat)
  | fix (c : Cap)
inductive Cell where
  | p (x : PC)
  | nils
  | ref (r n : Nat)
  | ptr (r o : Nat)
  | vptr (r n i o : Nat)
  | pv (cs : List PC) (o : Nat)
  | fn (f : FuncId) (pre caps : List Cap)
  | fnr (f : FuncId) (pre caps : List CapR)
  | win (r lo n : Nat)
  | mp (r : Nat)
  /-- a row of cells, one each: its block, its length -/
  | rows (r n : Nat)
  /-- a channel -/
  | ch (r : Nat)
  | junk
inductive W1 where
  | one (x : Cell)
  | agg (cs : List Cell)
inductive AV where
  | w (x : W1)
  | tup (l : List W1)
inductive Blk where
  | none
  | dead
  | vars (cs : List Cell)
  | imm (cs : List PC)
  | vec (e : Nat) (xs : List (List Value)) (fz : Bool)
  /-- an opened row: all its memory, the spare one too -/
  | buf (e n0 : Nat) (ys : List (List Value))
  /-- a map of few entries, each known -/
  | mapb (kk : Nat) (es : List (Value × Cell))
  /-- a map of numbers, or truths -/
  | mapi (kk : Nat) (isB : Bool) (m : List (Value × Int)) (st : Option (Value × Int))
  /-- a walk over a text: the text, the place -/
  | iter (s : List UInt8) (pos : Nat)
  /-- what a range over a function has put off: where it lies -/
  | lock (D : Nat)
  /-- a variable of a type that is told -/
  | tvars (t : Nat) (cs : List Cell)
  /-- a channel: its room, what lies in it, whether it is closed -/
  | chan (cap : Nat) (buf : List Value) (cl : Bool)

inductive TK where
  | int (k : IntKind) | bool | str | slice (e : Nat) | arr (n e : Nat) | struct (fs : List (Nat × Nat × Nat))
  | map (k e : Nat) | func | iface | ptr (e : Nat) | chan (e : Nat) | other
structure TI where
  k : TK
  size : Nat
  bytes : Nat
  zero : Value
  eq : Bool := false
  /-- slices.overlaps at this type: its number, and one -/
  ov : Nat := 0

abbrev Str := List UInt8
abbrev vS (s : Str) : Value := .string ⟨⟨s⟩⟩
abbrev vI (n : Int) : Value := .int .i64 n
@[reducible] def AV.one (c : Cell) : AV := .w (.one c)
@[reducible] def AV.val (x : Value) : AV := .w (.one (.p (.v x)))
@[reducible] def AV.int (n : Int) : AV := .w (.one (.p (.v (.int .i64 n))))
@[reducible] def AV.bool (b : Bool) : AV := .w (.one (.p (.v (.bool b))))
@[reducible] def AV.str (s : Str) : AV := .w (.one (.p (.v (.string ⟨⟨s⟩⟩))))
@[reducible] def AV.sl (xs : List (List Value)) : AV := .w (.one (.p (.sl xs)))
@[reducible] def AV.junk : AV := .w (.one .junk)
/-- Plain cells. -/
def pcs (l : List Value) : List Cell := l.map fun x => .p (.v x)
def AV.pod (l : List Value) : AV := .w (.agg (pcs l))

def cellOf : Value → Cell
  | .slice Option.none 0 0 => .nils
  | .agg _ => .junk
  | .tuple _ => .junk
  | x => .p (.v x)
def cellsOk : List Value → Bool
  | [] => true
  | .agg _ :: _ => false
  | .tuple _ :: _ => false
  | _ :: l => cellsOk l
def w1Of : Value → W1
  | .agg cs => bif cellsOk cs.toList then .agg (cs.toList.map cellOf) else .one .junk
  | x => .one (cellOf x)
def ofVal (x : Value) : AV := .w (w1Of x)
def W1.cells : W1 → List Cell
  | .one c => [c]
  | .agg cs => cs

/-! ### States -/
structure St where
  tm : Nat → AV
  bs : Nat → Blk
  nx : Nat
  nt : Nat
  lo : Nat

def upd {α : Type} (f : Nat → α) (d : Nat) (v : α) : Nat → α := fun n => bif Nat.beq n d then v else f n
def updL {α : Type} (f : Nat → α) : List (Nat × α) → Nat → α
  | [] => f
  | (r, b) :: l => updL (upd f r b) l
structure Eff where
  v : AV
  bl : List (Nat × Blk)
  nx : Nat
def St.put (s : St) (d : Option Nat) (v : AV) : St :=
  match d with
  | some d => { s with tm := fun n => bif Nat.beq n d then bif Nat.blt d s.nt then v else s.tm n else s.tm n }
  | Option.none => s
def St.app (s : St) (d : Option Nat) (e : Eff) : St :=
  { tm := (s.put d e.v).tm, bs := updL s.bs e.bl, nx := e.nx, nt := s.nt, lo := s.lo }
def St.ev (s : St) : Operand → AV
  | .tmp t => s.tm t
  | .const v => ofVal v
  | .func f => .one (.fn f [] [])
  | .global _ => .junk

inductive Ex where
  | normal | exit (id : Nat) | ret | pan (v : Value)
inductive Out where
  | ret (r : AV) | pan (v : Value)

abbrev CallRel := FuncId → List AV → List Blk → Out → List Blk → Prop
/-- A call that is walked into. -/
abbrev Inl := FuncId → List AV → St → (AV → St → Prop) → (Value → Prop) → Prop

structure Cfg where
  T : Nat → TI
  /-- the functions whose results stay slices of one's own -/
  own : FuncId → Bool
  /-- types whose variables bear their type until they are written to -/
  tv : Nat → Bool
  /-- captured variables that stay shared -/
  shared : FuncId → Bool
  /-- functions that are walked into where they are called -/
  inl : FuncId → Bool
  /-- calls of functions that are handed places, told from outside -/
  ji : Inl
  jm : ∀ f ar s (K K' : AV → St → Prop) (Pp Pp' : Value → Prop), (∀ r s, K r s → K' r s) → (∀ v, Pp v → Pp' v) → ji f ar s K Pp → ji f ar s K' Pp'

/-! ### Where a walk stops -/
structure wpB (e : Bool) (K : Bool → Prop) : Prop where
  h : ∀ b, e = b → K b
structure wpN (e : Int) (K : Int → Prop) : Prop where
  h : ∀ n, e = n → K n
structure wpIdx (xs : List (List Value)) (i : Int) (k : Nat) (K : List Value → Prop) : Prop where
  h : ∃ es, 0 ≤ i ∧ xs[i.toNat]? = some es ∧ es.length = k ∧ K es
structure wpLen (dr : Bool) (n : Nat) (K : Prop) : Prop where
  h : (dr = false → n ≤ 140737488355328) → K
structure wpSide (p : Prop) (K : Prop) : Prop where
  l : p
  r : K
def bsel (b : Bool) (X Y : Prop) : Prop := @Bool.rec (fun _ => Prop) Y X b
attribute [reducible] bsel
structure wpCall (C : CallRel) (f : FuncId) (ar : List AV) (K : AV → Prop) (P : Value → Prop) : Prop where
  h : ∃ out, C f ar [] out [] ∧ match out with | .ret r => K r | .pan v => P v

structure wpCallO (C : CallRel) (f : FuncId) (ar : List AV) (bs : List Blk) (K : AV → List Blk → Prop) (P : Value → Prop) : Prop where
  h : ∃ out bs', C f ar bs out bs' ∧ match out with | .ret r => K r bs' | .pan v => P v

structure wpInl (J : Inl) (f : FuncId) (ar : List AV) (s : St) (K : AV → St → Prop) (P : Value → Prop) : Prop where
  h : J f ar s K P
/-- All blocks, as they stand. -/
def blkList (s : St) : List (Nat × Blk) := (List.range s.nx).map fun r => (r, s.bs r)

section
variable (G : Cfg)

def isAgg (t : Nat) : Bool := match (G.T t).k with | .struct _ | .arr _ _ => true | _ => false
def okT (t : Nat) : Bool := match (G.T t).k with | .other => false | _ => true
def sizeT (t : Nat) : Nat := (G.T t).size

def headC : List Cell → Option W1
  | c :: _ => some (.one c)
  | [] => none
/-- A variable's value out of the cells from its place on. -/
def mkW (t : Nat) (cs : List Cell) : Option W1 :=
  match (G.T t).k with
  | .struct _ | .arr _ _ => bif Nat.ble (G.T t).size cs.length then some (.agg (cs.take (G.T t).size)) else none
  | .other => none
  | _ => headC cs

def loadA (s : St) (a : AV) (t : Nat) : Option W1 :=
  match a with
  | .w (.one (.ptr r o)) => match s.bs r with
    | .vars cs => mkW G t (cs.drop o)
    | .imm cs => mkW G t ((cs.drop o).map .p)
    | _ => none
  | .w (.one (.pv cs o)) => mkW G t ((cs.drop o).map .p)
  | _ => none

def setAt {α : Type} : List α → Nat → List α → List α
  | l, _, [] => l
  | [], _, _ => []
  | _ :: l, 0, v :: vs => v :: setAt l 0 vs
  | x :: l, n + 1, vs => x :: setAt l n vs

/-! ### Operators -/
def cmpI (op : BinOp) (x y : Int) : Option Bool :=
  match op with
  | .eql => some (decide (x = y))
  | .neq => some (!decide (x = y))
  | .lss => some (decide (x < y))
  | .leq => some (decide (x ≤ y))
  | .gtr => some (decide (y < x))
  | .geq => some (decide (y ≤ x))
  | _ => none
def arI (op : BinOp) (k : IntKind) (x y : Int) : Option Int :=
  match op with
  | .add => some (k.wrap (x + y))
  | .sub => some (k.wrap (x - y))
  | .mul => some (k.wrap (x * y))
  | .and => some (k.wrap (BitVec.ofInt k.bits x &&& BitVec.ofInt k.bits y).toNat)
  | .or => some (k.wrap (BitVec.ofInt k.bits x ||| BitVec.ofInt k.bits y).toNat)
  | .xor => some (k.wrap (BitVec.ofInt k.bits x ^^^ BitVec.ofInt k.bits y).toNat)
  | _ => none
/-- With a condition: division, shifts. -/
def arC (op : BinOp) (k k' : IntKind) (x y : Int) : Option (Prop × Int) :=
  match op with
  | .quo => if k = k' then some (y ≠ 0, k.wrap (x.tdiv y)) else none
  | .rem => if k = k' then some (y ≠ 0, x.tmod y) else none
  | .shl => some (0 ≤ y, k.wrap (x * 2 ^ (min y.toNat k.bits)))
  | .shr => some (0 ≤ y, x.fdiv (2 ^ (min y.toNat k.bits)))
  | _ => none
def cmpS (op : BinOp) (x y : Str) : Option Bool :=
  match op with
  | .eql => some (decide (x = y))
  | .neq => some (!decide (x = y))
  | .lss => some (Op.bytesLess x y)
  | .leq => some (Op.bytesLess x y || decide (x = y))
  | .gtr => some (!(Op.bytesLess x y || decide (x = y)))
  | .geq => some (!Op.bytesLess x y)
  | _ => none

/-- Plain cells, as values. -/
def valsOf : List Cell → Option (List Value)
  | [] => some []
  | .p (.v x) :: l => (valsOf l).map (x :: ·)
  | .fn f [] [] :: l => (valsOf l).map (.func (.func f) #[] #[] :: ·)
  | _ => none

/-- '==' of plain values of simple kinds. -/
def eqV : Value → Value → Option Bool
  | .int k a, .int k' b => if k = k' then some (decide (a = b)) else none
  | .string ⟨⟨a⟩⟩, .string ⟨⟨b⟩⟩ => some (decide (a = b))
  | .bool a, .bool b => some (a == b)
  | _, _ => none
def eqVs : List Value → List Value → Option Bool
  | [], [] => some true
  | x :: xs, y :: ys => match eqV x y, eqVs xs ys with | some a, some b => some (a && b) | _, _ => none
  | _, _ => none

def fill : (Nat → Option (Nat × Nat)) → List Cell → List (Nat × List Cell) → Option (List Cell)
  | _, cs, [] => some cs
  | pl, cs, (i, v) :: rest => match pl i with
    | some (off, size) => bif Nat.beq v.length size && Nat.ble (off + size) cs.length then fill pl (setAt cs off v) rest else none
    | none => none
def zeroCs (t : Nat) : List Cell := match ofVal (G.T t).zero with | .w x => x.cells | _ => []
def okBox : AV → Bool
  | .w (.one .junk) => false
  | .w _ => true
  | .tup _ => false
def cellsA : AV → List Cell
  | .w x => x.cells
  | .tup _ => []

def buildA (s : St) (t : Nat) (parts : List (Nat × Operand)) : Option AV :=
  bif parts.all fun p => okBox (s.ev p.2) then
    match (G.T t).k with
    | .struct fs => bif fs.all fun f => !Nat.beq f.2.1 0 then
        (fill (fun i => (fs[i]?).map fun f => (f.1, f.2.1)) (zeroCs G t) (parts.map fun p => (p.1, cellsA (s.ev p.2)))).map fun cs => .w (.agg cs) else none
    | .arr _ e => bif !okT G e then none else (fill (fun i => some (i * sizeT G e, sizeT G e)) (zeroCs G t) (parts.map fun p => (p.1, cellsA (s.ev p.2)))).map fun cs => .w (.agg cs)
    | _ => none
  else none

def setNth {α : Type} : List α → Nat → α → List α
  | [], _, _ => []
  | _ :: l, 0, v => v :: l
  | x :: l, n + 1, v => x :: setNth l n v
def sliceParts (s : St) (k : Nat) : List (List Value) → List (Nat × Operand) → Option (List (List Value))
  | xs, [] => some xs
  | xs, (i, x) :: rest => match s.ev x with
    | .w w => match valsOf w.cells with
      | some vs => bif Nat.beq vs.length k && Nat.blt i xs.length then sliceParts s k (setNth xs i vs) rest else none
      | none => none
    | _ => none

def alive (s : St) (r : Nat) : Bool := match s.bs r with | .vars _ | .imm _ => true | _ => false
def faA (al : Nat → Bool) (q : Option (Nat × Nat × Nat)) (x : AV) : Option AV :=
  match q with
  | none => none
  | some (off, sz, _) => match x with
    | .w (.one (.ptr r o)) => bif Nat.beq sz 0 || !al r then none else some (.one (.ptr r (o + off)))
    | .w (.one (.pv cs o)) => bif Nat.beq sz 0 then none else some (.one (.pv cs (o + off)))
    | _ => none
/-- Operations that give a value and no more. -/
def evPure (s : St) (o : Op) : Option AV :=
  match o with
  | .move x | .assign x => some (s.ev x)
  | .unOp .not _ x => match s.ev x with | .w (.one (.p (.v (.bool b)))) => some (.bool !b) | _ => none
  | .unOp .neg _ x => match s.ev x with | .w (.one (.p (.v (.int k n)))) => some (.val (.int k (k.wrap (0 - n)))) | _ => none
  | .fieldAddr t x f => match (G.T t).k with
    | .struct fs => faA (alive s) fs[f]? (s.ev x)
    | _ => none
  | .field t x f => match (G.T t).k with
    | .struct fs => match fs[f]?, s.ev x with
      | some (off, _, ft), .w (.agg cs) => (mkW G ft (cs.drop off)).map .w
      | _, _ => none
    | _ => none
  | .load t a => (loadA G s (s.ev a) t).map .w
  | .extract x i => match s.ev x with
    | .tup l => (l[i]?).map .w
    | _ => none
  | .nilCheck x => match s.ev x with
    | .w (.one (.ptr r o)) => bif alive s r then some (.one (.ptr r o)) else none
    | .w (.one (.pv r o)) => some (.one (.pv r o))
    | _ => none
  | .build t parts => buildA G s t parts.toList
  | .makeInterface t x => match (G.T t).k with
    | .iface => none
    | _ => bif okT G t then match s.ev x with
      | .w (.one (.p (.v x))) => some (.val (.iface t x))
      | .w (.agg cs) => (valsOf cs).map fun vs => .val (.iface t (.agg vs.toArray))
      | _ => none
      else none
  | _ => none

/-! ### What an operation asks for, and its effect -/
inductive Req where
  | eff (e : Eff)
  | side (p : Prop) (e : Eff)
  | askB (b : Bool) (f : Bool → Eff)
  | askN (n : Int) (f : Int → Eff)
  | idx (p : Prop) (xs : List (List Value)) (i : Int) (k : Nat) (f : List Value → Option Eff)
  | bytes (p : Prop) (xs : List (List Value)) (f : List UInt8 → Eff)
def byteRow (l : List UInt8) : List (List Value) := l.map fun c => [.int .u8 c.toNat]
structure wpBytes (xs : List (List Value)) (K : List UInt8 → Prop) : Prop where
  h : ∃ l, xs = byteRow l ∧ K l
def Req.wp (r : Req) (K : Eff → Prop) : Prop :=
  match r with
  | .eff e => K e
  | .side p e => wpSide p (K e)
  | .askB b f => wpB b fun b => K (f b)
  | .askN n f => wpN n fun n => K (f n)
  | .idx p xs i k f => wpSide p (wpIdx xs i k fun es => match f es with | some e => K e | none => False)
  | .bytes p xs f => wpSide p (wpBytes xs fun l => K (f l))

/-- What a slice holds. -/
def rowOf (s : St) (e : Nat) : AV → Option (List (List Value) × Prop)
  | .w (.one .nils) => some ([], True)
  | .w (.one (.p (.sl xs))) => some (xs, ∀ es ∈ xs, es.length = (G.T e).size)
  | .w (.one (.p (.slc xs))) => some (xs, ∀ es ∈ xs, es.length = (G.T e).size)
  | .w (.one (.ref r n)) => match s.bs r with
    | .vec e' xs _ => bif Nat.beq e' e then some (xs, xs.length = n) else none
    | _ => none
  | _ => none
def rowP : AV → Option (List (List Value))
  | .w (.one .nils) => some []
  | .w (.one (.p (.sl xs))) => some xs
  | .w (.one (.p (.slc xs))) => some xs
  | _ => none
def zeroEs (e : Nat) : Option (List Value) := match ofVal (G.T e).zero with | .w x => valsOf x.cells | _ => none
/-- The bytes that a slice may take. -/
def fits (e : Nat) (n : Nat) : Prop := n * (G.T e).bytes ≤ 140737488355328 ∧ n ≤ 140737488355328
def appendA (s : St) (e : Nat) (a : AV) (ys : List (List Value)) (p : Prop) : Option Req :=
  match a with
  | .w (.one .nils) => match s.bs s.nx with
    | .none => some (.side (p ∧ fits G e ys.length) ⟨.one (.ref s.nx ys.length), [(s.nx, .vec e ys false)], s.nx + 1⟩)
    | _ => none
  | .w (.one (.p (.slc xs))) => match s.bs s.nx with
    | .none => some (.side (p ∧ ys ≠ [] ∧ (∀ es ∈ xs, es.length = (G.T e).size) ∧ fits G e (xs.length + ys.length)) ⟨.one (.ref s.nx (xs.length + ys.length)), [(s.nx, .vec e (xs ++ ys) false)], s.nx + 1⟩)
    | _ => none
  | .w (.one (.ref r n)) => match s.bs r with
    | .vec e' xs false => bif Nat.beq e' e then
        some (.side (p ∧ xs.length = n ∧ fits G e (n + ys.length)) ⟨.one (.ref r (n + ys.length)), [(r, .vec e (xs ++ ys) false)], s.nx⟩) else none
    | _ => none
  | _ => none

def intOf : AV → Option Int
  | .w (.one (.p (.v (.int _ i)))) => some i
  | _ => none
def optInt (s : St) (x : Option Operand) (d : Int) : Option Int := match x with | none => some d | some x => intOf (s.ev x)
/-- Builtin functions. -/
def biReq (s : St) (b : Builtin) (args : List AV) (ts : List Nat) : Option Req :=
  match b, args, ts with
  | .append, [a, b], [t, u] => match (G.T t).k, (G.T u).k with
    | .slice e, .slice e' => match rowOf G s e b with
      | some (ys, p) => bif Nat.beq e e' && okT G e && !Nat.beq (sizeT G e) 0 && Nat.beq t u then appendA G s e a ys p else none
      | none => none
    | .slice e, .str => match b with
      | .w (.one (.p (.v (.string ⟨⟨l⟩⟩)))) => match (G.T e).k, (G.T e).zero with
        | .int .u8, .int .u8 0 => match a with
          | .w (.one (.p _)) => none
          | a => bif Nat.beq (sizeT G e) 1 && Nat.beq (G.T e).bytes 1 then appendA G s e a (l.map fun c => [.int .u8 c.toNat]) True else none
        | _, _ => none
      | _ => none
    | _, _ => none
  | .min, [a, b], _ => match a, b with
    | .w (.one (.p (.v (.int k x)))), .w (.one (.p (.v (.int _ y)))) => some (.askN (if y < x then y else x) fun n => ⟨.val (.int k n), [], s.nx⟩)
    | _, _ => none
  | .max, [a, b], _ => match a, b with
    | .w (.one (.p (.v (.int k x)))), .w (.one (.p (.v (.int _ y)))) => some (.askN (if y > x then y else x) fun n => ⟨.val (.int k n), [], s.nx⟩)
    | _, _ => none
  | .unsafeSliceData, [a], _ => match a with
    | .w (.one (.ref r n)) => match s.bs r with
      | .vec _ xs false => some (.side (xs.length = n ∧ xs ≠ []) ⟨.one (.vptr r n 0 0), [], s.nx⟩)
      | _ => none
    | _ => none
  | _, _, _ => none
/-- Operations that ask for something. -/
def evReq (s : St) (o : Op) : Option Req :=
  match o with
  | .buildSlice t n parts => match (G.T t).k with
    | .slice e => match s.bs s.nx with
      | .none => match zeroEs G e with
        | some z => bif okT G e && !Nat.beq (sizeT G e) 0 && Nat.beq z.length (sizeT G e) && Nat.ble (n * sizeT G e) 16777216 then
            (sliceParts s (sizeT G e) (List.replicate n z) parts.toList).map fun xs => .eff ⟨.one (.ref s.nx n), [(s.nx, .vec e xs false)], s.nx + 1⟩ else none
        | none => none
      | _ => none
    | _ => none
  | .slice t x lo hi mx => match optInt s lo 0 with
    | none => none
    | some l => match (G.T t).k with
      | .str => match mx, s.ev x with
        | none, .w (.one (.p (.v (.string ⟨⟨xs⟩⟩)))) => match optInt s hi xs.length with
          | some h => some (.side (0 ≤ l ∧ l ≤ h ∧ h ≤ xs.length) ⟨.str ((xs.take h.toNat).drop l.toNat), [], s.nx⟩)
          | none => none
        | _, _ => none
      | .slice e => bif !okT G e then none else match rowP (s.ev x) with
        | some xs => match optInt s hi xs.length with
          | some h => match mx with
            | none => some (.side (0 ≤ l ∧ l ≤ h ∧ h ≤ xs.length ∧ ∀ es ∈ xs, es.length = (G.T e).size) ⟨.sl ((xs.take h.toNat).drop l.toNat), [], s.nx⟩)
            | some m => match intOf (s.ev m) with
              | some m => bif hi.isNone then none else some (.side (0 ≤ l ∧ l ≤ h ∧ h ≤ xs.length ∧ m = h ∧ ∀ es ∈ xs, es.length = (G.T e).size) ⟨.one (.p (.slc ((xs.take h.toNat).drop l.toNat))), [], s.nx⟩)
              | none => none
          | none => none
        | none => none
      | _ => none
  | .index t x i => match (G.T t).k, s.ev x, intOf (s.ev i) with
    | .str, .w (.one (.p (.v (.string ⟨⟨xs⟩⟩)))), some i => some (.side (0 ≤ i ∧ i < xs.length) ⟨.val (.int .u8 (xs.getD i.toNat 0).toNat), [], s.nx⟩)
    | .arr n e, .w (.agg cs), some i => match mkW G e (cs.drop (i.toNat * sizeT G e)) with
      | some v => some (.side (0 ≤ i ∧ i < n) ⟨.w v, [], s.nx⟩)
      | none => none
    | _, _, _ => none
  | .indexAddr t x i => match (G.T t).k, s.ev x, intOf (s.ev i) with
    | .slice e, .w (.one (.p (.sl xs))), some i => bif okT G e then some (.idx True xs i (sizeT G e) fun es => some ⟨.one (.pv (es.map .v) 0), [], s.nx⟩) else none
    | .slice e, .w (.one (.p (.slc xs))), some i => bif okT G e then some (.idx True xs i (sizeT G e) fun es => some ⟨.one (.pv (es.map .v) 0), [], s.nx⟩) else none
    | .slice e, .w (.one (.ref r n)), some i => match s.bs r with
      | .vec e' xs _ => bif okT G e && Nat.beq e e' then some (.side (xs.length = n ∧ 0 ≤ i ∧ i < n) ⟨.one (.vptr r n i.toNat 0), [], s.nx⟩) else none
      | _ => none
    | _, _, _ => none
  | .convert src dst x => match (G.T src).k, (G.T dst).k, s.ev x with
    | .int _, .int k, .w (.one (.p (.v (.int _ n)))) => some (.askN (k.wrap n) fun n => ⟨.val (.int k n), [], s.nx⟩)
    | .str, .slice e, .w (.one (.p (.v (.string ⟨⟨l⟩⟩)))) => match (G.T e).k with
      | .int .u8 => some (.side (l.length ≤ 140737488355328) ⟨.sl (byteRow l), [], s.nx⟩)
      | _ => none
    | .slice e, .str, x => match (G.T e).k with
      | .int .u8 => bif Nat.beq (sizeT G e) 1 then (rowOf G s e x).map fun q => .bytes q.2 q.1 fun l => ⟨.str l, [], s.nx⟩ else none
      | _ => none
    | _, _, _ => none
  | .load t a => match s.ev a with
    | .w (.one (.vptr r n i o)) => match s.bs r with
      | .vec e xs _ => some (.idx (xs.length = n) xs i (sizeT G e) fun es => (mkW G t ((es.map fun v => Cell.p (.v v)).drop o)).map fun x => ⟨.w x, [], s.nx⟩)
      | _ => none
    | a => (loadA G s a t).map fun v => .eff ⟨.w v, [], s.nx⟩
  | .fieldAddr t x f => match s.ev x with
    | .w (.one (.vptr r n i o)) => match s.bs r, (G.T t).k with
      | .vec _ xs _, .struct fs => match fs[f]? with
        | some (off, sz, _) => bif Nat.beq sz 0 then none else some (.side (xs.length = n) ⟨.one (.vptr r n i (o + off)), [], s.nx⟩)
        | none => none
      | _, _ => none
    | a => match (G.T t).k with
      | .struct fs => (faA (alive s) fs[f]? a).map fun v => .eff ⟨v, [], s.nx⟩
      | _ => none
  | op => (evPure G s op).map fun v => .eff ⟨v, [], s.nx⟩

/-- What is handed to a function: cells that carry all that they say; a row of one's own is read as it stands. -/
def argK (s : St) (c : Cell) (K : Cell → List Nat → Prop) : Prop :=
  match c with
  | .p (.slc xs) => K (.p (.sl xs)) []
  | .p x => K (.p x) []
  | .nils => K (.p (.sl [])) []
  | .ref r n => match s.bs r with
    | .vec _ xs _ => xs.length = n ∧ K (.p (.sl xs)) [r]
    | _ => False
  | .pv cs o => K (.pv cs o) []
  | .fn f a b => K (.fn f a b) []
  | _ => False
def argCsK (s : St) : List Cell → (List Cell → List Nat → Prop) → Prop
  | [], K => K [] []
  | c :: cs, K => argK s c fun c' r => argCsK s cs fun cs' rs => K (c' :: cs') (r ++ rs)
def argAK (s : St) (a : AV) (K : AV → List Nat → Prop) : Prop :=
  match a with
  | .w (.one c) => argK s c fun c' r => K (.one c') r
  | .w (.agg cs) => argCsK s cs fun cs' rs => K (.w (.agg cs')) rs
  | .tup _ => False
def argsK (s : St) : List AV → (List AV → List Nat → Prop) → Prop
  | [], K => K [] []
  | a :: l, K => argAK s a fun a' r => argsK s l fun l' rs => K (a' :: l') (r ++ rs)

def capAV : Cap → AV
  | .c x => .one (.p x)
  | .pv cs => .one (.pv cs 0)
  | .ag cs => .w (.agg (cs.map .p))

/-- A variable's cells, when they are fixed. -/
def pcOf : Cell → Option PC
  | .p x => some x
  | .nils => some (.sl [])
  | .fn f [] [] => some (.v (.func (.func f) #[] #[]))
  | _ => none
def pcsOf : List Cell → Option (List PC)
  | [] => some []
  | c :: l => match pcOf c, pcsOf l with | some x, some m => some (x :: m) | _, _ => none
/-- Blocks that are fixed from here on: rows, and captured variables. -/
def fixB (s : St) (r : Nat) : Blk :=
  match s.bs r with
  | .vec e xs _ => .vec e xs true
  | .vars cs => match pcsOf cs with | some ps => .imm ps | none => .vars cs
  | b => b
/-- The variables that a function value captures, and which of them. -/
def capsL (s : St) : List AV → Option (List Cap × List Nat)
  | [] => some ([], [])
  | .w (.one (.ptr r 0)) :: l => match s.bs r with
    | .imm cs => (capsL s l).map fun q => (.pv cs :: q.1, q.2)
    | .vars cs => match pcsOf cs with
      | some ps => (capsL s l).map fun q => (.pv ps :: q.1, r :: q.2)
      | none => none
    | _ => none
  | _ => none
/-- What a method value is bound to. -/
def preOf : List AV → Option (List Cap)
  | [] => some []
  | .w (.one (.p x)) :: l => (preOf l).map (.c x :: ·)
  | .w (.agg cs) :: l => match pcsOf cs, preOf l with | some ps, some m => some (.ag ps :: m) | _, _ => none
  | _ => none

/-- The variables that a function value shares. -/
def capsR (s : St) : List AV → Option (List CapR)
  | [] => some []
  | .w (.one (.ptr r o)) :: l => match s.bs r with
    | .vars _ => (capsR s l).map (.ref r o :: ·)
    | .imm cs => match o with | 0 => (capsR s l).map (.fix (.pv cs) :: ·) | _ => none
    | _ => none
  | .w (.one (.pv cs 0)) :: l => (capsR s l).map (.fix (.pv cs) :: ·)
  | .w (.one (.p (.v x))) :: l => (capsR s l).map (.fix (.c (.v x)) :: ·)
  | _ => none
def capRA : CapR → AV
  | .ref r o => .one (.ptr r o)
  | .fix c => capAV c

/-- Has a value no slices? -/
def noSlC : Cell → Bool
  | .p (.v _) => true
  | _ => false
def noSlW : W1 → Bool
  | .one c => noSlC c
  | .agg cs => cs.all noSlC
def noSlA : AV → Bool
  | .w x => noSlW x
  | .tup l => l.all noSlW

/-! ### Calls that are handed rows of one's own -/
/-- Such rows are handed on as they are, under new numbers; all else is fixed. -/
def argsO (s : St) : List AV → Nat → (List AV → List Nat → List Nat → Prop) → Prop
  | [], _, K => K [] [] []
  | a :: l, j, K => match a with
    | .w (.one (.ref r n)) => argsO s l (j + 1) fun ar fs os => K (.one (.ref j n) :: ar) fs (r :: os)
    | a => argAK s a fun a' r => argsO s l j fun ar fs os => K (a' :: ar) (r ++ fs) os
def mapR (os : List Nat) (nx j : Nat) : Nat := match os[j]? with | some r => r | none => nx + (j - os.length)
def mapC (os : List Nat) (nx : Nat) : Cell → Cell
  | .ref q n => .ref (mapR os nx q) n
  | c => c
def mapW (os : List Nat) (nx : Nat) : W1 → W1
  | .one c => .one (mapC os nx c)
  | .agg cs => .agg (cs.map (mapC os nx))
def mapA (os : List Nat) (nx : Nat) : AV → AV
  | .w x => .w (mapW os nx x)
  | .tup l => .tup (l.map (mapW os nx))
def memB : Nat → List Nat → Bool
  | _, [] => false
  | n, m :: l => Nat.beq n m || memB n l
def distinctB : List Nat → Bool
  | [] => true
  | n :: l => !memB n l && distinctB l
def ownVec (s : St) (r : Nat) : Bool := match s.bs r with | .vec _ _ false => true | _ => false
def ownOK (s : St) (fs os : List Nat) : Bool := (os.all fun r => ownVec s r && Nat.ble s.lo r && !memB r fs) && distinctB os && fs.all fun r => Nat.ble s.lo r
def resC : Cell → Bool
  | .p _ | .nils | .ref _ _ | .junk => true
  | _ => false
def resW : W1 → Bool
  | .one c => resC c
  | .agg cs => cs.all resC
def resA : AV → Bool
  | .w x => resW x
  | .tup l => l.all resW
def blkV : Blk → Bool
  | .vec _ _ _ | .dead => true
  | _ => false
def freeB (s : St) (r : Nat) : Bool := match s.bs r with | .none => true | _ => false
def ownRes (dr : Bool) (s : St) (k : Nat) (r : AV) (bs' : List Blk) : Bool :=
  Nat.ble k bs'.length && Nat.ble (bs'.length - k) (bif dr then 1 else 2) && freeB s s.nx && (dr || freeB s (s.nx + 1)) && resA r && bs'.all blkV
def ownEff (s : St) (fs os : List Nat) (r : AV) (bs' : List Blk) : Eff :=
  ⟨mapA os s.nx r, (fs.map fun r => (r, fixB s r)) ++ (List.range bs'.length).map (fun j => (mapR os s.nx j, bs'.getD j .none)), s.nx + (bs'.length - os.length)⟩

/-- Plain values of the kinds of those. -/
def shapeV : Value → Value → Bool
  | .int k _, .int k' _ => decide (k = k')
  | .string _, .string _ => true
  | .bool _, .bool _ => true
  | _, _ => false
def shapeVs : List Value → List Value → Bool
  | [], [] => true
  | x :: xs, y :: ys => shapeV x y && shapeVs xs ys
  | _, _ => false
/-- '==' of structs of simple fields. -/
def eqReq (t : Nat) (cs ds : List Cell) : Option Bool :=
  match valsOf cs, valsOf ds with
  | some xs, some ys => bif okT G t && (G.T t).eq && shapeVs (G.T t).zero.cells.toList xs && shapeVs (G.T t).zero.cells.toList ys then eqVs xs ys else none
  | _, _ => none
def ownCall (g : Operand) : Bool := match g with | .func f => G.own f | _ => false
def isPtrA : AV → Bool
  | .w (.one (.ptr _ _)) => true
  | .w (.one (.vptr _ _ _ _)) => true
  | _ => false
def anyPtr : List AV → Bool
  | [] => false
  | x :: l => isPtrA x || anyPtr l
/-- Calls that are walked into: by name, and those that are handed a place. -/
def inlCall (g : Operand) (l : List AV) : Bool := (match g with | .func f => G.inl f | _ => false) || anyPtr l

/-- An operation: what has to hold, so that it runs well and goes on with its effect. -/
def vb (tv : Bool) (t : Nat) (cs : List Cell) : Blk := bif tv then .tvars t cs else .vars cs
def wpOp (C : CallRel) (J : Inl) (dr : Bool) (o : Oper) (s : St) (P : Value → Prop) (K : Eff → Prop) : Prop :=
  match o.op with
  | .pick c a b => match s.ev c with
    | .w (.one (.p (.v (.bool t)))) => K ⟨bif t then s.ev a else s.ev b, [], s.nx⟩
    | _ => False
  | .alloc t => match s.bs s.nx with
    | .none => bif okT G t then K ⟨.one (.ptr s.nx 0), [(s.nx, vb (G.tv t) t (zeroCs G t))], s.nx + 1⟩ else False
    | _ => False
  | .box _ x => match s.bs s.nx with
    | .none => bif okBox (s.ev x) then K ⟨.one (.ptr s.nx 0), [(s.nx, .vars (cellsA (s.ev x)))], s.nx + 1⟩ else False
    | _ => False
  | .store t a x => match s.ev a with
    | .w (.one (.ptr r off)) => match s.bs r with
      | .vars cs => bif okT G t && okBox (s.ev x) && Nat.beq (cellsA (s.ev x)).length (sizeT G t) && Nat.ble (off + sizeT G t) cs.length then
          K ⟨.junk, [(r, .vars (setAt cs off (cellsA (s.ev x))))], s.nx⟩ else False
      | _ => False
    | .w (.one (.vptr r n i off)) => match s.bs r, valsOf (cellsA (s.ev x)) with
      | .vec e xs false, some vs => bif okT G t && okBox (s.ev x) && Nat.beq vs.length (sizeT G t) && Nat.ble (off + sizeT G t) (sizeT G e) then
          wpSide (xs.length = n) (wpIdx xs i (sizeT G e) fun es => K ⟨.junk, [(r, .vec e (setNth xs i (setAt es off vs)) false)], s.nx⟩) else False
      | _, _ => False
    | _ => False
  | .binOp op t x y _ => match s.ev x, s.ev y with
    | .w (.one (.p (.v (.int k a)))), .w (.one (.p (.v (.int k' b)))) => match arC op k k' a b with
      | some (p, n) => wpSide p (wpN n fun n => K ⟨.val (.int k n), [], s.nx⟩)
      | none => if k = k' then match cmpI op a b with
          | some e => wpB e fun b => K ⟨.bool b, [], s.nx⟩
          | none => match arI op k a b with
            | some n => wpN n fun n => K ⟨.val (.int k n), [], s.nx⟩
            | none => False
        else False
    | .w (.one (.p (.v (.string ⟨⟨a⟩⟩)))), .w (.one (.p (.v (.string ⟨⟨b⟩⟩)))) => match cmpS op a b with
      | some e => wpB e fun b => K ⟨.bool b, [], s.nx⟩
      | none => match op with
        | .add => wpSide (a.length + b.length ≤ 9223372036854775807) (K ⟨.str (a ++ b), [], s.nx⟩)
        | _ => False
    | .w (.one (.p (.v (.bool a)))), .w (.one (.p (.v (.bool b)))) => match (G.T t).k with
      | .bool => match op with
        | .eql => wpB (a == b) fun b => K ⟨.bool b, [], s.nx⟩
        | .neq => wpB (!(a == b)) fun b => K ⟨.bool b, [], s.nx⟩
        | _ => False
      | _ => False
    | .w (.agg cs), .w (.agg ds) => match eqReq G t cs ds with
      | some e => match op with
        | .eql => wpB e fun b => K ⟨.bool b, [], s.nx⟩
        | .neq => wpB (!e) fun b => K ⟨.bool b, [], s.nx⟩
        | _ => False
      | none => False
    | _, _ => False
  | .call c => match c.callee with
    | .builtin .len => match c.args.toList, c.argTypes.toList with
      | [x], [t] => match (G.T t).k, s.ev x with
        | .str, .w (.one (.p (.v (.string ⟨⟨l⟩⟩)))) => K ⟨.int l.length, [], s.nx⟩
        | .slice _, .w (.one (.p (.sl l))) => wpLen dr l.length (K ⟨.int l.length, [], s.nx⟩)
        | .slice _, .w (.one (.p (.slc l))) => wpLen dr l.length (K ⟨.int l.length, [], s.nx⟩)
        | .slice _, .w (.one .nils) => K ⟨.int 0, [], s.nx⟩
        | .slice _, .w (.one (.ref r n)) => match s.bs r with
          | .vec _ xs _ => wpSide (xs.length = n) (wpLen dr n (K ⟨.int n, [], s.nx⟩))
          | _ => False
        | _, _ => False
      | _, _ => False
    | .builtin b => match biReq G s b (c.args.toList.map s.ev) c.argTypes.toList with
      | some r => r.wp K
      | none => False
    | .value g => match s.ev g with
      | .w (.one (.fnr f pre caps)) => bsel dr False (wpInl J f (pre.map capRA ++ c.args.toList.map s.ev ++ caps.map capRA) s (fun r s' => K ⟨r, blkList s', s'.nx⟩) P)
      | .w (.one (.fn f pre caps)) => bsel (inlCall G g (c.args.toList.map s.ev)) (bsel dr False (wpInl J f (pre.map capAV ++ c.args.toList.map s.ev ++ caps.map capAV) s (fun r s' => K ⟨r, blkList s', s'.nx⟩) P)) <| bsel (ownCall G g)
        (argsO s (c.args.toList.map s.ev) 0 fun ar fs os => bsel (ownOK s fs os) (wpCallO C f (pre.map capAV ++ ar ++ caps.map capAV) (os.map s.bs)
          (fun r bs' => bsel (ownRes dr s os.length r bs') (K (ownEff s fs os r bs')) False) P) False)
        <| argsK s (c.args.toList.map s.ev) fun ar rs =>
        wpCall C f (pre.map capAV ++ ar ++ caps.map capAV)
          (fun r => bsel (noSlA r) (K ⟨r, [], s.nx⟩) (bsel (rs.all fun r => Nat.ble s.lo r) (K ⟨r, rs.map fun r => (r, fixB s r), s.nx⟩) False)) P
      | _ => False
    | _ => False
  | .panic x => match s.ev x with
    | .w (.one (.p (.v (.iface t v)))) => P (.iface t v)
    | _ => False
  | .makeFunc (.func f) first caps => bsel (G.shared f) (match capsR s (first.toList.map s.ev), capsR s (caps.toList.map s.ev) with
    | some p, some m => K ⟨.one (.fnr f p m), [], s.nx⟩
    | _, _ => False) <| match preOf (first.toList.map s.ev) with
    | some pre => match capsL s (caps.toList.map s.ev) with
      | some (m, rs) => bsel (rs.all fun r => Nat.ble s.lo r) (K ⟨.one (.fn f pre m), rs.map fun r => (r, fixB s r), s.nx⟩) False
      | none => False
    | none => False
  | op => match evReq G s op with | some r => r.wp K | none => False

/-- Cells that are one each. -/
def oneL (ys : List (List Value)) : Prop := ∀ es ∈ ys, ∀ u ∈ es, u.oneCell' = true
/-! ### Operations that are walked in their order alone: maps, opened rows -/
structure wpNil (e : Bool) (K : Bool → Prop) : Prop where
  h : ∀ b, (b = true → e = true) → K b
structure wpAll (K : Int → Prop) : Prop where
  h : ∀ n, K n
structure wpOpen (sz n : Nat) (K : List (List Value) → Prop) : Prop where
  h : ∀ sp : List (List Value), (∀ es ∈ sp, es.length = sz) → n + sp.length ≤ 9223372036854775807 → K sp
/-- One way, or the other. -/
structure wpAlt (X Y : Prop) : Prop where
  h : X ∨ Y
inductive XReq where
  | req (r : Req)
  | ask (b : Bool) (f : Bool → XReq)
  | side (p : Prop) (r : XReq)
  | allN (f : Int → XReq)
  | nilq (e : Bool) (f : Bool → XReq)
  | opn (sz n : Nat) (f : List (List Value) → XReq)
  | alt (a b : XReq)
def XReq.wp : XReq → (Eff → Prop) → Prop
  | .req r, K => r.wp K
  | .ask b f, K => wpB b fun b => (f b).wp K
  | .side p r, K => wpSide p (r.wp K)
  | .allN f, K => wpAll fun n => (f n).wp K
  | .nilq e f, K => wpNil e fun b => (f b).wp K
  | .opn sz n f, K => wpOpen sz n fun sp => (f sp).wp K
  | .alt a b, K => wpAlt (a.wp K) (b.wp K)
@[reducible] def XReq.eff (e : Eff) : XReq := .req (.eff e)

/-- A map's keys, by kind. -/
def keyK : Nat → Value → Bool
  | 0, .int .i64 _ => true
  | 1, .string _ => true
  | 2, .bool _ => true
  | _, _ => false
def keq : Value → Value → Bool
  | .int _ a, .int _ b => decide (a = b)
  | .string ⟨⟨a⟩⟩, .string ⟨⟨b⟩⟩ => decide (a = b)
  | .bool a, .bool b => a == b
  | _, _ => false
/-- An element of a map of numbers, or truths. -/
def encM (isB : Bool) (n : Int) : Value := bif isB then .bool (decide (n ≠ 0)) else .int .i64 n
def decM (isB : Bool) : AV → Option Int
  | .w (.one (.p (.v (.int .i64 n)))) => bif isB then none else some n
  | .w (.one (.p (.v (.bool b)))) => bif isB then some (bif b then 1 else 0) else none
  | _ => none
def mget : List (Value × Int) → Value → Int
  | [], _ => 0
  | (k', n) :: m, k => bif keq k k' then n else mget m k
def mhas : List (Value × Int) → Value → Bool
  | [], _ => false
  | (k', _) :: m, k => keq k k' || mhas m k
def mset : List (Value × Int) → Value → Int → List (Value × Int)
  | [], k, n => [(k, n)]
  | (k', n') :: m, k, n => bif keq k k' then (k', n) :: m else (k', n') :: mset m k n
def mdel : List (Value × Int) → Value → List (Value × Int)
  | [], _ => []
  | (k', n') :: m, k => bif keq k k' then m else (k', n') :: mdel m k
/-- One that is asked for and written. -/
def ment (m : List (Value × Int)) (k : Value) : List (Value × Int) := bif mhas m k then m else m ++ [(k, 0)]
def kindK (t : Nat) : Option Nat := match (G.T t).k with | .int .i64 => some 0 | .str => some 1 | .bool => some 2 | _ => none
def keyOf (kk : Nat) : AV → Option Value
  | .w (.one (.p (.v k))) => bif keyK kk k then some k else none
  | _ => none
def lookB' (k : Value) (d : XReq) (f : Cell → XReq) : List (Value × Cell) → XReq
  | [] => d
  | (k', c) :: es => .ask (keq k k') fun b => bif b then f c else lookB' k d f es

/-- A part of an opened row: block, kind, place, length, all of it. -/
def winOf (s : St) : AV → Option (Nat × Nat × Nat × Nat × Nat × List (List Value))
  | .w (.one (.win r lo n)) => match s.bs r with | .buf e n0 ys => some (r, e, n0, lo, n, ys) | _ => none
  | .w (.one (.ref r n)) => match s.bs r with | .buf e n0 ys => some (r, e, n0, 0, n, ys) | _ => none
  | _ => none
/-- Opened rows under their old names: the length has to be the one that they had. -/
def winE (s : St) : AV → List (Nat × Nat)
  | .w (.one (.ref r n)) => match s.bs r with | .buf _ n0 _ => [(n, n0)] | _ => []
  | _ => []
def winL (s : St) (o : Op) : List (Nat × Nat) :=
  match o with
  | .slice _ x _ _ _ => winE s (s.ev x)
  | .call c => c.args.toList.flatMap fun x => winE s (s.ev x)
  | _ => []
def eqL : List (Nat × Nat) → Prop
  | [] => True
  | (a, b) :: l => a = b ∧ eqL l
def rowX (s : St) (e : Nat) (a : AV) : Option (List (List Value) × Prop) :=
  match winOf s a with
  | some (_, e', _, lo, n, ys) => bif Nat.beq e e' then some ((ys.drop lo).take n, lo + n ≤ ys.length) else none
  | none => rowOf G s e a
def mxOK (m : Option Int) (h : Int) (c : Nat) : Prop := match m with | none => h ≤ c | some m => h ≤ m ∧ m ≤ c
def sliceX (s : St) (bl : List (Nat × Blk)) (r lo n : Nat) (ys : List (List Value)) (l h : Int) (m : Option Int) : XReq :=
  .side (lo + n ≤ ys.length ∧ 0 ≤ l ∧ l ≤ h ∧ mxOK m h (ys.length - lo))
    (.eff ⟨match m with | none => .one (.win r (lo + l.toNat) (h - l).toNat) | some _ => .junk, bl, s.nx⟩)
/-- A part of a row that is fixed. -/
def fixX (s : St) (bl : List (Nat × Blk)) (xs : List (List Value)) (l h : Int) : XReq :=
  .side (0 ≤ l ∧ l ≤ h ∧ h ≤ xs.length) (.eff ⟨.sl ((xs.take h.toNat).drop l.toNat), bl, s.nx⟩)
def notJunk (c : Cell) : Bool := match c with | .junk => false | _ => true
def isNone (s : St) (r : Nat) : Bool := match s.bs r with | .none => true | _ => false
def optI (s : St) (x : Option Operand) : Option (Option Int) := match x with | none => some none | some x => (intOf (s.ev x)).map some
def appendX (s : St) (e : Nat) (r n0 n : Nat) (ys zs : List (List Value)) (p : Prop) : XReq :=
  .side (p ∧ n ≤ ys.length ∧ oneL zs) <| .ask (decide (n + zs.length ≤ ys.length)) fun b => bif b
    then .eff ⟨.one (.win r 0 (n + zs.length)), [(r, .buf e n0 (ys.take n ++ zs ++ ys.drop (n + zs.length)))], s.nx⟩
    else .side (fits G e (n + zs.length) ∧ oneL (ys.take n)) (.eff ⟨.one (.ref s.nx (n + zs.length)), [(s.nx, .vec e (ys.take n ++ zs) false)], s.nx + 1⟩)
def zOK (isB : Bool) (z : Value) : Bool := match isB, z with | true, .bool false => true | false, .int .i64 0 => true | _, _ => false
def evX (s : St) (o : Op) : Option XReq :=
  match o with
  | .binOp op t x y _ => match (G.T t).k, s.ev y with
    | .slice _, .w (.one .nils) => match op with
      | .eql => match s.ev x with
        | .w (.one .nils) => some (.eff ⟨.bool true, [], s.nx⟩)
        | .w (.one (.p (.sl xs))) => some (.nilq xs.isEmpty fun b => .eff ⟨.bool b, [], s.nx⟩)
        | _ => none
      | .neq => match s.ev x with
        | .w (.one .nils) => some (.eff ⟨.bool false, [], s.nx⟩)
        | .w (.one (.p (.sl xs))) => some (.nilq xs.isEmpty fun b => .eff ⟨.bool !b, [], s.nx⟩)
        | _ => none
      | _ => none
    | _, _ => none
  | .makeMap t none => match (G.T t).k with
    | .map k e => match kindK G k, (G.T e).k with
      | some kk, .int .i64 => bif isNone s s.nx then some (.eff ⟨.one (.mp s.nx), [(s.nx, .mapi kk false [] none)], s.nx + 1⟩) else none
      | some kk, .bool => bif isNone s s.nx then some (.eff ⟨.one (.mp s.nx), [(s.nx, .mapi kk true [] none)], s.nx + 1⟩) else none
      | some kk, .func => bif isNone s s.nx then some (.eff ⟨.one (.mp s.nx), [(s.nx, .mapb kk [])], s.nx + 1⟩) else none
      | _, _ => none
    | _ => none
  | .lookup t x i ok => match (G.T t).k, s.ev x with
    | .map kt e, .w (.one (.mp r)) => match s.bs r with
      | .mapi kk isB m _ => match keyOf kk (s.ev i), kindK G kt, (G.T e).zero with
        | some k, some kk', z => bif Nat.beq kk kk' && okT G e && zOK isB z then
            some (.eff ⟨bif ok then .tup [.one (.p (.v (encM isB (mget m k)))), .one (.p (.v (.bool (mhas m k))))] else .one (.p (.v (encM isB (mget m k)))), [], s.nx⟩) else none
        | _, _, _ => none
      | .mapb kk es => match keyOf kk (s.ev i), kindK G kt, ok with
        | some k, some kk', false => bif Nat.beq kk kk' && okT G e then some (lookB' k (.eff ⟨.junk, [], s.nx⟩) (fun c => .eff ⟨.one c, [], s.nx⟩) es) else none
        | _, _, _ => none
      | _ => none
    | _, _ => none
  | .mapUpdate t x i v | .insert t x i v => match (G.T t).k, s.ev x with
    | .map kt _, .w (.one (.mp r)) => match s.bs r with
      | .mapi kk isB m _ => match keyOf kk (s.ev i), kindK G kt, decM isB (s.ev v) with
        | some k, some kk', some n => bif Nat.beq kk kk' then some (.eff ⟨.junk, [(r, .mapi kk isB (mset m k n) none)], s.nx⟩) else none
        | _, _, _ => none
      | .mapb kk es => match keyOf kk (s.ev i), kindK G kt, s.ev v with
        | some k, some kk', .w (.one c) => bif Nat.beq kk kk' && notJunk c && es.all fun p => !keq k p.1 then some (.eff ⟨.junk, [(r, .mapb kk (es ++ [(k, c)]))], s.nx⟩) else none
        | _, _, _ => none
      | _ => none
    | _, _ => none
  | .mapEntry t x i => match (G.T t).k, s.ev x with
    | .map kt e, .w (.one (.mp r)) => match s.bs r with
      | .mapi kk isB m _ => match keyOf kk (s.ev i), kindK G kt, (G.T e).zero with
        | some k, some kk', z => bif Nat.beq kk kk' && okT G e && zOK isB z then
            some (.allN fun b => .eff ⟨.tup [.one (.p (.v (encM isB (mget m k)))), .one (.p (.v (.int .i64 b)))], [(r, .mapi kk isB (ment m k) (some (k, b)))], s.nx⟩) else none
        | _, _, _ => none
      | _ => none
    | _, _ => none
  | .entryStore _ x st v => match s.ev x, s.ev st with
    | .w (.one (.mp r)), .w (.one (.p (.v (.int .i64 b')))) => match s.bs r with
      | .mapi kk isB m (some (k, b)) => match decM isB (s.ev v) with
        | some n => some (.side (b' = b) (.eff ⟨.junk, [(r, .mapi kk isB (mset m k n) none)], s.nx⟩))
        | none => none
      | _ => none
    | _, _ => none
  | .makeChan t x => match (G.T t).k, intOf (s.ev x) with
    | .chan e, some n => bif isNone s s.nx then some (.side (okT G e = true ∧ 0 ≤ n ∧ n * (G.T e).bytes ≤ 281474976710544 ∧ n ≤ 9223372036854775807) (.eff ⟨.one (.ch s.nx), [(s.nx, .chan n.toNat [] false)], s.nx + 1⟩)) else none
    | _, _ => none
  | .range t x => match (G.T t).k, s.ev x with
    | .str, .w (.one (.p (.v (.string ⟨⟨l⟩⟩)))) => bif isNone s s.nx then some (.eff ⟨.one (.ptr s.nx 0), [(s.nx, .iter l 0)], s.nx + 1⟩) else none
    | _, _ => none
  | .next x true => match s.ev x with
    | .w (.one (.ptr r 0)) => match s.bs r with
      | .iter l p => some (.ask (decide (p < l.length)) fun b => bif b
          then .side ((l.getD p 0).toNat < 128) (.eff ⟨.tup [.one (.p (.v (.bool true))), .one (.p (.v (.int .i64 p))), .one (.p (.v (.int .i32 (l.getD p 0).toNat)))], [(r, .iter l (p + 1))], s.nx⟩)
          else .eff ⟨.tup [.one (.p (.v (.bool false)))], [], s.nx⟩)
      | _ => none
    | _ => none
  | .buildSlice t n parts => match (G.T t).k with
    | .slice e => match (G.T e).k with
      | .slice _ => bif isNone s s.nx && (parts.toList.all fun p => okBox (s.ev p.2)) && Nat.ble n 4096 && Nat.beq (sizeT G e) 1 && okT G e then
          (fill (fun i => some (i * 1, 1)) (List.replicate n (zeroCs G e)).flatten (parts.toList.map fun p => (p.1, cellsA (s.ev p.2)))).map fun cs => .eff ⟨.one (.rows s.nx n), [(s.nx, .vars cs)], s.nx + 1⟩ else none
      | _ => none
    | _ => none
  | .indexAddr t x i => match (G.T t).k, s.ev x, intOf (s.ev i) with
    | .slice e, .w (.one (.rows r n)), some i => match s.bs r with
      | .vars _ => bif okT G e && Nat.beq (sizeT G e) 1 then some (.side (0 ≤ i ∧ i < n) (.eff ⟨.one (.ptr r i.toNat), [], s.nx⟩)) else none
      | _ => none
    | _, _, _ => none
  | .typeAssert x _ a ok => match s.ev x, (G.T a).k with
    | .w (.one (.p (.v (.iface t v)))), k => match k with
      | .iface => none
      | .other => none
      | _ => bif Nat.beq t a then some (.eff ⟨bif ok then .tup [w1Of v, .one (.p (.v (.bool true)))] else .w (w1Of v), [], s.nx⟩)
        else bif ok then some (.eff ⟨.tup [w1Of (G.T a).zero, .one (.p (.v (.bool false)))], [], s.nx⟩) else none
    | _, _ => none
  | .slice t x lo hi mx => match (G.T t).k with
    | .slice e => match optI s lo, optI s hi, optI s mx with
      | some l, some h, some m => match winOf s (s.ev x) with
        | some (r, e', _, lo0, n, ys) => bif okT G e && Nat.beq e e' && (m.isNone || h.isSome) then some (sliceX s [] r lo0 n ys (l.getD 0) (h.getD n) m) else none
        | none => match s.ev x with
          | .w (.one (.ref r n)) => match s.bs r with
            | .vec e' xs false => bif okT G e && Nat.beq e e' && (m.isNone || h.isSome) then
                some (.side (xs.length = n) <| .alt (.opn (sizeT G e) n fun sp => sliceX s [(r, .buf e n (xs ++ sp))] r 0 n (xs ++ sp) (l.getD 0) (h.getD n) m)
                  (bif m.isNone && Nat.ble s.lo r then .alt (fixX s [(r, .vec e xs true)] xs (l.getD 0) (h.getD n))
                    (bif isNone s s.nx && !Nat.beq r s.nx then .side (l.getD 0 = 0 ∧ 0 ≤ h.getD n ∧ h.getD n ≤ n) (.eff ⟨.one (.ref s.nx (h.getD n).toNat), [(r, .dead), (s.nx, .vec e (xs.take (h.getD n).toNat) false)], s.nx + 1⟩) else .side False (.eff ⟨.junk, [], s.nx⟩))
                  else .side False (.eff ⟨.junk, [], s.nx⟩))) else none
            | .vec e' xs true => bif okT G e && Nat.beq e e' && m.isNone then some (.side (xs.length = n) (fixX s [] xs (l.getD 0) (h.getD n))) else none
            | _ => none
          | .w (.one .nils) => match mx with
            | none => bif okT G e then some (.side (l.getD 0 = 0 ∧ h.getD 0 = 0) (.eff ⟨.one .nils, [], s.nx⟩)) else none
            | _ => none
          | _ => none
      | _, _, _ => none
    | _ => none
  | .call c => match c.callee, c.args.toList.map s.ev, c.argTypes.toList with
    | .builtin .len, [x], [t] => match (G.T t).k, winOf s x, x with
      | .slice _, some (_, _, _, lo, n, ys), _ => some (.side (lo + n ≤ ys.length ∧ n ≤ 140737488355328) (.eff ⟨.int n, [], s.nx⟩))
      | .slice _, none, .w (.one (.rows r n)) => match s.bs r with
        | .vars _ => some (.eff ⟨.int n, [], s.nx⟩)
        | _ => none
      | .map _ _, none, .w (.one (.mp r)) => match s.bs r with
        | .mapi _ _ m _ => some (.eff ⟨.int m.length, [], s.nx⟩)
        | _ => none
      | _, _, _ => none
    | .builtin .cap, [x], [t] => match (G.T t).k, winOf s x with
      | .slice _, some (_, _, _, lo, n, ys) => some (.side (lo + n ≤ ys.length) (.eff ⟨.int (ys.length - lo : Nat), [], s.nx⟩))
      | .slice _, none => match x with
        | .w (.one .nils) => some (.eff ⟨.int 0, [], s.nx⟩)
        | _ => none
      | _, _ => none
    | .builtin .delete, [x, k], [t, _] => match (G.T t).k, x with
      | .map kt _, .w (.one (.mp r)) => match s.bs r with
        | .mapi kk isB m _ => match keyOf kk k, kindK G kt with
          | some k, some kk' => bif Nat.beq kk kk' then some (.eff ⟨.tup [], [(r, .mapi kk isB (mdel m k) none)], s.nx⟩) else none
          | _, _ => none
        | _ => none
      | _, _ => none
    | .builtin .append, [a, b], [t, u] => match (G.T t).k, winOf s a with
      | .slice e, some (r, e', n0, lo, n, ys) => bif okT G e && Nat.beq e e' && isNone s s.nx && Nat.beq lo 0 then match (G.T u).k with
          | .slice e2 => match rowX G s e b with
            | some (zs, p) => bif Nat.beq e e2 && Nat.beq t u then some (appendX G s e r n0 n ys zs p) else none
            | none => none
          | .int .i64 => match intOf b, zeroEs G e with
            | some k, some z => some (.side (0 ≤ k ∧ ys ≠ [] ∧ n ≤ ys.length ∧ ys.length < n + k.toNat ∧ fits G e (n + k.toNat) ∧ oneL (ys.take n)) (.eff ⟨.one (.ref s.nx (n + k.toNat)), [(s.nx, .vec e (ys.take n ++ List.replicate k.toNat z) false)], s.nx + 1⟩))
            | _, _ => none
          | _ => none
        else none
      | .slice e, none => match a, (G.T u).k, intOf b, zeroEs G e with
        | .w (.one .nils), .int .i64, some k, some z => bif okT G e && isNone s s.nx then
            some (.side (0 < k ∧ fits G e k.toNat ∧ 0 < sizeT G e) (.eff ⟨.one (.ref s.nx k.toNat), [(s.nx, .vec e (List.replicate k.toNat z) false)], s.nx + 1⟩)) else none
        | _, _, _, _ => none
      | _, _ => none
    | .builtin .copy, [a, b], [t, u] => match (G.T t).k, (G.T u).k, winOf s a with
      | .slice e, .slice e2, some (r, e', n0, lo, n, ys) => match rowX G s e b with
        | some (zs, p) => bif okT G e && Nat.beq e e' && Nat.beq e e2 then
            some (.side (p ∧ lo + n ≤ ys.length ∧ oneL (zs.take n)) (.eff ⟨.int (min zs.length n : Nat), [(r, .buf e n0 (ys.take lo ++ zs.take n ++ ys.drop (lo + min zs.length n)))], s.nx⟩)) else none
        | none => none
      | _, _, _ => none
    | .builtin .close, [a], _ => match a with
      | .w (.one (.ch r)) => match s.bs r with
        | .chan c b false => some (.eff ⟨.tup [], [(r, .chan c b true)], s.nx⟩)
        | _ => none
      | _ => none
    | .builtin .unsafeString, [a, b], [t, _] => match a, b, (G.T t).k with
      | .w (.one (.vptr r m 0 0)), .w (.one (.p (.v (.int .i64 n)))), .ptr e => match s.bs r, (G.T e).k with
        | .vec e' xs false, .int .u8 => bif Nat.beq e e' && Nat.beq (sizeT G e) 1 then
            some (.req (.bytes (xs.length = m ∧ n = m ∧ xs ≠ []) xs fun l => ⟨.str l, [(r, .dead)], s.nx⟩)) else none
        | _, _ => none
      | _, _, _ => none
    | .builtin .clear, [a], [t] => match (G.T t).k, winOf s a with
      | .slice e, some (r, e', n0, lo, n, ys) => match zeroEs G e with
        | some z => bif okT G e && Nat.beq e e' then
            some (.side (lo + n ≤ ys.length) (.eff ⟨.tup [], [(r, .buf e n0 (ys.take lo ++ List.replicate n z ++ ys.drop (lo + n)))], s.nx⟩)) else none
        | none => none
      | _, _ => none
    | .value (.func f), [a, b], [t, _] => bif Nat.beq (f + 1) (G.T t).ov then match (G.T t).k, a, winOf s b with
      | .slice e, .w (.one (.p (.sl xs))), some (_, e', _, _, _, _) => bif okT G e && Nat.beq e e' then some (.side (∀ es ∈ xs, es.length = sizeT G e) (.eff ⟨.bool false, [], s.nx⟩)) else none
      | _, _, _ => none
      else none
    | _, _, _ => none
  | _ => none
def wpX (C : CallRel) (J : Inl) (dr : Bool) (o : Oper) (s : St) (P : Value → Prop) (K : Eff → Prop) : Prop :=
  match dr with
  | true => wpOp G C J true o s P K
  | false => match evX G s o.op with
    | some r => match winL s o.op with | [] => r.wp K | p :: l => wpSide (eqL (p :: l)) (r.wp K)
    | none => wpOp G C J false o s P K

/-- What a guard has yielded. -/
def yields (s : St) (ops : Array Oper) (j : Nat) : Option (Option Bool) :=
  match ops[j]? with
  | some o => match o.dst with
    | some d => match s.tm d with | .w (.one (.p (.v (.bool b)))) => some (some b) | .tup [] => some none | _ => none
    | none => none
  | none => none

def wpGuard (C : CallRel) (J : Inl) (dr : Bool) (ops : Array Oper) (o : Oper) (s : St) (P : Value → Prop) (K : Eff → Prop) : Prop :=
  match o.guard with
  | none => wpX G C J dr o s P K
  | some (j, want) => match yields s ops j with
    | some (some b) => bsel (b == want) (wpX G C J dr o s P K) (K ⟨.tup [], [], s.nx⟩)
    | some none => K ⟨.tup [], [], s.nx⟩
    | none => False

/-! ### Values are worked out before they are kept -/
def forceN (n : Nat) (k : Nat → Prop) : Prop :=
  go [0, 1, 2, 3, 4, 5, 6, 7, 8, 9, 10, 11, 12, 13, 14, 15, 16, 17, 18, 19, 20, 21, 22, 23, 24, 25, 26, 27, 28, 29, 30, 31, 32, 33, 34, 35, 36, 37, 38, 39, 40]
where go : List Nat → Prop
  | [] => k n
  | i :: l => bsel (Nat.beq n i) (k i) (go l)
def forceNs : List Nat → (List Nat → Prop) → Prop
  | [], k => k []
  | n :: l, k => forceN n fun n => forceNs l fun l => k (n :: l)
def forceV (y : Value) (k : Value → Prop) : Prop :=
  match y with
  | .int t n => k (.int t n)
  | .bool b => k (.bool b)
  | .string b => k (.string b)
  | y => k y
def forceP (x : PC) (k : PC → Prop) : Prop :=
  match x with
  | .v y => forceV y fun y => k (.v y)
  | .sl xs => k (.sl xs)
  | .slc xs => k (.slc xs)
def forcePs : List PC → (List PC → Prop) → Prop
  | [], k => k []
  | c :: l, k => forceP c fun c => forcePs l fun l => k (c :: l)
def forceC (c : Cell) (k : Cell → Prop) : Prop :=
  match c with
  | .p x => forceP x fun x => k (.p x)
  | .nils => k .nils
  | .ref r n => forceN r fun r => k (.ref r n)
  | .ptr r o => forceN r fun r => forceN o fun o => k (.ptr r o)
  | .vptr r n i o => forceN r fun r => forceN o fun o => k (.vptr r n i o)
  | .pv cs o => forcePs cs fun cs => forceN o fun o => k (.pv cs o)
  | .fn f a b => k (.fn f a b)
  | .fnr f a b => k (.fnr f a b)
  | .win r l n => forceN r fun r => k (.win r l n)
  | .mp r => forceN r fun r => k (.mp r)
  | .rows r n => forceN r fun r => k (.rows r n)
  | .ch r => forceN r fun r => k (.ch r)
  | .junk => k .junk
def forceCs : List Cell → (List Cell → Prop) → Prop
  | [], k => k []
  | c :: l, k => forceC c fun c => forceCs l fun l => k (c :: l)
def forceW (x : W1) (k : W1 → Prop) : Prop :=
  match x with
  | .one c => forceC c fun c => k (.one c)
  | .agg cs => forceCs cs fun cs => k (.agg cs)
def forceWs : List W1 → (List W1 → Prop) → Prop
  | [], k => k []
  | c :: l, k => forceW c fun c => forceWs l fun l => k (c :: l)
def forceA (x : AV) (k : AV → Prop) : Prop :=
  match x with
  | .w x => forceW x fun x => k (.w x)
  | .tup l => forceWs l fun l => k (.tup l)
def forceB (x : Blk) (k : Blk → Prop) : Prop :=
  match x with
  | .vars cs => forceCs cs fun cs => k (.vars cs)
  | .imm cs => forcePs cs fun cs => k (.imm cs)
  | .none => k .none
  | .dead => k .dead
  | .vec e xs fz => k (.vec e xs fz)
  | .buf e n ys => k (.buf e n ys)
  | .mapb kk es => k (.mapb kk es)
  | .mapi kk b m st => k (.mapi kk b m st)
  | .iter s p => k (.iter s p)
  | .lock D => k (.lock D)
  | .tvars t cs => forceCs cs fun cs => k (.tvars t cs)
  | .chan c b cl => k (.chan c b cl)
def forceBs : List (Nat × Blk) → (List (Nat × Blk) → Prop) → Prop
  | [], k => k []
  | (r, b) :: l, k => forceN r fun r => forceB b fun b => forceBs l fun l => k ((r, b) :: l)
def forceE (e : Eff) (k : Eff → Prop) : Prop := forceA e.v fun v => forceBs e.bl fun bl => forceN e.nx fun nx => k ⟨v, bl, nx⟩

/-- There is nothing above. -/
def Top (s : St) : Prop := ∀ r, s.nx ≤ r → s.bs r = .none
def effOK (s : St) (e : Eff) : Bool := Nat.ble s.nx e.nx && e.bl.all fun p => Nat.blt p.1 e.nx
/-- Operations one behind the other. -/
def wpOps (C : CallRel) (J : Inl) (ops : Array Oper) (Q : Ex → St → Prop) : List Oper → St → Prop
  | [], s => Q .normal s
  | o :: rest, s => wpGuard G C J false ops o s (fun v => Q (.pan v) s) fun e => forceE e fun e => bsel (effOK s e) (wpOps C J ops Q rest (s.app o.dst e)) False

/-! ### A region whose operations may come in another order -/
def refsP : CapR → List Nat
  | .ref r _ => [r]
  | .fix _ => []
def refsC : Cell → List Nat
  | .ref r _ => [r]
  | .ptr r _ => [r]
  | .vptr r _ _ _ => [r]
  | .mp r => [r]
  | .rows r _ => [r]
  | .ch r => [r]
  | .fnr _ a b => a.flatMap refsP ++ b.flatMap refsP
  | .win r _ _ => [r]
  | _ => []
def refsA : AV → List Nat
  | .w (.one c) => refsC c
  | .w (.agg cs) => cs.flatMap refsC
  | .tup _ => []
/-- The blocks that a call may lay. -/
def callNx (s : St) (c : Call) : List Nat := match c.callee with | .value g => bif ownCall G g then [s.nx] else [] | _ => [s.nx]
/-- The blocks that an operation looks into. -/
def rdB (s : St) (o : Oper) : List Nat :=
  match o.op with
  | .load _ x | .fieldAddr _ x _ | .nilCheck x | .store _ x _ => refsA (s.ev x)
  | .indexAddr _ x _ | .slice _ x _ _ _ | .convert _ _ x | .lookup _ x _ _ | .mapUpdate _ x _ _ | .insert _ x _ _ => refsA (s.ev x)
  | .makeFunc _ f c => (f.toList ++ c.toList).flatMap fun x => refsA (s.ev x)
  | .call c => callNx G s c ++ c.args.toList.flatMap fun x => refsA (s.ev x)
  | .alloc _ | .box _ _ | .makeMap _ _ | .makeSlice _ _ _ => [s.nx]
  | .buildSlice _ _ ps => s.nx :: ps.toList.flatMap fun p => refsA (s.ev p.2)
  | _ => []
def dep (o : Oper) (i : Nat) : Bool := o.after.toList.any fun e => Region.binds .any e && Nat.beq e.on i
def opTmps (x : Operand) : List Nat := match x with | .tmp t => [t] | _ => []
def memN : Nat → List Nat → Bool
  | _, [] => false
  | n, m :: l => Nat.beq n m || memN n l
def disj (l m : List Nat) : Bool := l.all fun x => !memN x m
/-- What an operation reads of the temporaries. -/
def rdT (ops : Array Oper) (o : Oper) : List Nat :=
  o.op.operands.toList.flatMap opTmps ++ (match o.guard with | some (g, _) => (match ops[g]? with | some q => q.dst.toList | none => []) | none => [])
/-- Unordered operations don't meet at a temporary. -/
def apartT (ops : Array Oper) (x y : Oper) : Bool :=
  disj x.dst.toList (rdT ops y ++ y.dst.toList) && disj y.dst.toList (rdT ops x)
def staticOK (ops : Array Oper) : Bool :=
  ops.toList.zipIdx.all fun q => (ops.toList.zipIdx.all fun p => Nat.ble q.2 p.2 || dep q.1 p.2 || apartT ops p.1 q.1) && (q.1.after.toList.all fun e => !Region.binds .any e || Nat.blt e.on q.2) &&
    (match q.1.guard with | some (g, _) => dep q.1 g | none => true)
abbrev Log := List (Nat × List Nat × List Nat)
/-- What is ahead of an operation, whatever the order. -/
def ahead (ops : List Oper) : Nat → List Nat → List Nat
  | 0, l => l
  | n + 1, l => ahead ops n (l ++ ((l.flatMap fun j => match ops[j]? with | some o => (o.after.toList.filter fun e => Region.binds .any e).map (·.on) | none => []).filter fun i => !memN i l).eraseDups)
/-- Is one behind another, by whatever others? -/
def behind (ops : Array Oper) (j i : Nat) : Bool := memN i (ahead ops.toList j [j])
/-- Nor at a block. -/
def logOK (ops : Array Oper) : Log → Bool
  | [] => true
  | (j, rd, wr) :: l => (l.all fun q => (disj q.2.2 (rd ++ wr) && disj wr (q.2.1 ++ q.2.2)) || (match ops[j]? with | some o => dep o q.1 | none => false) || behind ops j q.1) && logOK ops l

def anyDep (o : Oper) : List Nat → Bool
  | [] => false
  | i :: l => dep o i || anyDep o l

def wpDr (C : CallRel) (J : Inl) (ops : Array Oper) (Q : Ex → St → Prop) : List Oper → Nat → St → List Nat → Log → Prop
  | [], _, s, fl, log => logOK ops log = true ∧ match fl with | [] => Q .normal s | _ => True
  | o :: rest, i, s, fl, log =>
    bsel (anyDep o fl) (wpDr C J ops Q rest (i + 1) (s.app o.dst ⟨.junk, [], s.nx⟩) (i :: fl) log)
      (wpGuard G C J true ops o s (fun v => (∀ s, Q (.pan v) s) ∧ wpDr C J ops Q rest (i + 1) (s.app o.dst ⟨.junk, [], s.nx⟩) (i :: fl) ((i, rdB G s o, []) :: log))
        fun e => forceE e fun e => bsel (effOK s e) (forceNs (rdB G s o) fun rd => wpDr C J ops Q rest (i + 1) (s.app o.dst e) fl ((i, rd, e.bl.map (·.1)) :: log)) False)
def isEx (o : Oper) : Bool := match o.op, o.guard with | .extract _ _, none => true | .move _, none => true | .assign _, none => true | _, _ => false
/-- An operation that takes a result's part, or a copy, and that those that don't wait for it are apart from: it may come first. -/
def freeOp (ops : Array Oper) (i : Nat) (l : List Nat) : Bool :=
  match ops[i]? with
  | some o => isEx o && l.all fun k => match ops[k]? with | some ok => dep ok i || Oper.apart ops o ok | none => true
  | none => false
def readyOp (ops : Array Oper) (i : Nat) (l : List Nat) : Bool :=
  match ops[i]? with
  | some o => o.after.toList.all fun e => !Region.binds .any e || !memN e.on l
  | none => false
/-- One behind the other, or such as may come first. -/
def chainOK (ops : Array Oper) : List Nat → Bool
  | [] => true
  | x :: l => readyOp ops x l && ((l.all fun y => memN x (ahead ops.toList y [y])) || freeOp ops x l) && chainOK ops l
def preOK (ops : Array Oper) : List Nat → List Nat → Bool
  | [], _ => true
  | x :: l, u => readyOp ops x (l ++ u) && freeOp ops x (l ++ u) && preOK ops l u
def distN : List Nat → Bool
  | [] => true
  | x :: l => !memN x l && distN l
/-- First some that may come first, then those ahead of a place in whatever order, then the rest as they are told. -/
def tailOK (ops : Array Oper) (m : Nat) (f l : List Nat) : Bool :=
  Nat.ble m ops.size && (ops.toList.all fun o => (match o.op with | .select _ _ => false | _ => true)) &&
  ((List.range ops.size).all fun j => (match ops[j]? with | some o => o.after.toList.all fun e => !Region.binds .any e || Nat.blt e.on j | none => true) &&
    (bif Nat.blt j m then !memN j f && !memN j l else (bif memN j f then !memN j l else memN j l))) &&
  distN l && distN f && (l.all fun x => Nat.blt x ops.size) && (f.all fun x => Nat.blt x ops.size) &&
  (l.all fun y => (List.range m).all fun i => memN i (ahead ops.toList y [y])) && chainOK ops l && preOK ops f (List.range m ++ l)
def sel (ops : Array Oper) (l : List Nat) : List Oper := l.filterMap fun i => ops[i]?
def refixA (bs : Nat → Blk) (r : Nat) (v : AV) : AV := match v with
  | .w (.one (.ref q n)) => bif Nat.beq q r then (match bs r with | .vec _ xs _ => bif Nat.beq xs.length n then .one (.p (.sl xs)) else v | _ => v) else v
  | v => v
/-- A row of one's own is fixed ahead of a region. -/
def fixS (s : St) (r : Nat) : St := { s with bs := updL s.bs ([r].map fun r => (r, fixB s r)), tm := fun d => refixA s.bs r (s.tm d) }
def fixQ (s : St) (r : Nat) : Bool := match s.bs r with | .vec _ _ _ => Nat.ble s.lo r | _ => false
structure wpRegD (ops : Array Oper) (X : St → Prop) (Y : St → Nat → List Nat → List Nat → Prop) (s : St) : Prop where
  h : ∃ y, (y = s ∨ ∃ r, fixQ s r = true ∧ y = fixS s r) ∧ ((staticOK ops = true ∧ X y) ∨ ∃ m f l, tailOK ops m f l = true ∧ staticOK (ops.extract 0 m) = true ∧ Y y m f l)

/-! ### Code -/
def issC (bs : Nat → Blk) : Cell → Bool
  | .ref r _ => issR bs r
  | .ptr r _ => issR bs r
  | .vptr r _ _ _ => issR bs r
  | .mp r => issR bs r
  | .rows r _ => issR bs r
  | .ch r => issR bs r
  | .fnr _ a b => a.all (issP bs) && b.all (issP bs)
  | .win r _ _ => issR bs r
  | _ => true
where
  issR (bs : Nat → Blk) (r : Nat) : Bool := match bs r with | .none => false | _ => true
  issP (bs : Nat → Blk) : CapR → Bool
    | .ref r _ => match bs r with | .none => false | _ => true
    | .fix _ => true
def issW (bs : Nat → Blk) : W1 → Bool
  | .one c => issC bs c
  | .agg cs => cs.all (issC bs)
def issA (bs : Nat → Blk) : AV → Bool
  | .w x => issW bs x
  | .tup l => l.all (issW bs)
def issB (bs : Nat → Blk) : Blk → Bool
  | .vars cs => cs.all (issC bs)
  | .tvars _ cs => cs.all (issC bs)
  | .mapb _ es => es.all fun p => issC bs p.2
  | _ => true
/-- A row that is not there yet: nil. -/
def newRowS (T : Nat → TI) (a b : St) (r : Nat) : Prop := b.bs r = .none ∧ ∃ e, a.bs r = .vec e [] false ∧ 0 < (T e).size
/-- A state that says less; nil may be called a row of one's own. -/
structure le (T : Nat → TI) (a b : St) : Prop where
  tm : ∀ d, a.tm d = .junk ∨ (a.tm d = b.tm d ∧ issA a.bs (a.tm d) = true) ∨ (∃ r, a.tm d = .one (.ref r 0) ∧ b.tm d = .one .nils ∧ newRowS T a b r)
  bs : ∀ r, a.bs r = .none ∨ a.bs r = .dead ∨ (a.bs r = b.bs r ∧ issB a.bs (a.bs r) = true) ∨ newRowS T a b r
  nt : a.nt = b.nt
  lo : a.lo = b.lo
  kp : ∀ r, r < a.lo → a.bs r = .none → b.bs r = .none
  top : ∀ r, a.nx ≤ r → a.bs r = .none

structure wpLoop (T : Nat → TI) (body : (Ex → St → Prop) → St → Prop) (Q : Ex → St → Prop) (s : St) : Prop where
  h : ∀ I : St → Prop, (∀ s s0, (s0 = s ∨ le T s0 s) → body (fun e s => match e with | .normal => I s | e => Q e s) s0 → I s) → I s

/-! ### Communication, in one goroutine -/
def commX (s : St) (o : Op) : Option XReq :=
  match o with
  | .select cs blocking => match cs.toList, blocking with
    | [c], false => match c.send, s.ev c.chan with
      | some x, .w (.one (.ch r)) => match s.bs r, s.ev x with
        | .chan cap buf false, .w (.one (.p (.v v))) => bif okT G c.elem then some (.ask (decide (buf.length < cap)) fun b => bif b
            then .side (v.oneCell' = true) (.eff ⟨.tup [.one (.p (.v (.int .i64 0))), .one (.p (.v (.bool false)))], [(r, .chan cap (buf ++ [v]) false)], s.nx⟩)
            else .eff ⟨.tup [.one (.p (.v (.int .i64 (-1)))), .one (.p (.v (.bool false)))], [], s.nx⟩) else none
        | _, _ => none
      | _, _ => none
    | _, _ => none
  | .recv t c true => match (G.T t).k, s.ev c with
    | .chan e, .w (.one (.ch r)) => match s.bs r with
      | .chan cap buf cl => bif okT G e then some (.ask buf.isEmpty fun b => bif b
          then .side (cl = true) (.eff ⟨.tup [w1Of (G.T e).zero, .one (.p (.v (.bool false)))], [], s.nx⟩)
          else .eff ⟨.tup [.one (.p (.v (buf.headD undef))), .one (.p (.v (.bool true)))], [(r, .chan cap buf.tail cl)], s.nx⟩) else none
      | _ => none
    | _, _ => none
  | _ => none
def isComm (o : Oper) : Bool := match o.op with | .select _ _ | .recv _ _ _ => true | _ => false
/-- Operations one behind the other, a communication among them. -/
def wpM (C : CallRel) (J : Inl) (ops : Array Oper) (Q : Ex → St → Prop) : List Oper → St → Prop
  | [], _ => False
  | o :: rest, s => match o.guard with
    | some _ => False
    | none => match commX G s o.op with
      | some r => r.wp fun e => forceE e fun e => bsel (effOK s e) (wpOps G C J ops Q rest (s.app o.dst e)) False
      | none => match o.op with
        | .move x | .assign x => forceA (s.ev x) fun v => wpM C J ops Q rest (s.app o.dst ⟨v, [], s.nx⟩)
        | _ => False

def wpC (C : CallRel) (J : Inl) : Code → (Ex → St → Prop) → St → Prop
  | .skip, Q, s => Q .normal s
  | .region _ ops draw, Q, s => match draw with
    | true => wpRegD ops (fun s => wpDr G C J ops Q ops.toList 0 s [] []) (fun s m f l => wpOps G C J ops (fun e s => match e with | .normal => wpDr G C J (ops.extract 0 m) (fun e s => match e with | .normal => wpOps G C J ops Q (sel ops l) s | e => Q e s) (ops.extract 0 m).toList 0 s [] [] | e => Q e s) (sel ops f) s) s
    | false => bsel (ops.toList.any isComm) (wpM G C J ops Q ops.toList s) (wpOps G C J ops Q ops.toList s)
  | .seq a b, Q, s => wpC C J a (fun e s => match e with | .normal => wpC C J b Q s | e => Q e s) s
  | .cond c a b, Q, s => match s.ev c with
    | .w (.one (.p (.v (.bool t)))) => bsel t (wpC C J a Q s) (wpC C J b Q s)
    | _ => False
  | .block id a, Q, s => wpC C J a (fun e s => match e with | .exit j => bsel (Nat.beq j id) (Q .normal s) (Q (.exit j) s) | e => Q e s) s
  | .loop a, Q, s => wpLoop G.T (fun Q s => wpC C J a Q s) Q s
  | .exit id, Q, s => Q (.exit id) s
  | .label _, Q, s => Q .normal s
  | .ret, Q, s => Q .ret s
  | _, _, _ => False

/-! ### Calls -/
/-- What is handed back: a value, or what lies in a variable. -/
def resK (s : St) : List ResultVar → (List W1 → Prop) → Prop
  | [], K => K []
  | .tmp t :: l, K => match s.tm t with
    | .w x => resK s l fun m => K (x :: m)
    | _ => False
  | .cell t ty :: l, K => match loadA G s (s.tm t) ty with
    | some x => resK s l fun m => K (x :: m)
    | none => False
def tupOf : List W1 → AV
  | [x] => .w x
  | l => .tup l
/-- It carries all that it says. -/
def retWK (s : St) (x : W1) (K : W1 → Prop) : Prop :=
  match x with
  | .one c => argK s c fun c _ => K (.one c)
  | .agg cs => argCsK s cs fun cs _ => K (.agg cs)
def retLK (s : St) : List W1 → (List W1 → Prop) → Prop
  | [], K => K []
  | x :: l, K => retWK s x fun x => retLK s l fun l => K (x :: l)
def retQ (fn : Func) (r : AV) (s : St) : Prop :=
  resK G s fn.results.toList fun l => retLK s l fun l => tupOf l = r
def bodyQ (fn : Func) (out : Out) : Ex → St → Prop
  | .normal, s => ∃ r, out = .ret r ∧ retQ G fn r s
  | .ret, s => ∃ r, out = .ret r ∧ retQ G fn r s
  | .pan v, _ => out = .pan v
  | _, _ => False
/-- Rows of one's own that are handed back: block and length. -/
def rowAt (s : St) (p : Nat × Nat) : Option (Nat × List (List Value)) :=
  match s.bs p.1 with
  | .vec e xs false => some (e, xs)
  | .buf e _ ys => some (e, ys.take p.2)
  | _ => none
def posOf (r : Nat) : List (Nat × Nat) → Nat → Option (Nat × Nat)
  | [], _ => none
  | q :: l, j => bif Nat.beq r q.1 then some (j, q.2) else posOf r l (j + 1)
/-- A cell as it is handed back: k blocks came in, as they are numbered. -/
def outC (s : St) (k : Nat) (os : List (Nat × Nat)) : Cell → Option Cell
  | .p x => some (.p x)
  | .nils => some .nils
  | .junk => some .junk
  | .ref r _ => (posOf r os k).map fun p => .ref p.1 p.2
  | .win r 0 _ => match s.bs r with
    | .buf _ _ _ => (posOf r os k).map fun p => .ref p.1 p.2
    | _ => none
  | _ => none
/-- Its length is the one that is told. -/
def lenC (s : St) (k : Nat) (os : List (Nat × Nat)) : Cell → Prop
  | .ref r n => (match s.bs r with | .buf _ n0 _ => n = n0 | _ => True) ∧ (match posOf r os k with | some p => n = p.2 | none => True)
  | .win r _ n => match posOf r os k with | some p => n = p.2 | none => True
  | _ => True
def lenCs (s : St) (k : Nat) (os : List (Nat × Nat)) : List Cell → Prop
  | [] => True
  | c :: l => lenC s k os c ∧ lenCs s k os l
def lenWs (s : St) (k : Nat) (os : List (Nat × Nat)) : List W1 → Prop
  | [] => True
  | .one c :: l => lenC s k os c ∧ lenWs s k os l
  | .agg cs :: l => lenCs s k os cs ∧ lenWs s k os l
def outCs (s : St) (k : Nat) (os : List (Nat × Nat)) : List Cell → Option (List Cell)
  | [] => some []
  | c :: l => match outC s k os c, outCs s k os l with | some x, some m => some (x :: m) | _, _ => none
def outW (s : St) (k : Nat) (os : List (Nat × Nat)) : W1 → Option W1
  | .one c => (outC s k os c).map .one
  | .agg cs => (outCs s k os cs).map .agg
def outWs (s : St) (k : Nat) (os : List (Nat × Nat)) : List W1 → Option (List W1)
  | [] => some []
  | c :: l => match outW s k os c, outWs s k os l with | some x, some m => some (x :: m) | _, _ => none
/-- The blocks that came in: as they stand, or given up. -/
def keptB (s : St) (os : List (Nat × Nat)) : Nat → List Blk → Prop
  | _, [] => True
  | j, b :: bs => (b = .dead ∨ (b = s.bs j ∧ (os.all fun p => !Nat.beq p.1 j) = true ∧ blkV b = true)) ∧ keptB s os (j + 1) bs
/-- The new ones. -/
def newB (s : St) : List (Nat × Nat) → List Blk → Prop
  | [], [] => True
  | p :: os, b :: bs => (∃ e xs, rowAt s p = some (e, xs) ∧ b = .vec e xs false ∧ xs.length = p.2 ∧ p.2 ≤ 140737488355328 ∧ (match s.bs p.1 with | .buf _ _ _ => oneL xs | _ => True)) ∧ newB s os bs
  | _, _ => False
structure retO (fn : Func) (k : Nat) (r : AV) (bs' : List Blk) (s : St) : Prop where
  h : resK G s fn.results.toList fun l => ∃ os m, distinctB (os.map (·.1)) = true ∧ k ≤ bs'.length ∧ keptB s os 0 (bs'.take k) ∧ newB s os (bs'.drop k) ∧ lenWs s k os l ∧ outWs s k os l = some m ∧ r = tupOf m
def bodyO (fn : Func) (k : Nat) (out : Out) (bs' : List Blk) : Ex → St → Prop
  | .normal, s => ∃ r s0, out = .ret r ∧ le G.T s0 s ∧ retO G fn k r bs' s0
  | .ret, s => ∃ r s0, out = .ret r ∧ le G.T s0 s ∧ retO G fn k r bs' s0
  | .pan v, _ => out = .pan v
  | _, _ => False
def bsF (bs : List Blk) : Nat → Blk := fun r => bs.getD r .none
def initS (ar : List AV) (nt : Nat) : St := { tm := fun n => ar.getD n .junk, bs := fun _ => .none, nx := 0, nt := nt, lo := 0 }
def initO (ar : List AV) (bs : List Blk) (nt : Nat) : St := { tm := fun n => ar.getD n .junk, bs := bsF bs, nx := bs.length, nt := nt, lo := bs.length }
def initI (ar : List AV) (s : St) (nt : Nat) : St := { tm := fun n => ar.getD n .junk, bs := s.bs, nx := s.nx, nt := nt, lo := s.nx }

def callable (fn : Func) (c : Code) : Prop := fn.body = some c ∧ (fn.name == "runtime.NumGoroutine") = false
/-- Behind a call that was walked into. -/
def bodyI (fn : Func) (K : AV → St → Prop) (P : Value → Prop) : Ex → St → Prop
  | .normal, s => resK G s fn.results.toList fun l => K (tupOf l) s
  | .ret, s => resK G s fn.results.toList fun l => K (tupOf l) s
  | .pan v, _ => P v
  | _, _ => False
def Jn (P : Program) (C : CallRel) : Nat → Inl
  | 0 => fun _ _ _ _ _ => False
  | n + 1 => fun f ar s K Pp => (∃ fn c, P.funcs[f]? = some fn ∧ callable fn c ∧ wpC G C (Jn P C n) c (bodyI G fn K Pp) (initI ar s (max ar.length fn.ntmps))) ∨ G.ji f ar s K Pp
/-- One call: its code runs well, the calls in it as told. -/
def step (P : Program) (I C : CallRel) : CallRel := fun f ar bs out bs' =>
  I f ar bs out bs' ∨ (bs = [] ∧ bs' = [] ∧ ∃ fn c, P.funcs[f]? = some fn ∧ callable fn c ∧ ∃ n, wpC G C (Jn G P C n) c (bodyQ G fn out) (initS ar (max ar.length fn.ntmps))) ∨
  (∃ fn c, P.funcs[f]? = some fn ∧ callable fn c ∧ ∃ n, wpC G C (Jn G P C n) c (bodyO G fn bs.length out bs') (initO ar bs (max ar.length fn.ntmps)))
/-- The calls that come to an end so (I: those that are told from outside). -/
def PCall (P : Program) (I : CallRel) : CallRel := fun f ar bs out bs' =>
  ∀ R : CallRel, (∀ f a b o b', step G P I R f a b o b' → R f a b o b') → R f ar bs out bs'
end
end Go.Fw
/- What abstract values and states say of a world. -/
namespace Go.Fw
open Go Go.RowKit Go.MapKept

def A2 {α β : Type} (R : α → β → Prop) : List α → List β → Prop
  | [], [] => True
  | a :: l, b :: m => R a b ∧ A2 R l m
  | _, _ => False

theorem A2.length {α β : Type} {R : α → β → Prop} : ∀ {l : List α} {m : List β}, A2 R l m → l.length = m.length
  | [], [], _ => rfl
  | _ :: _, _ :: _, h => by simp [A2.length h.2]
theorem A2.mono {α β : Type} {R R' : α → β → Prop} (hr : ∀ a b, R a b → R' a b) : ∀ {l : List α} {m : List β}, A2 R l m → A2 R' l m
  | [], [], _ => trivial
  | _ :: _, _ :: _, h => ⟨hr _ _ h.1, A2.mono hr h.2⟩
theorem A2.get {α β : Type} {R : α → β → Prop} : ∀ {l : List α} {m : List β}, A2 R l m → ∀ (i : Nat) (a : α), l[i]? = some a → ∃ b, m[i]? = some b ∧ R a b
  | a :: _, b :: _, h, 0, x, hx => ⟨b, rfl, by simp at hx; exact hx ▸ h.1⟩
  | _ :: _, _ :: _, h, i + 1, x, hx => by simpa using A2.get h.2 i x (by simpa using hx)
  | [], [], _, i, x, hx => by simp at hx
theorem A2.drop {α β : Type} {R : α → β → Prop} : ∀ {l : List α} {m : List β}, A2 R l m → ∀ n, A2 R (l.drop n) (m.drop n)
  | [], [], _, n => by simp [A2]
  | _ :: _, _ :: _, h, 0 => h
  | _ :: _, _ :: _, h, n + 1 => by simpa using A2.drop h.2 n
theorem A2.take {α β : Type} {R : α → β → Prop} : ∀ {l : List α} {m : List β}, A2 R l m → ∀ n, A2 R (l.take n) (m.take n)
  | [], [], _, n => by simp [A2]
  | _ :: _, _ :: _, h, 0 => by simp [A2]
  | _ :: _, _ :: _, h, n + 1 => by simpa [A2] using ⟨h.1, A2.take h.2 n⟩
theorem A2.map_left {α β γ : Type} {R : α → β → Prop} {f : γ → α} : ∀ {l : List γ} {m : List β}, A2 (fun c b => R (f c) b) l m → A2 R (l.map f) m
  | [], [], _ => trivial
  | _ :: _, _ :: _, h => ⟨h.1, A2.map_left h.2⟩
theorem A2.map_left' {α β γ : Type} {R : α → β → Prop} {f : γ → α} : ∀ {l : List γ} {m : List β}, A2 R (l.map f) m → A2 (fun c b => R (f c) b) l m
  | [], [], _ => trivial
  | _ :: _, _ :: _, h => ⟨h.1, A2.map_left' h.2⟩
theorem A2.append {α β : Type} {R : α → β → Prop} : ∀ {l : List α} {m : List β}, A2 R l m → ∀ {l' : List α} {m' : List β}, A2 R l' m' → A2 R (l ++ l') (m ++ m')
  | [], [], _, _, _, h => h
  | _ :: _, _ :: _, h, _, _, h' => ⟨h.1, A2.append h.2 h'⟩
theorem A2.all_right {α β : Type} {R : α → β → Prop} {p : β → Prop} (hp : ∀ a b, R a b → p b) : ∀ {l : List α} {m : List β}, A2 R l m → ∀ b ∈ m, p b
  | [], [], _, b, hb => by cases hb
  | _ :: _, _ :: _, h, b, hb => by
    cases hb with
    | head => exact hp _ _ h.1
    | tail _ hb => exact A2.all_right hp h.2 b hb

/-! ### Working out changes nothing -/
theorem forceN_go (n : Nat) (k : Nat → Prop) : ∀ l, forceN.go n k l = k n
  | [] => rfl
  | i :: l => by
    unfold forceN.go
    cases h : Nat.beq n i with
    | true => rw [Nat.eq_of_beq_eq_true h]
    | false => exact forceN_go n k l
theorem forceN_eq (n : Nat) (k : Nat → Prop) : forceN n k = k n := forceN_go n k _
theorem forceNs_eq : ∀ (l : List Nat) (k : List Nat → Prop), forceNs l k = k l
  | [], _ => rfl
  | n :: l, k => by simp only [forceNs, forceN_eq, forceNs_eq l]
theorem forceV_eq (y : Value) (k : Value → Prop) : forceV y k = k y := by unfold forceV; split <;> rfl
theorem forceP_eq (y : PC) (k : PC → Prop) : forceP y k = k y := by cases y <;> simp only [forceP, forceV_eq]
theorem forcePs_eq : ∀ (l : List PC) (k : List PC → Prop), forcePs l k = k l
  | [], _ => rfl
  | n :: l, k => by simp only [forcePs, forceP_eq, forcePs_eq l]
theorem forceC_eq (y : Cell) (k : Cell → Prop) : forceC y k = k y := by cases y <;> simp only [forceC, forceP_eq, forceN_eq, forcePs_eq]
theorem forceCs_eq : ∀ (l : List Cell) (k : List Cell → Prop), forceCs l k = k l
  | [], _ => rfl
  | n :: l, k => by simp only [forceCs, forceC_eq, forceCs_eq l]
theorem forceW_eq (y : W1) (k : W1 → Prop) : forceW y k = k y := by cases y <;> simp only [forceW, forceC_eq, forceCs_eq]
theorem forceWs_eq : ∀ (l : List W1) (k : List W1 → Prop), forceWs l k = k l
  | [], _ => rfl
  | n :: l, k => by simp only [forceWs, forceW_eq, forceWs_eq l]
theorem forceA_eq (y : AV) (k : AV → Prop) : forceA y k = k y := by cases y <;> simp only [forceA, forceW_eq, forceWs_eq]
theorem forceB_eq (y : Blk) (k : Blk → Prop) : forceB y k = k y := by cases y <;> simp only [forceB, forceCs_eq, forcePs_eq]
theorem forceBs_eq : ∀ (l : List (Nat × Blk)) (k : List (Nat × Blk) → Prop), forceBs l k = k l
  | [], _ => rfl
  | (r, b) :: l, k => by simp only [forceBs, forceN_eq, forceB_eq, forceBs_eq l]
theorem forceE_eq (e : Eff) (k : Eff → Prop) : forceE e k = k e := by simp only [forceE, forceA_eq, forceBs_eq, forceN_eq]

structure Env where
  σ : Nat → Nat
  sv : Nat → Value
  F : Nat → Prop

/-- A slice of fixed content. -/
def RSl (w : World) (F : Nat → Prop) (xs : List (List Value)) (ex : Bool) (y : Value) : Prop :=
  ∃ a cap, y = .slice a xs.length cap ∧ xs.length ≤ cap ∧ (ex = true → cap = xs.length) ∧ xs.length ≤ 140737488355328 ∧
    ∃ k, (∀ es ∈ xs, es.length = k) ∧ (xs ≠ [] → ∃ b o, a = some ⟨b, o, none⟩ ∧ F b ∧
      ∀ i es, xs[i]? = some es → ∀ j u, es[j]? = some u → u.oneCell' = true ∧ w.cell? ⟨b, o + i * k + j, none⟩ = some u)
def RPC (w : World) (F : Nat → Prop) : PC → Value → Prop
  | .v x, y => y = x
  | .sl xs, y => RSl w F xs false y
  | .slc xs, y => RSl w F xs true y
def RPv (w : World) (F : Nat → Prop) (cs : List PC) (o : Nat) (y : Value) : Prop :=
  ∃ b off, y = .pointer (some ⟨b, off + o, none⟩) ∧ F b ∧ ∀ j c, cs[j]? = some c → ∃ u, w.cell? ⟨b, off + j, none⟩ = some u ∧ u.oneCell' = true ∧ RPC w F c u
def RCap (w : World) (F : Nat → Prop) : Cap → Value → Prop
  | .c x, y => RPC w F x y ∧ y.oneCell' = true
  | .pv cs, y => RPv w F cs 0 y
  | .ag cs, y => ∃ ar, y = .agg ar ∧ A2 (fun c u => RPC w F c u ∧ u.oneCell' = true) cs ar.toList

/-- A part of an opened row. -/
def RWin (ys : List (List Value)) (b0 : Option Nat) (lo n : Nat) (y : Value) : Prop :=
  lo + n ≤ ys.length ∧ ∃ a, y = .slice a n (ys.length - lo) ∧ (lo < ys.length ∨ lo = 0 → ∃ k, (∀ es ∈ ys, es.length = k) ∧ a = b0.map fun g => ⟨g, lo * k, none⟩)
def RCapR (bs : Nat → Blk) (w : World) (E : Env) : CapR → Value → Prop
  | .ref r o, y => (match bs r with
    | .none => False
    | .vars _ => y = .pointer (some ⟨E.σ r, o, none⟩)
    | .tvars _ _ => y = .pointer (some ⟨E.σ r, o, none⟩)
    | .imm _ => y = .pointer (some ⟨E.σ r, o, none⟩)
    | .iter _ _ => y = .pointer (some ⟨E.σ r, o, none⟩)
    | _ => True) ∧ y.oneCell' = true
  | .fix c, y => RCap w E.F c y
def RC (bs : Nat → Blk) (w : World) (E : Env) : Cell → Value → Prop
  | .p x, y => RPC w E.F x y
  | .nils, y => y = .slice none 0 0
  | .ref r n, y => match bs r with
    | .none => False
    | .vec _ xs _ => n ≤ xs.length ∧ (xs.length = n → y = E.sv r)
    | .buf _ n0 ys => n ≤ n0 ∧ (n = n0 → RWin ys (E.sv r).ownBlock 0 n y)
    | _ => True
  | .win r lo n, y => match bs r with
    | .none => False
    | .buf _ _ ys => RWin ys (E.sv r).ownBlock lo n y
    | .vec _ _ _ => False
    | _ => True
  | .ptr r o, y => match bs r with
    | .none => False
    | .vars _ => y = .pointer (some ⟨E.σ r, o, none⟩)
    | .tvars _ _ => y = .pointer (some ⟨E.σ r, o, none⟩)
    | .imm _ => y = .pointer (some ⟨E.σ r, o, none⟩)
    | .iter _ _ => y = .pointer (some ⟨E.σ r, o, none⟩)
    | _ => True
  | .vptr r n i o, y => match bs r with
    | .none => False
    | .vec _ xs _ => n ≤ xs.length ∧ (xs.length = n → ∃ b k, (E.sv r).ownBlock = some b ∧ (∀ es ∈ xs, es.length = k) ∧ y = .pointer (some ⟨b, i * k + o, none⟩))
    | _ => True
  | .pv cs o, y => RPv w E.F cs o y
  | .fn f pre caps, y => ∃ a b, y = .func (.func f) a b ∧ A2 (RCap w E.F) pre a.toList ∧ A2 (RCap w E.F) caps b.toList
  | .fnr f pre caps, y => ∃ a b, y = .func (.func f) a b ∧ A2 (RCapR bs w E) pre a.toList ∧ A2 (RCapR bs w E) caps b.toList
  | .mp r, y => match bs r with
    | .none => False
    | .mapb _ _ => y = .map (some (E.σ r))
    | .mapi _ _ _ _ => y = .map (some (E.σ r))
    | _ => True
  | .rows r n, y => match bs r with
    | .none => False
    | .tvars _ _ => False
    | .vars _ => y = .slice (some ⟨E.σ r, 0, none⟩) n n
    | _ => True
  | .ch r, y => match bs r with
    | .none => False
    | .chan _ _ _ => y = .chan (some (E.σ r))
    | _ => True
  | .junk, _ => True
/-- A cell that holds that. -/
def RC1 (bs : Nat → Blk) (w : World) (E : Env) (c : Cell) (y : Value) : Prop := RC bs w E c y ∧ y.oneCell' = true
def RW (bs : Nat → Blk) (w : World) (E : Env) : W1 → Value → Prop
  | .one c, y => RC bs w E c y ∧ (match c with | .junk => True | _ => y.oneCell' = true)
  | .agg cs, y => ∃ ar, y = .agg ar ∧ A2 (RC1 bs w E) cs ar.toList
def RA (bs : Nat → Blk) (w : World) (E : Env) : AV → Value → Prop
  | .w x, y => RW bs w E x y
  | .tup l, y => ∃ ar, y = .tuple ar ∧ A2 (RW bs w E) l ar.toList

def RB (T : Nat → TI) (bs : Nat → Blk) (w : World) (E : Env) (r : Nat) : Blk → Prop
  | .none => True
  | .dead => True
  | .vars cs => ∃ ar ty, w.heap[E.σ r]? = some (.cells ar ty (0, 0)) ∧ A2 (RC1 bs w E) cs ar.toList
  | .tvars t cs => ∃ ar, w.heap[E.σ r]? = some (.cells ar t (0, 0)) ∧ A2 (RC1 bs w E) cs ar.toList
  | .imm cs => E.F (E.σ r) ∧ ∃ ar ty fr, w.heap[E.σ r]? = some (.cells ar ty fr) ∧ A2 (fun c u => RPC w E.F c u ∧ u.oneCell' = true) cs ar.toList
  | .vec e xs fz => (∀ es ∈ xs, es.length = (T e).size ∧ ∀ u ∈ es, u.oneCell' = true) ∧ 0 < (T e).size ∧ xs.length ≤ 140737488355328 ∧
      w.ownsRow 0 e (T e).size (E.sv r) xs.length xs.flatten ∧ (fz = true → ∀ b, (E.sv r).ownBlock = some b → E.F b)
  | .buf e n0 ys => (∀ es ∈ ys, es.length = (T e).size) ∧ 0 < (T e).size ∧ ys.length ≤ 9223372036854775807 ∧ n0 ≤ ys.length ∧
      ((E.sv r = .slice none 0 0 ∧ ys = []) ∨ ∃ g cur, E.sv r = .slice (some ⟨g, 0, none⟩) n0 ys.length ∧ w.heap[g]? = some (.cells cur e (0, 0)) ∧ cur.toList = ys.flatten)
  | .mapb kk es => ∃ ms clock, w.heap[E.σ r]? = some (.map ms clock) ∧ A2 (fun (p : Value × Cell) (e : MapEntry) => e.key = p.1 ∧ keyK kk p.1 = true ∧ RC1 bs w E p.2 e.val) es ms.toList ∧ Stamped ms clock
  | .mapi kk isB m st => ∃ ms clock, w.heap[E.σ r]? = some (.map ms clock) ∧ A2 (fun (p : Value × Int) (e : MapEntry) => e.key = p.1 ∧ keyK kk p.1 = true ∧ e.val = encM isB p.2) m ms.toList ∧
      Stamped ms clock ∧ ∀ k b, st = some (k, b) → ∃ (i : Nat) (e : MapEntry), ms.toList[i]? = some e ∧ e.key = k ∧ (e.born : Int) = b
  | .iter s p => w.heap[E.σ r]? = some (.stringIter ⟨⟨s⟩⟩ p)
  | .lock D => E.σ r = D ∧ w.heap[E.σ r]? = some (.deferred (some []))
  | .chan cap buf cl => (∀ v ∈ buf, v.oneCell' = true) ∧ ∃ sn rc, w.heap[E.σ r]? = some (.chan cap buf.toArray cl sn rc false)

/-- The block that may be written. -/
def mblk (bs : Nat → Blk) (E : Env) (r : Nat) : Option Nat :=
  match bs r with
  | .vars _ => some (E.σ r)
  | .vec _ _ false => (E.sv r).ownBlock
  | .mapb _ _ => some (E.σ r)
  | .mapi _ _ _ _ => some (E.σ r)
  | .iter _ _ => some (E.σ r)
  | .lock _ => some (E.σ r)
  | .tvars _ _ => some (E.σ r)
  | .chan _ _ _ => some (E.σ r)
  | .buf _ _ _ => (E.sv r).ownBlock
  | _ => none

/-- What a call began with: the world, what was fixed then, what may be written. -/
structure Ctx where
  w : World
  F : Nat → Prop
  M : Nat → Prop

/-- And what its blocks were. -/
structure Ctx2 extends Ctx where
  bs0 : Nat → Blk
  E0 : Env
  /-- what is put off until the call's end -/
  df : List Deferred

structure Frame (X : Ctx) (w : World) (F : Nat → Prop) : Prop where
  flt : ∀ b, F b → b < w.heap.size ∧ (X.F b ∨ X.w.heap.size ≤ b)
  fge : ∀ b, X.F b → F b
  os : w.os = X.w.os
  tape : w.tape = X.w.tape
  output : w.output = X.w.output
  grow : X.w.heap.size ≤ w.heap.size
  keep : ∀ b, b < X.w.heap.size → ¬ X.M b → w.heap[b]? = X.w.heap[b]?

/-- The blocks of a state. -/
structure Blocks (T : Nat → TI) (bs : Nat → Blk) (w : World) (E : Env) : Prop where
  blk : ∀ r, RB T bs w E r (bs r)
  inj : ∀ r r' b, mblk bs E r = some b → mblk bs E r' = some b → r = r'
  mt : ∀ r b, mblk bs E r = some b → ¬ E.F b ∧ b < w.heap.size

/-! ### What lives on in another world -/
/-- Fixed blocks stay, and stay fixed. -/
structure FExt (w : World) (F : Nat → Prop) (w' : World) (F' : Nat → Prop) : Prop where
  f : ∀ b, F b → F' b
  h : ∀ b, F b → w'.heap[b]? = w.heap[b]?
theorem FExt.refl (w : World) (F : Nat → Prop) : FExt w F w F := ⟨fun _ h => h, fun _ _ => rfl⟩
theorem FExt.cell {w w' : World} {F F' : Nat → Prop} (h : FExt w F w' F') {b o : Nat} (hb : F b) : w'.cell? ⟨b, o, none⟩ = w.cell? ⟨b, o, none⟩ :=
  World.cell?_of_block (h.h b hb)

theorem RSl.ext {w w' : World} {F F' : Nat → Prop} (h : FExt w F w' F') {xs : List (List Value)} {ex : Bool} {y : Value} (hs : RSl w F xs ex y) : RSl w' F' xs ex y := by
  obtain ⟨a, cap, e, h1, h2, h3, k, hk, hc⟩ := hs
  refine ⟨a, cap, e, h1, h2, h3, k, hk, fun hx => ?_⟩
  obtain ⟨b, o, e1, hb, hcell⟩ := hc hx
  exact ⟨b, o, e1, h.f b hb, fun i es hi j u hj => ⟨(hcell i es hi j u hj).1, by rw [h.cell hb]; exact (hcell i es hi j u hj).2⟩⟩
theorem RPC.ext {w w' : World} {F F' : Nat → Prop} (h : FExt w F w' F') {c : PC} {y : Value} (hs : RPC w F c y) : RPC w' F' c y := by
  cases c with
  | v x => exact hs
  | sl xs => exact RSl.ext h hs
  | slc xs => exact RSl.ext h hs
theorem RPv.ext {w w' : World} {F F' : Nat → Prop} (h : FExt w F w' F') {cs : List PC} {o : Nat} {y : Value} (hs : RPv w F cs o y) : RPv w' F' cs o y := by
  obtain ⟨b, off, e, hb, hc⟩ := hs
  refine ⟨b, off, e, h.f b hb, fun j c hj => ?_⟩
  obtain ⟨u, hu, h1, hr⟩ := hc j c hj
  exact ⟨u, by rw [h.cell hb]; exact hu, h1, hr.ext h⟩
theorem RCap.ext {w w' : World} {F F' : Nat → Prop} (h : FExt w F w' F') {c : Cap} {y : Value} (hs : RCap w F c y) : RCap w' F' c y := by
  cases c with
  | c x => exact ⟨RPC.ext h hs.1, hs.2⟩
  | pv cs => exact RPv.ext h hs
  | ag cs =>
    obtain ⟨ar, e, hA⟩ := hs
    exact ⟨ar, e, hA.mono fun _ _ q => ⟨q.1.ext h, q.2⟩⟩

/-- How a state's blocks may turn, so that values live on. -/
def BExtAt (bs : Nat → Blk) (E : Env) (bs' : Nat → Blk) (E' : Env) (r : Nat) : Prop :=
  bs r ≠ .none → match bs' r with
    | .none => False
    | .dead => True
    | .vars _ => (∃ cs, bs r = .vars cs ∨ ∃ t, bs r = .tvars t cs) ∧ E'.σ r = E.σ r
    | .tvars t _ => (∃ cs, bs r = .tvars t cs) ∧ E'.σ r = E.σ r
    | .imm _ => ((∃ cs, bs r = .vars cs ∨ ∃ t, bs r = .tvars t cs) ∨ ∃ cs, bs r = .imm cs) ∧ E'.σ r = E.σ r
    | .vec _ xs' _ => ∃ e xs fz, bs r = .vec e xs fz ∧ xs.length ≤ xs'.length ∧ (xs.length = xs'.length → E'.sv r = E.sv r ∧ ∀ k, (∀ es ∈ xs, es.length = k) → ∀ es ∈ xs', es.length = k)
    | .buf e n0 ys => (∃ e1 xs fz, bs r = .vec e1 xs fz ∧ xs.length ≤ n0 ∧ (xs.length = n0 → RWin ys (E'.sv r).ownBlock 0 n0 (E.sv r))) ∨
        ∃ ys0, bs r = .buf e n0 ys0 ∧ ys0.length = ys.length ∧ E'.sv r = E.sv r ∧ ∀ k, (∀ es ∈ ys0, es.length = k) → ∀ es ∈ ys, es.length = k
    | .mapb _ _ => (∃ kk es, bs r = .mapb kk es) ∧ E'.σ r = E.σ r
    | .mapi _ _ _ _ => (∃ kk b m st, bs r = .mapi kk b m st) ∧ E'.σ r = E.σ r
    | .iter _ _ => (∃ l p, bs r = .iter l p) ∧ E'.σ r = E.σ r
    | .lock _ => (∃ D, bs r = .lock D) ∧ E'.σ r = E.σ r
    | .chan _ _ _ => (∃ c b cl, bs r = .chan c b cl) ∧ E'.σ r = E.σ r
def BExt (bs : Nat → Blk) (E : Env) (bs' : Nat → Blk) (E' : Env) : Prop := ∀ r, BExtAt bs E bs' E' r
theorem BExt.refl (bs : Nat → Blk) (E : Env) : BExt bs E bs E := by
  intro r hr
  cases h : bs r with
  | none => exact (hr h).elim
  | dead => trivial
  | vars cs => exact ⟨⟨cs, .inl rfl⟩, rfl⟩
  | tvars t cs => exact ⟨⟨cs, rfl⟩, rfl⟩
  | imm cs => exact ⟨.inr ⟨cs, rfl⟩, rfl⟩
  | vec e xs fz => exact ⟨e, xs, fz, rfl, Nat.le_refl _, fun _ => ⟨rfl, fun k hk => hk⟩⟩
  | mapb kk es => exact ⟨⟨kk, es, rfl⟩, rfl⟩
  | mapi kk b m st => exact ⟨⟨kk, b, m, st, rfl⟩, rfl⟩
  | iter l p => exact ⟨⟨l, p, rfl⟩, rfl⟩
  | lock D => exact ⟨⟨D, rfl⟩, rfl⟩
  | chan c b cl => exact ⟨⟨c, b, cl, rfl⟩, rfl⟩
  | buf e n0 ys => exact .inr ⟨ys, rfl, rfl, rfl, fun k hk => hk⟩
theorem BExtAt.same {bs bs' : Nat → Blk} {E E' : Env} {q : Nat} (hb : bs' q = bs q) (h1 : E'.σ q = E.σ q) (h2 : E'.sv q = E.sv q) : BExtAt bs E bs' E' q := by
  intro hq
  rw [hb]
  cases h : bs q with
  | none => exact (hq h).elim
  | dead => trivial
  | vars cs => exact ⟨⟨cs, .inl rfl⟩, h1⟩
  | tvars t cs => exact ⟨⟨cs, rfl⟩, h1⟩
  | imm cs => exact ⟨.inr ⟨cs, rfl⟩, h1⟩
  | vec e xs fz => exact ⟨e, xs, fz, rfl, Nat.le_refl _, fun _ => ⟨h2, fun k hk => hk⟩⟩
  | mapb kk es => exact ⟨⟨kk, es, rfl⟩, h1⟩
  | mapi kk b m st => exact ⟨⟨kk, b, m, st, rfl⟩, h1⟩
  | iter l p => exact ⟨⟨l, p, rfl⟩, h1⟩
  | lock D => exact ⟨⟨D, rfl⟩, h1⟩
  | chan c b cl => exact ⟨⟨c, b, cl, rfl⟩, h1⟩
  | buf e n0 ys => exact .inr ⟨ys, rfl, rfl, h2, fun k hk => hk⟩
theorem RWin.same {ys ys' : List (List Value)} {g : Option Nat} {lo n : Nat} {y : Value} (hl : ys.length = ys'.length) (hk : ∀ k, (∀ es ∈ ys, es.length = k) → ∀ es ∈ ys', es.length = k) (h : RWin ys g lo n y) : RWin ys' g lo n y := by
  obtain ⟨h1, a, h2, h3⟩ := h
  refine ⟨by omega, a, by rw [← hl]; exact h2, fun hlt => ?_⟩
  obtain ⟨k, q1, q2⟩ := h3 (by omega)
  exact ⟨k, hk k q1, q2⟩
theorem BExt.trans {b1 b2 b3 : Nat → Blk} {E1 E2 E3 : Env} (h : BExt b1 E1 b2 E2) (h' : BExt b2 E2 b3 E3) : BExt b1 E1 b3 E3 := by
  intro r hr
  have x := h r hr
  have hr2 : b2 r ≠ .none := fun e => by rw [e] at x; exact x
  have y := h' r hr2
  cases h3 : b3 r with
  | none => rw [h3] at y; exact y
  | dead => trivial
  | tvars t cs =>
    rw [h3] at y
    obtain ⟨⟨cs2, e2⟩, s2⟩ := y
    rw [e2] at x
    exact ⟨x.1, s2.trans x.2⟩
  | vars cs =>
    rw [h3] at y
    obtain ⟨⟨cs2, e2 | ⟨t, e2⟩⟩, s2⟩ := y
    · rw [e2] at x
      exact ⟨x.1, s2.trans x.2⟩
    · rw [e2] at x
      obtain ⟨⟨cs1, e1⟩, s1⟩ := x
      exact ⟨⟨cs1, .inr ⟨t, e1⟩⟩, s2.trans s1⟩
  | imm cs =>
    rw [h3] at y
    obtain ⟨e2 | e2, s2⟩ := y
    · obtain ⟨cs2, e2 | ⟨t, e2⟩⟩ := e2
      · rw [e2] at x; exact ⟨.inl x.1, s2.trans x.2⟩
      · rw [e2] at x
        obtain ⟨⟨cs1, e1⟩, s1⟩ := x
        exact ⟨.inl ⟨cs1, .inr ⟨t, e1⟩⟩, s2.trans s1⟩
    · obtain ⟨cs2, e2⟩ := e2; rw [e2] at x; exact ⟨x.1, s2.trans x.2⟩
  | vec e xs fz =>
    rw [h3] at y
    obtain ⟨e2, xs2, fz2, q1, q2, q3⟩ := y
    rw [q1] at x
    obtain ⟨e1, xs1, fz1, p1, p2, p3⟩ := x
    refine ⟨e1, xs1, fz1, p1, Nat.le_trans p2 q2, fun hl => ?_⟩
    obtain ⟨u1, u2⟩ := p3 (by omega)
    obtain ⟨v1, v2⟩ := q3 (by omega)
    exact ⟨v1.trans u1, fun k hk => v2 k (u2 k hk)⟩
  | buf e n0 ys =>
    rw [h3] at y
    rcases y with ⟨e2, xs, fz, q1, q2, q3⟩ | ⟨ys0, q1, q2, q3, q4⟩
    · rw [q1] at x
      obtain ⟨e1, xs1, fz1, p1, p2, p3⟩ := x
      refine .inl ⟨e1, xs1, fz1, p1, Nat.le_trans p2 q2, fun hl => ?_⟩
      obtain ⟨u1, u2⟩ := p3 (by omega)
      rw [← u1]
      exact q3 (by omega)
    · rw [q1] at x
      rcases x with ⟨e1, xs, fz, p1, p2, p3⟩ | ⟨ys1, p1, p2, p3, p4⟩
      · exact .inl ⟨e1, xs, fz, p1, p2, fun hl => by rw [q3]; exact RWin.same q2 q4 (p3 hl)⟩
      · exact .inr ⟨ys1, p1, p2.trans q2, q3.trans p3, fun k hk => q4 k (p4 k hk)⟩
  | mapb kk es =>
    rw [h3] at y
    obtain ⟨⟨kk2, es2, e2⟩, s2⟩ := y
    rw [e2] at x
    exact ⟨x.1, s2.trans x.2⟩
  | mapi kk b m st =>
    rw [h3] at y
    obtain ⟨⟨kk2, b2, m2, st2, e2⟩, s2⟩ := y
    rw [e2] at x
    exact ⟨x.1, s2.trans x.2⟩
  | iter l p =>
    rw [h3] at y
    obtain ⟨⟨l2, p2, e2⟩, s2⟩ := y
    rw [e2] at x
    exact ⟨x.1, s2.trans x.2⟩
  | lock D =>
    rw [h3] at y
    obtain ⟨⟨D2, e2⟩, s2⟩ := y
    rw [e2] at x
    exact ⟨x.1, s2.trans x.2⟩
  | chan c b cl =>
    rw [h3] at y
    obtain ⟨⟨c2, b2, cl2, e2⟩, s2⟩ := y
    rw [e2] at x
    exact ⟨x.1, s2.trans x.2⟩

theorem RCapR.ext {bs bs' : Nat → Blk} {w w' : World} {E E' : Env} (hf : FExt w E.F w' E'.F) (hb : BExt bs E bs' E') {c : CapR} {y : Value} (h : RCapR bs w E c y) : RCapR bs' w' E' c y := by
  cases c with
  | fix c => exact RCap.ext hf h
  | ref r o =>
    refine ⟨?_, h.2⟩
    have h := h.1
    have h0 : bs r ≠ .none := fun e => by simp [e] at h
    have hx := hb r h0
    cases h' : bs' r with
    | none => simp [h'] at hx
    | vars cs' =>
      simp only [h'] at hx
      obtain ⟨⟨cs, e1 | ⟨t, e1⟩⟩, e2⟩ := hx <;> simp only [e1] at h <;> simp only [h, e2]
    | tvars t cs' =>
      simp only [h'] at hx
      obtain ⟨⟨cs, e1⟩, e2⟩ := hx
      simp only [e1] at h
      simp only [h, e2]
    | imm cs' =>
      simp only [h'] at hx
      obtain ⟨he, e2⟩ := hx
      rcases he with ⟨cs, e1 | ⟨t, e1⟩⟩ | ⟨cs, e1⟩ <;> simp only [e1] at h <;> simp only [h, e2]
    | iter l' p' =>
      simp only [h'] at hx
      obtain ⟨⟨l, p, e1⟩, e2⟩ := hx
      simp only [e1] at h
      simp only [h, e2]
    | _ => trivial

theorem RC.ext {bs bs' : Nat → Blk} {w w' : World} {E E' : Env} (hf : FExt w E.F w' E'.F) (hb : BExt bs E bs' E') {c : Cell} {y : Value} (h : RC bs w E c y) : RC bs' w' E' c y := by
  cases c with
  | p x => exact RPC.ext hf h
  | nils => exact h
  | ref r n =>
    have h0 : bs r ≠ .none := fun e => by simp [RC, e] at h
    have hx := hb r h0
    simp only [RC] at h ⊢
    cases h' : bs' r with
    | none => simp [h'] at hx
    | vec e' xs' fz' =>
      simp only [h'] at hx
      obtain ⟨e, xs, fz, e1, hl, hq⟩ := hx
      simp only [e1] at h
      refine ⟨by omega, fun hn => ?_⟩
      have : xs.length = n := by omega
      rw [h.2 this, (hq (by omega)).1]
    | buf e' n0 ys =>
      simp only [h'] at hx
      rcases hx with ⟨e, xs, fz, e1, hl, hq⟩ | ⟨ys0, e1, hl, hs, hk⟩
      · simp only [e1] at h
        refine ⟨by omega, fun hn => ?_⟩
        have : xs.length = n := by omega
        rw [h.2 this, hn]
        exact hq (by omega)
      · simp only [e1] at h
        exact ⟨h.1, fun hn => by rw [hs]; exact RWin.same hl hk (h.2 hn)⟩
    | _ => trivial
  | win r lo n =>
    have h0 : bs r ≠ .none := fun e => by simp [RC, e] at h
    have hx := hb r h0
    simp only [RC] at h ⊢
    cases h' : bs' r with
    | none => simp [h'] at hx
    | buf e' n0 ys =>
      simp only [h'] at hx
      rcases hx with ⟨e, xs, fz, e1, hl, hq⟩ | ⟨ys0, e1, hl, hs, hk⟩
      · simp [e1] at h
      · simp only [e1] at h
        rw [hs]; exact RWin.same hl hk h
    | vec e' xs' fz' =>
      simp only [h'] at hx
      obtain ⟨e, xs, fz, e1, _⟩ := hx
      simp [e1] at h
    | _ => trivial
  | ptr r o =>
    have h0 : bs r ≠ .none := fun e => by simp [RC, e] at h
    have hx := hb r h0
    simp only [RC] at h ⊢
    cases h' : bs' r with
    | none => simp [h'] at hx
    | vars cs' =>
      simp only [h'] at hx
      obtain ⟨⟨cs, e1 | ⟨t, e1⟩⟩, e2⟩ := hx <;> simp only [e1] at h <;> simp only [h, e2]
    | tvars t cs' =>
      simp only [h'] at hx
      obtain ⟨⟨cs, e1⟩, e2⟩ := hx
      simp only [e1] at h
      simp only [h, e2]
    | imm cs' =>
      simp only [h'] at hx
      obtain ⟨he, e2⟩ := hx
      rcases he with ⟨cs, e1 | ⟨t, e1⟩⟩ | ⟨cs, e1⟩ <;> simp only [e1] at h <;> simp only [h, e2]
    | iter l' p' =>
      simp only [h'] at hx
      obtain ⟨⟨l, p, e1⟩, e2⟩ := hx
      simp only [e1] at h
      simp only [h, e2]
    | _ => trivial
  | vptr r n i o =>
    have h0 : bs r ≠ .none := fun e => by simp [RC, e] at h
    have hx := hb r h0
    simp only [RC] at h ⊢
    cases h' : bs' r with
    | none => simp [h'] at hx
    | vec e' xs' fz' =>
      simp only [h'] at hx
      obtain ⟨e, xs, fz, e1, hl, hq⟩ := hx
      simp only [e1] at h
      refine ⟨by omega, fun hn => ?_⟩
      have hxl : xs.length = n := by omega
      obtain ⟨b, k, q1, q2, q3⟩ := h.2 hxl
      have hq' := hq (by omega)
      exact ⟨b, k, by rw [hq'.1]; exact q1, hq'.2 k q2, q3⟩
    | _ => trivial
  | pv cs o => exact RPv.ext hf h
  | fn f pre caps =>
    obtain ⟨a, b, e, h1, h2⟩ := h
    exact ⟨a, b, e, h1.mono fun _ _ => RCap.ext hf, h2.mono fun _ _ => RCap.ext hf⟩
  | fnr f pre caps =>
    obtain ⟨a, b, e, h1, h2⟩ := h
    exact ⟨a, b, e, h1.mono fun _ _ => RCapR.ext hf hb, h2.mono fun _ _ => RCapR.ext hf hb⟩
  | mp r =>
    have h0 : bs r ≠ .none := fun e => by simp [RC, e] at h
    have hx := hb r h0
    simp only [RC] at h ⊢
    cases h' : bs' r with
    | none => simp [h'] at hx
    | mapb kk' es' =>
      simp only [h'] at hx
      obtain ⟨⟨kk, es, e1⟩, e2⟩ := hx
      simp only [e1] at h
      simp only [h, e2]
    | mapi kk' b' m' st' =>
      simp only [h'] at hx
      obtain ⟨⟨kk, b, m, st, e1⟩, e2⟩ := hx
      simp only [e1] at h
      simp only [h, e2]
    | _ => trivial
  | rows r n =>
    have h0 : bs r ≠ .none := fun e => by simp [RC, e] at h
    have hx := hb r h0
    simp only [RC] at h ⊢
    cases h' : bs' r with
    | none => simp [h'] at hx
    | vars cs' =>
      simp only [h'] at hx
      obtain ⟨⟨cs, e1 | ⟨t, e1⟩⟩, e2⟩ := hx
      · simp only [e1] at h
        simp only [h, e2]
      · simp only [e1] at h
    | tvars t cs' =>
      simp only [h'] at hx
      obtain ⟨⟨cs, e1⟩, e2⟩ := hx
      simp only [e1] at h
    | _ => trivial
  | ch r =>
    have h0 : bs r ≠ .none := fun e => by simp [RC, e] at h
    have hx := hb r h0
    simp only [RC] at h ⊢
    cases h' : bs' r with
    | none => simp [h'] at hx
    | chan c b cl =>
      simp only [h'] at hx
      obtain ⟨⟨c2, b2, cl2, e1⟩, e2⟩ := hx
      simp only [e1] at h
      simp only [h, e2]
    | _ => trivial
  | junk => trivial

structure Sim (T : Nat → TI) (X : Ctx2) (s : St) (a : Act) (w : World) (E : Env) : Prop where
  defers : a.defers = X.df
  size : a.tmps.size = s.nt
  tm : ∀ d, RA s.bs w E (s.tm d) (a.tmps.getD d undef)
  bl : Blocks T s.bs w E
  own : ∀ r b, mblk s.bs E r = some b → (r < s.lo ∧ mblk X.bs0 X.E0 r = some b) ∨ X.w.heap.size ≤ b
  fr : Frame X.toCtx w E.F
  hist : BExt X.bs0 X.E0 s.bs E
  old : ∀ r, X.bs0 r ≠ .none → r < s.lo
  mo : ∀ r b, mblk X.bs0 X.E0 r = some b → X.M b


theorem RC1.ext {bs bs' : Nat → Blk} {w w' : World} {E E' : Env} (hf : FExt w E.F w' E'.F) (hb : BExt bs E bs' E') {c : Cell} {y : Value} (h : RC1 bs w E c y) : RC1 bs' w' E' c y := ⟨h.1.ext hf hb, h.2⟩
theorem RW.ext {bs bs' : Nat → Blk} {w w' : World} {E E' : Env} (hf : FExt w E.F w' E'.F) (hb : BExt bs E bs' E') {c : W1} {y : Value} (h : RW bs w E c y) : RW bs' w' E' c y := by
  cases c with
  | one c => exact ⟨RC.ext hf hb h.1, h.2⟩
  | agg cs =>
    obtain ⟨ar, e, h⟩ := h
    exact ⟨ar, e, h.mono fun _ _ => RC1.ext hf hb⟩
theorem RA.ext {bs bs' : Nat → Blk} {w w' : World} {E E' : Env} (hf : FExt w E.F w' E'.F) (hb : BExt bs E bs' E') {c : AV} {y : Value} (h : RA bs w E c y) : RA bs' w' E' c y := by
  cases c with
  | w x => exact RW.ext hf hb h
  | tup l =>
    obtain ⟨ar, e, h⟩ := h
    exact ⟨ar, e, h.mono fun _ _ => RW.ext hf hb⟩

/-- Where a block lies. -/
def bblk (b : Blk) (E : Env) (r : Nat) : Option Nat :=
  match b with
  | .vars _ => some (E.σ r)
  | .imm _ => some (E.σ r)
  | .vec _ _ _ => (E.sv r).ownBlock
  | .buf _ _ _ => (E.sv r).ownBlock
  | .mapb _ _ => some (E.σ r)
  | .mapi _ _ _ _ => some (E.σ r)
  | .iter _ _ => some (E.σ r)
  | .lock _ => some (E.σ r)
  | .tvars _ _ => some (E.σ r)
  | .chan _ _ _ => some (E.σ r)
  | _ => none
theorem mblk_bblk {bs : Nat → Blk} {E : Env} {r b : Nat} (h : mblk bs E r = some b) : bblk (bs r) E r = some b := by
  unfold mblk at h
  unfold bblk
  cases hq : bs r with
  | vec e xs fz => rw [hq] at h; cases fz <;> first | exact h | cases h
  | imm cs => rw [hq] at h; cases h
  | _ => rw [hq] at h; exact h
theorem RB.keep {T : Nat → TI} {bs bs' : Nat → Blk} {w w' : World} {E E' : Env} {r : Nat} {b : Blk} (h : RB T bs w E r b) (hf : FExt w E.F w' E'.F) (hb : BExt bs E bs' E')
    (hσ : E'.σ r = E.σ r) (hsv : E'.sv r = E.sv r) (hh : ∀ q, bblk b E r = some q → w'.heap[q]? = w.heap[q]?) : RB T bs' w' E' r b := by
  cases b with
  | none => trivial
  | dead => trivial
  | vars cs =>
    obtain ⟨ar, ty, h1, h2⟩ := h
    exact ⟨ar, ty, by rw [hσ, hh _ rfl]; exact h1, h2.mono fun _ _ => RC1.ext hf hb⟩
  | tvars t cs =>
    obtain ⟨ar, h1, h2⟩ := h
    exact ⟨ar, by rw [hσ, hh _ rfl]; exact h1, h2.mono fun _ _ => RC1.ext hf hb⟩
  | imm cs =>
    obtain ⟨h0, ar, ty, fr, h1, h2⟩ := h
    exact ⟨by rw [hσ]; exact hf.f _ h0, ar, ty, fr, by rw [hσ, hh _ rfl]; exact h1, h2.mono fun _ _ hq => ⟨hq.1.ext hf, hq.2⟩⟩
  | vec e xs fz =>
    obtain ⟨h1, h2, h3, ho, h5⟩ := h
    unfold RB
    rw [hsv]
    refine ⟨h1, h2, h3, ⟨ho.1, ?_⟩, fun hz b hb => hf.f _ (h5 hz b hb)⟩
    rcases ho.2 with hv | ⟨g, cap, cur, q1, q2, q3, q4⟩
    · exact .inl hv
    · exact .inr ⟨g, cap, cur, q1, q2, by rw [hh g (by simp [bblk, q1, Value.ownBlock])]; exact q3, q4⟩
  | buf e n0 ys =>
    obtain ⟨h1, h2, h3, h4, h5⟩ := h
    unfold RB
    rw [hsv]
    refine ⟨h1, h2, h3, h4, ?_⟩
    rcases h5 with hv | ⟨g, cur, q0, q1, q2⟩
    · exact .inl hv
    · exact .inr ⟨g, cur, q0, by rw [hh g (by simp [bblk, q0, Value.ownBlock])]; exact q1, q2⟩
  | mapb kk es =>
    obtain ⟨ms, clock, h1, h2, h3⟩ := h
    exact ⟨ms, clock, by rw [hσ, hh _ rfl]; exact h1, h2.mono fun _ _ q => ⟨q.1, q.2.1, q.2.2.ext hf hb⟩, h3⟩
  | mapi kk isB m st =>
    obtain ⟨ms, clock, h1, h2⟩ := h
    exact ⟨ms, clock, by rw [hσ, hh _ rfl]; exact h1, h2⟩
  | iter l p =>
    show w'.heap[E'.σ r]? = _
    rw [hσ, hh _ rfl]; exact h
  | lock D =>
    show E'.σ r = D ∧ w'.heap[E'.σ r]? = _
    rw [hσ, hh _ rfl]; exact h
  | chan c b cl =>
    obtain ⟨h1, sn, rc, h2⟩ := h
    exact ⟨h1, sn, rc, by rw [hσ, hh _ rfl]; exact h2⟩
/-- Two blocks that may be written, or one that is fixed, lie apart. -/
theorem Blocks.disj {T : Nat → TI} {bs : Nat → Blk} {w : World} {E : Env} (h : Blocks T bs w E) {q r g : Nat} (e : q ≠ r) (hr : mblk bs E r = some g) (hq : bblk (bs q) E q = some g) : False := by
  by_cases hm : mblk bs E q = some g
  · exact e (h.inj q r g hm hr)
  · have hF : E.F g := by
      have hB := h.blk q
      cases hb : bs q with
      | imm cs => rw [hb] at hB hq; cases hq; exact hB.1
      | vec e xs fz =>
        rw [hb] at hB hq
        cases fz with
        | true => exact hB.2.2.2.2 rfl g hq
        | false => exact absurd (by simp only [mblk, hb]; exact hq) hm
      | buf e n ys => rw [hb] at hq; exact absurd (by simp only [mblk, hb]; exact hq) hm
      | vars cs => rw [hb] at hq; exact absurd (by simp only [mblk, hb]; exact hq) hm
      | tvars t cs => rw [hb] at hq; exact absurd (by simp only [mblk, hb]; exact hq) hm
      | mapb kk es => rw [hb] at hq; exact absurd (by simp only [mblk, hb]; exact hq) hm
      | mapi kk b m st => rw [hb] at hq; exact absurd (by simp only [mblk, hb]; exact hq) hm
      | iter l p => rw [hb] at hq; exact absurd (by simp only [mblk, hb]; exact hq) hm
      | lock D => rw [hb] at hq; exact absurd (by simp only [mblk, hb]; exact hq) hm
      | chan c b cl => rw [hb] at hq; exact absurd (by simp only [mblk, hb]; exact hq) hm
      | none => rw [hb] at hq; cases hq
      | dead => rw [hb] at hq; cases hq
    exact (h.mt r g hr).1 hF
end Go.Fw
/- One operation: the steps that a state takes. -/
namespace Go.Fw
open Go Go.RowKit

theorem upd_same {α : Type} (f : Nat → α) (d : Nat) (v : α) : upd f d v d = v := by simp [upd]
theorem upd_ne {α : Type} (f : Nat → α) {d n : Nat} (v : α) (h : n ≠ d) : upd f d v n = f n := by
  have : Nat.beq n d = false := by
    cases hq : Nat.beq n d
    · rfl
    · exact absurd (Nat.eq_of_beq_eq_true hq) h
  simp [upd, this]

theorem put_tm_eq (s : St) (d : Nat) (v : AV) : (s.put (some d) v).tm = bif Nat.blt d s.nt then upd s.tm d v else s.tm := by
  funext n
  simp only [St.put]
  cases h : Nat.blt d s.nt
  · cases h2 : Nat.beq n d <;> rfl
  · rfl
theorem put_tm {s : St} {a : Act} {R : AV → Value → Prop} (hsz : a.tmps.size = s.nt) (h : ∀ d, R (s.tm d) (a.tmps.getD d undef)) {v : AV} {val : Value} (hv : R v val) (dst : Option Nat) :
    ∀ d, R ((s.put dst v).tm d) ((a.put dst val).tmps.getD d undef) := by
  intro d
  cases dst with
  | none => exact h d
  | some t =>
    rw [put_tm_eq]
    simp only [Act.put]
    by_cases hlt : t < s.nt
    · have hb : Nat.blt t s.nt = true := by simp [Nat.blt]; omega
      simp only [hb, cond_true]
      by_cases e : d = t
      · subst e
        rw [upd_same]
        have : (a.tmps.setIfInBounds d val).getD d undef = val := by simp [hsz, hlt]
        rw [this]; exact hv
      · rw [upd_ne _ _ e]
        have : (a.tmps.setIfInBounds t val).getD d undef = a.tmps.getD d undef := by
          simp [Array.getElem?_setIfInBounds_ne (Ne.symm e)]
        rw [this]; exact h d
    · have hb : Nat.blt t s.nt = false := by
        cases hq : Nat.blt t s.nt
        · rfl
        · simp [Nat.blt] at hq; omega
      simp only [hb, cond_false]
      have : a.tmps.setIfInBounds t val = a.tmps := by
        apply Array.ext'
        rw [Array.toList_setIfInBounds, List.set_eq_of_length_le]
        simp; omega
      rw [this]; exact h d

theorem put_size (a : Act) (dst : Option Nat) (v : Value) : (a.put dst v).tmps.size = a.tmps.size := by cases dst <;> simp [Act.put]
theorem put_defs (a : Act) (dst : Option Nat) (v : Value) : (a.put dst v).defers = a.defers := by cases dst <;> rfl

section
variable {T : Nat → TI} {X : Ctx2} {s : St} {a : Act} {w : World} {E : Env}

/-- The general step. -/
theorem Sim.step (hs : Sim T X s a w E) (dst : Option Nat) {v : AV} {val : Value} {bl : List (Nat × Blk)} {nx : Nat} {w' : World} {E' : Env}
    (hf : FExt w E.F w' E'.F) (hb : BExt s.bs E (updL s.bs bl) E') (hv : RA (updL s.bs bl) w' E' v val)
    (hbl : Blocks T (updL s.bs bl) w' E') (hown : ∀ r b, mblk (updL s.bs bl) E' r = some b → (r < s.lo ∧ mblk X.bs0 X.E0 r = some b) ∨ X.w.heap.size ≤ b)
    (hfr : Frame X.toCtx w' E'.F) : Sim T X (s.app dst ⟨v, bl, nx⟩) (a.put dst val) w' E' where
  defers := by rw [put_defs]; exact hs.defers
  size := by rw [put_size]; exact hs.size
  tm := put_tm (R := RA (updL s.bs bl) w' E') hs.size (fun d => (hs.tm d).ext hf hb) hv dst
  bl := hbl
  own := hown
  fr := hfr
  hist := hs.hist.trans hb
  old := hs.old
  mo := hs.mo

/-- A step that changes no memory. -/
theorem Sim.pure (hs : Sim T X s a w E) (dst : Option Nat) {v : AV} {val : Value} (hv : RA s.bs w E v val) : Sim T X (s.app dst ⟨v, [], s.nx⟩) (a.put dst val) w E :=
  hs.step dst (FExt.refl _ _) (BExt.refl _ _) hv hs.bl hs.own hs.fr

/-! ### Operands -/
theorem cellOf_ok (bs : Nat → Blk) (x : Value) (h : x.oneCell' = true) : RC1 bs w E (cellOf x) x := by
  refine ⟨?_, h⟩
  unfold cellOf
  split
  · rfl
  · trivial
  · trivial
  · rfl
theorem cellsOk_A2 (bs : Nat → Blk) : ∀ l : List Value, cellsOk l = true → A2 (RC1 bs w E) (l.map cellOf) l
  | [], _ => trivial
  | x :: l, h => by
    cases x <;> first
      | (simp [cellsOk] at h; done)
      | exact ⟨cellOf_ok bs _ rfl, cellsOk_A2 bs l (by simpa [cellsOk] using h)⟩
theorem ofVal_ok (bs : Nat → Blk) (x : Value) : RA bs w E (ofVal x) x := by
  cases x with
  | agg cs =>
    simp only [ofVal, w1Of]
    cases hc : cellsOk cs.toList
    · exact ⟨trivial, trivial⟩
    · exact ⟨cs, rfl, cellsOk_A2 bs _ hc⟩
  | tuple vs => exact ⟨trivial, trivial⟩
  | slice b n c =>
    refine ⟨(cellOf_ok bs (.slice b n c) rfl).1, ?_⟩
    split <;> first | trivial | rfl
  | _ => exact ⟨rfl, rfl⟩
theorem Sim.ev (hs : Sim T X s a w E) (x : Operand) : RA s.bs w E (s.ev x) (a.eval x) := by
  cases x with
  | tmp t => exact hs.tm t
  | const v => exact ofVal_ok _ v
  | global g => exact ⟨trivial, trivial⟩
  | func f => exact ⟨⟨#[], #[], rfl, trivial, trivial⟩, rfl⟩

theorem RA_val {bs : Nat → Blk} {x y : Value} (h : RA bs w E (.val x) y) : y = x := h.1
theorem RA_val_mk (bs : Nat → Blk) {x : Value} (h : x.oneCell' = true) : RA bs w E (.val x) x := ⟨rfl, h⟩
theorem RA_junk (bs : Nat → Blk) (x : Value) : RA bs w E .junk x := ⟨trivial, trivial⟩
theorem RA_sl {bs : Nat → Blk} {xs : List (List Value)} {y : Value} (h : RA bs w E (.sl xs) y) : RSl w E.F xs false y := h.1
theorem RSl_one {F : Nat → Prop} {xs : List (List Value)} {ex : Bool} {y : Value} (h : RSl w F xs ex y) : y.oneCell' = true := by
  obtain ⟨a, c, e, _⟩ := h; rw [e]; rfl
end

/-! ### The types' table -/
def tkOf (P : Program) (t : TypeId) : TK :=
  match P.underlying t with
  | some (.int k) => .int k
  | some .bool => .bool
  | some .string => .str
  | some (.slice e) => .slice e
  | some (.array n e) => .arr n e
  | some (.struct fs) => .struct (fs.toList.map fun f => (f.offset, ((P.info? f.type).map (·.size)).getD 0, f.type))
  | some (.map k e) => .map k e
  | some (.func ..) => .func
  | some (.interface _) => .iface
  | some (.pointer e) => .ptr e
  | some (.chan _ e) => .chan e
  | _ => .other
/-- '==' of two structs is that of their fields. -/
def EqOK (P : Program) (t : TypeId) (zero : Value) : Prop :=
  ∀ (w : World) (xs ys : Array Value) (b : Bool), shapeVs zero.cells.toList xs.toList = true → shapeVs zero.cells.toList ys.toList = true → eqVs xs.toList ys.toList = some b →
    (binOp .eql t (.agg xs) (.agg ys)).run P w = .ok (.bool b) w ∧ (binOp .neq t (.agg xs) (.agg ys)).run P w = .ok (.bool (!b)) w ∧
    ∀ op x y, (eqGuard op t x y (.agg xs) (.agg ys)).run P w = .ok () w
def TOK (P : Program) (T : Nat → TI) : Prop :=
  ∀ t, (T t).k ≠ .other → tkOf P t = (T t).k ∧ (P.info? t).map (fun i => (i.size, i.bytes, i.zero)) = some ((T t).size, (T t).bytes, some (T t).zero) ∧ cellsOk (T t).zero.cells.toList = true ∧ (T t).zero.cells.toList.length = (T t).size ∧ ((T t).eq = true → EqOK P t (T t).zero) ∧
    ((T t).ov ≠ 0 → ∃ r, ∀ vs w, (callFunc ((T t).ov - 1) vs).run P w = (do let v ← Extern.SlicesOverlaps.overlaps #[t, t] #[r] vs; pure (.value v) : Sem Next).run P w)

section
variable {P : Program} {T : Nat → TI} (ht : TOK P T)
include ht
theorem TOK.info {t : Nat} (h : (T t).k ≠ .other) : ∃ i, P.info? t = some i ∧ i.size = (T t).size ∧ i.zero = some (T t).zero := by
  have := (ht t h).2.1
  cases hi : P.info? t with
  | none => simp [hi] at this
  | some i => simp [hi] at this; exact ⟨i, rfl, this.1, this.2.2⟩
theorem TOK.info2 {t : Nat} (h : (T t).k ≠ .other) : ∃ i, P.info? t = some i ∧ i.size = (T t).size ∧ i.bytes = (T t).bytes ∧ i.zero = some (T t).zero := by
  have := (ht t h).2.1
  cases hi : P.info? t with
  | none => simp [hi] at this
  | some i => simp [hi] at this; exact ⟨i, rfl, this.1, this.2.1, this.2.2⟩
theorem TOK.und {t : Nat} (h : (T t).k ≠ .other) : ∃ d, P.underlying t = some d := by
  have := (ht t h).1
  cases hd : P.underlying t with
  | none => simp only [tkOf, hd] at this; exact absurd this.symm h
  | some d => exact ⟨d, rfl⟩
theorem TOK.sizeOf {t : Nat} (h : (T t).k ≠ .other) (w : World) : (sizeOf t).run P w = .ok (T t).size w := by
  obtain ⟨i, hi, hs, _⟩ := ht.info h
  simp [Go.sizeOf, typeInfo, hi, hs]
theorem TOK.zero {t : Nat} (h : (T t).k ≠ .other) (w : World) : (zeroValue t).run P w = .ok (T t).zero w := by
  obtain ⟨i, hi, _, hz⟩ := ht.info h
  simp [zeroValue, typeInfo, hi, hz]
theorem TOK.struct {t : Nat} {fs : List (Nat × Nat × Nat)} (h : (T t).k = .struct fs) :
    ∃ fields, P.underlying t = some (.struct fields) ∧ fields.toList.map (fun f => (f.offset, ((P.info? f.type).map (·.size)).getD 0, f.type)) = fs := by
  have := (ht t (by rw [h]; simp)).1
  rw [h] at this
  unfold tkOf at this
  split at this <;> simp_all
theorem TOK.arr {t n e : Nat} (h : (T t).k = .arr n e) : P.underlying t = some (.array n e) := by
  have := (ht t (by rw [h]; simp)).1
  rw [h] at this
  unfold tkOf at this
  split at this <;> simp_all
theorem TOK.slice {t e : Nat} (h : (T t).k = .slice e) : P.underlying t = some (.slice e) := by
  have := (ht t (by rw [h]; simp)).1
  rw [h] at this
  unfold tkOf at this
  split at this <;> simp_all
theorem TOK.str {t : Nat} (h : (T t).k = .str) : P.underlying t = some .string := by
  have := (ht t (by rw [h]; simp)).1
  rw [h] at this
  unfold tkOf at this
  split at this <;> simp_all
theorem TOK.int {t : Nat} {k : IntKind} (h : (T t).k = .int k) : P.underlying t = some (.int k) := by
  have := (ht t (by rw [h]; simp)).1
  rw [h] at this
  unfold tkOf at this
  split at this <;> simp_all
/-- Is it a struct or an array? -/
def aggK : TK → Bool
  | .struct _ | .arr _ _ => true
  | _ => false
theorem TOK.isAgg {t : Nat} (h : (T t).k ≠ .other) (w : World) : (Go.isAgg t).run P w = .ok (aggK (T t).k) w := by
  obtain ⟨d, hd⟩ := ht.und h
  have h1 := (ht t h).1
  unfold Go.isAgg
  rw [Sem.run_bind, run_underlying hd w]
  simp only [tkOf, hd] at h1
  rw [← h1]
  cases d <;> simp [aggK]
end
end Go.Fw
