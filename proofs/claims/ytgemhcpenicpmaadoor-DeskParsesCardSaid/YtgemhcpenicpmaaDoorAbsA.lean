/- Part 1 of Abs: what our evaluation of a function's code says, the machine's run does; no condition of its own. -/
import GoSem.Step
import Derived.KernelRfl
import Derived.Lib.Bytealg
import Derived.Calls
import Derived.Laws.Sem
import Derived.Laws.Cells
import Derived.Laws.IdiomCopy
import GoSem.Dispatch
import Derived.Deep.AppendSrc
import Derived.Laws.BytesString
import Derived.Laws.Append
import Derived.Deep.Upon
import Derived.Laws.MakeOwn
set_option linter.unusedVariables false
set_option linter.unusedSimpArgs false
set_option linter.unusedSectionVars false
namespace Go.Abs
open Go

/-- A value of the plain machine. `ro`: a slice by its rows, in memory that nobody writes any more. `own`, `vsl`: slices of an array, of a variable of the call's own.
`ptr`, `eptr`, `rptr`: a cell of a variable, of an array's row, of memory that nobody writes. `fr`, `pv`: at a call's border alone: a new slice, a variable behind a pointer. -/
inductive AV where
  | int (k : IntKind) (n : Int)
  | bool (b : Bool)
  | str (s : ByteArray)
  | agg (cs : List AV)
  | tup (vs : List AV)
  | nilS | emp | nilP | nilF | nilM
  /-- interfaces: nil, and one that holds something -/
  | nilI | ifc
  | ro (lent : Bool) (sz : Nat) (rows : List (List AV))
  | own (nm g off len : Nat)
  | vsl (nm g off len : Nat)
  | ptr (nm g off : Nat)
  | eptr (nm g i off : Nat)
  | rptr (cells : List AV)
  | fn (f : Nat) (cap : List AV)
  | bm (f : Nat) (fst : List AV)
  | fr (sz : Nat) (rows : List (List AV))
  | pv (cells : List AV)
  | opq (k : Nat)
  | yld (nm g : Nat)
  | mp (nm g : Nat)
  deriving Inhabited

inductive Ex where
  | normal | exit (id : Nat) | ret
  deriving DecidableEq
/-- the record of a loop over a function: between rounds, in a round, left by a round -/
inductive RecSt where
  | ready | busy | done (ex : Ex)
  deriving DecidableEq

inductive Blk where
  | var (cells : List AV)
  | arr (sz : Nat) (rows : List (List AV)) (fz : Bool)
  | gone
  | lp (st : RecSt)
  /-- a map: each entry its value, then its key's cells -/
  | mpb (rows : List (List AV))
  deriving Inhabited

structure Ent where
  nm : Nat
  g : Nat
  b : Blk

abbrev AH := List Ent

def AH.get : AH → Nat → Nat → Option Blk
  | [], _, _ => none
  | e :: r, nm, g => if Nat.beq e.nm nm then (if Nat.beq e.g g then some e.b else none) else AH.get r nm g

def AH.put : AH → Nat → Nat → Blk → AH
  | [], nm, g, b => [⟨nm, g, b⟩]
  | e :: r, nm, g, b => if Nat.beq e.nm nm then ⟨nm, g, b⟩ :: r else if Nat.blt nm e.nm then ⟨nm, g, b⟩ :: e :: r else e :: AH.put r nm g b

/-- the heap without some names -/
def AH.hide (ns : List Nat) : AH → AH
  | [] => []
  | e :: r => if ns.any (Nat.beq e.nm) then AH.hide ns r else e :: AH.hide ns r
def AH.only (ns : List Nat) : AH → AH
  | [] => []
  | e :: r => if ns.any (Nat.beq e.nm) then e :: AH.only ns r else AH.only ns r
/-- two heaps with different names as one -/
def AH.join : AH → AH → AH
  | [], h => h
  | e :: r, h => (AH.join r h).put e.nm e.g e.b

abbrev Env := List (Nat × AV)
def envGet : Env → Nat → Option AV
  | [], _ => none
  | (m, v) :: r, n => if Nat.beq m n then some v else envGet r n
def envSet : Env → Nat → AV → Env
  | [], n, v => [(n, v)]
  | (m, u) :: r, n, v => if Nat.beq m n then (n, v) :: r else if Nat.blt n m then (n, v) :: (m, u) :: r else (m, u) :: envSet r n v
def envDel : Env → Nat → Env
  | [], _ => []
  | (m, u) :: r, n => if Nat.beq m n then envDel r n else (m, u) :: envDel r n
def envOnly (ns : List Nat) : Env → Env
  | [] => []
  | (m, u) :: r => if ns.any (Nat.beq m) then (m, u) :: envOnly ns r else envOnly ns r

structure St where
  env : Env
  h : AH
  c : Nat

inductive X where
  | t (n : Nat)
  | c (v : AV)
  | g (n : Nat)

/-- what the package-level variables hold that the code reads: plain cells, which nobody writes -/
class Globs where
  gl : List (Nat × List AV)
def Globs.find : List (Nat × List AV) → Nat → Option (List AV)
  | [], _ => none
  | (m, cs) :: r, n => if Nat.beq m n then some cs else Globs.find r n
variable [Globs]
def Globs.look (n : Nat) : Option (List AV) := Globs.find Globs.gl n

/-- An operation, its types looked up: sizes in cells, zero values as cells. `nm`: the name of what it makes. -/
inductive AOp where
  | mov (x : X)
  | pick (c a b : X)
  | alloc (nm : Nat) (z : List AV)
  | box (nm : Nat) (x : X)
  | build (z : List AV) (parts : List (Nat × Nat × X))
  | bslice (nm : Nat) (sz : Nat) (z : List AV) (len : Nat) (parts : List (Nat × X))
  /-- a slice literal of values of one cell, kept as a variable of the call's own -/
  | bslv (nm : Nat) (z : AV) (len : Nat) (parts : List (Nat × X))
  | load (n : Option Nat) (a : X)
  | store (n : Nat) (a v : X)
  | nilck (x : X)
  | bin (op : BinOp) (x y : X)
  | isnil (neg : Bool) (kd : Nat) (x : X)
  | eqa (neg : Bool) (ks : List Nat) (x y : X)
  | eqb (neg : Bool) (x y : X)
  | un (op : UnOp) (x : X)
  | conv (k : IntKind) (x : X)
  | sts (x : X)
  | idc (x : X)
  | b2s (x : X)
  | s2b (nm : Nat) (x : X)
  | mks (nm : Nat) (sz bytes : Nat) (z : List AV) (l c : X)
  | slc (sz : Nat) (x : X) (lo hi mx : Option X)
  | slcS (x : X) (lo hi : Option X)
  | slca (n : Nat) (x : X) (lo hi : Option X)
  | fad (off : Nat) (x : X)
  | fld (off : Nat) (n : Option Nat) (x : X)
  | iad (sz : Nat) (x i : X)
  | iada (len sz : Nat) (x i : X)
  | idx (len sz : Nat) (n : Option Nat) (x i : X)
  | idxs (x i : X)
  | ext (i : Nat) (x : X)
  | call (nm : Nat) (f : Nat) (args : List X)
  | inl (f : Nat) (args : List X)
  | callm (nm : Nat) (f : Nat) (args : List X) (mv : List Bool)
  | callv (nm : Nat) (x : X) (args : List X)
  /-- a closure that runs in the caller's memory -/
  | inlv (x : X) (args : List X)
  | len (x : X)
  | lenS (x : X)
  | lenc (n : Nat)
  | app (nm : Nat) (sz bytes : Nat) (s x : X)
  | cpy (sz : Nat) (d s : X)
  | mkf (f : Nat) (caps : List X)
  | mkb (f : Nat) (fst : List X)
  | xib (f : Nat) (s c : X)
  | mm (mx : Bool) (xs : List X)
  | bemp (sz : Nat)
  | mkm (nm : Nat)
  | mset (kk : List Nat) (x k v : X)
  | mget (kk : List Nat) (z : AV) (x k : X)
  /-- a slice of the call's own, made to lie still for ever -/
  | frz (x : X)

structure AOper where
  dst : Option Nat
  op : AOp
  guard : Option (Nat × Bool) := none
  /-- in a region that draws: the slots that it reads, the names that it touches -/
  rs : List Nat := []
  tn : List Nat := []
  /-- of these the names that it may change -/
  wn : List Nat := []
  /-- the operations that stand ahead of it whatever the order -/
  an : List Nat := []
  /-- names that its result may mention, if it leaves the memory as it is -/
  mn : List Nat := []

inductive AC where
  | skip
  | reg (draw : Bool) (ops : List AOper)
  | seq (a b : AC)
  | cond (c : X) (a b : AC)
  | block (id : Nat) (b : AC)
  | loop (keepT keepH : List Nat) (b : AC)
  | keep (keepT keepH : List Nat) (b : AC)
  | exit (id : Nat)
  | ret
  | rfun (nm : Nat) (x : X) (ps kt : List Nat) (assign body : AC)

def Env.x (env : Env) : X → Option AV
  | .t n => envGet env n
  | .c v => some v
  | .g n => (Globs.look n).map AV.rptr

/-- What a function does: of what comes in, what comes out, and what then lies behind each pointer that came in. -/
abbrev CallF := List AV → Option (AV × List (List AV))
/-- What a function does when it runs in the caller's memory: of the memory, the next generation, the arguments. -/
abbrev InlF := AH → Nat → List AV → Option (AV × AH × Nat)
/-- call: as a function of its own; inl: in the caller's memory; itr: an iterator in the caller's memory, by the name of its yield and what that does; yl: a yield -/
structure FnF where
  call : CallF
  inl : InlF
  itr : Nat → InlF → InlF
  yl : InlF
/-- where a loop's yield stands among the functions -/
def ykey (nm : Nat) : Nat := nm + 1000000000
def InlF.none : InlF := fun _ _ _ => Option.none
def CallF.none : CallF := fun _ => Option.none
def FnF.yield (Y : InlF) : FnF := ⟨CallF.none, InlF.none, fun _ _ => InlF.none, Y⟩
def withY (Φ : Nat → Option FnF) (nm : Nat) (Y : InlF) : Nat → Option FnF := fun f => if Nat.beq f (ykey nm) then some (FnF.yield Y) else Φ f


def AH.del (nm : Nat) : AH → AH
  | [] => []
  | e :: r => if Nat.beq e.nm nm then AH.del nm r else e :: AH.del nm r

/-- values that go over a call's border as they are: no names in them -/
def AV.bare : AV → Bool
  | .int .. | .bool _ | .str _ | .nilS | .emp | .ro _ _ _ | .nilP | .nilF | .nilM | .nilI | .ifc => true
  | .fn _ [] => true
  | _ => false

end Go.Abs

namespace Go.Abs
variable [Globs]
open Go

def abits (op : BinOp) (k : IntKind) (x y : Int) : Option AV :=
  match op with
  | .and => some (.int k (k.wrap (BitVec.ofInt k.bits x &&& BitVec.ofInt k.bits y).toNat))
  | .or => some (.int k (k.wrap (BitVec.ofInt k.bits x ||| BitVec.ofInt k.bits y).toNat))
  | .xor => some (.int k (k.wrap (BitVec.ofInt k.bits x ^^^ BitVec.ofInt k.bits y).toNat))
  | .andNot => some (.int k (k.wrap (BitVec.ofInt k.bits x &&& ~~~BitVec.ofInt k.bits y).toNat))
  | _ => none

def aint (op : BinOp) (k : IntKind) (x y : Int) : Option AV :=
  match op with
  | .add => some (.int k (k.wrap (x + y)))
  | .sub => some (.int k (k.wrap (x - y)))
  | .mul => some (.int k (k.wrap (x * y)))
  | .quo => if y = 0 then none else some (.int k (k.wrap (x.tdiv y)))
  | .rem => if y = 0 then none else some (.int k (x.tmod y))
  | .eql => some (.bool (x == y))
  | .neq => some (.bool (x != y))
  | .lss => some (.bool (x < y))
  | .leq => some (.bool (x ≤ y))
  | .gtr => some (.bool (x > y))
  | .geq => some (.bool (x ≥ y))
  | op => abits op k x y

def ashift (op : BinOp) (k : IntKind) (x : Int) (y : Int) : Option AV :=
  if y < 0 then none else
  match op with
  | .shl => some (.int k (k.wrap (x * 2 ^ (min y.toNat k.bits))))
  | .shr => some (.int k (x.fdiv (2 ^ (min y.toNat k.bits))))
  | _ => none

def astr (op : BinOp) (x y : ByteArray) : Option AV :=
  match op with
  | .add => if ((x.size + y.size : Nat) : Int) > IntKind.i64.max then none else some (.str (x ++ y))
  | .eql => some (.bool (x.toList == y.toList))
  | .neq => some (.bool !(x.toList == y.toList))
  | .lss => some (.bool (Op.bytesLess x.toList y.toList))
  | .leq => some (.bool (Op.bytesLess x.toList y.toList || x.toList == y.toList))
  | .gtr => some (.bool !(Op.bytesLess x.toList y.toList || x.toList == y.toList))
  | .geq => some (.bool !(Op.bytesLess x.toList y.toList))
  | _ => none

/-- equality of cells: whole numbers (0), bools (1), strings (2) -/
def aeq1 : Nat → AV → AV → Option Bool
  | 0, .int k a, .int k' b => if k = k' then some (a == b) else none
  | 1, .bool a, .bool b => some (a == b)
  | 2, .str a, .str b => some (a.toList == b.toList)
  | _, _, _ => none
def aeqCells : List Nat → List AV → List AV → Option Bool
  | [], [], [] => some true
  | k :: ks, a :: x, b :: y => match aeq1 k a b with
    | some true => aeqCells ks x y
    | r => r
  | _, _, _ => none

def aisNil : Nat → AV → Option Bool
  | 0, .nilS => some true
  | 0, .emp | 0, .ro _ _ _ | 0, .own .. | 0, .vsl .. => some false
  | 1, .nilP => some true
  | 1, .ptr .. | 1, .eptr .. | 1, .rptr _ => some false
  | 2, .nilF => some true
  | 2, .fn .. => some false
  | 2, .bm .. => some false
  | 3, .nilM => some true
  | 4, .nilI => some true
  | 4, .ifc => some false
  | _, _ => none

def abin (op : BinOp) (x y : AV) : Option AV :=
  match x, y with
  | .int k a, .int k' b => match op with
    | .shl => ashift .shl k a b
    | .shr => ashift .shr k a b
    | op => if k = k' then aint op k a b else none
  | .str a, .str b => astr op a b
  | _, _ => none

def aun (op : UnOp) (x : AV) : Option AV :=
  match op, x with
  | .neg, .int k n => some (.int k (k.wrap (0 - n)))
  | .xor, .int k n => abits .xor k (if k.signed then -1 else k.max) n
  | .not, .bool b => some (.bool !b)
  | _, _ => none

def AV.cells : AV → List AV
  | .agg cs => cs
  | v => [v]

def toBytes : List (List AV) → Option (List UInt8)
  | [] => some []
  | [.int .u8 n] :: r => (toBytes r).map (UInt8.ofNat n.toNat :: ·)
  | _ => none

def byteRows (l : List UInt8) : List (List AV) := l.map fun b => [.int .u8 b.toNat]

/-- values that may lie in an array's rows: no names in them -/
def AV.plain : AV → Bool
  | .int .. | .bool _ | .str _ | .nilS | .emp | .ro false _ _ | .nilP | .nilF | .nilM | .nilI | .ifc => true
  | _ => false
/-- the rows that a slice shows, each of sz cells -/
def rowsOf (h : AH) (sz : Nat) : AV → Option (List (List AV))
  | .nilS => some []
  | .emp => some []
  | .ro _ s rows => if s = sz then some rows else none
  | .own nm g off len => match h.get nm g with
    | some (.arr s rows _) => if s = sz ∧ off + len ≤ rows.length then some ((rows.drop off).take len) else none
    | _ => none
  | .vsl nm g off len => match h.get nm g with
    | some (.var cells) => if sz = 1 ∧ off + len ≤ cells.length ∧ ((cells.drop off).take len).all AV.plain then some (((cells.drop off).take len).map fun c => [c]) else none
    | _ => none
  | _ => none

/-- values that may lie in a cell -/
def AV.cellb : AV → Bool
  | .agg _ | .tup _ | .fr _ _ | .pv _ => false
  | _ => true

/-- may all of them lie in cells? -/
def cellsOK (l : List AV) : Bool := l.all AV.cellb
/-- a slice of an array of the call's own, made to lie still for ever -/
def freeze1 (h : AH) : AV → Option (AV × AH)
  | .own nm g off len => match h.get nm g with
    | some (.arr sz rows _) => if off + len ≤ rows.length then some (.ro false sz ((rows.drop off).take len), h.put nm g (.arr sz rows true)) else none
    | _ => none
  | v => if v.plain then some (v, h) else none
def freezeL (h : AH) : List AV → Option (List AV × AH)
  | [] => some ([], h)
  | v :: r => (freeze1 h v).bind fun p => (freezeL p.2 r).map fun q => (p.1 :: q.1, q.2)

def splice (cs : List AV) (off : Nat) (ps : List AV) : List AV := cs.take off ++ (ps ++ cs.drop (off + ps.length))

/-- cells from an address on -/
def cellsAt (h : AH) : AV → Option (List AV)
  | .ptr nm g off => match h.get nm g with
    | some (.var cs) => some (cs.drop off)
    | _ => none
  | .eptr nm g i off => match h.get nm g with
    | some (.arr _ rows _) => (rows[i]?).map fun r => r.drop off
    | _ => none
  | .rptr cs => some cs
  | _ => none

def part (cs : List AV) : Option Nat → Option AV
  | some n => if n ≤ cs.length then some (.agg (cs.take n)) else none
  | none => cs.head?

def astore (h : AH) (a : AV) (vs : List AV) : Option AH :=
  match a with
  | .ptr nm g off => match h.get nm g with
    | some (.var cs) => if off + vs.length ≤ cs.length ∧ cellsOK vs then some (h.put nm g (.var (splice cs off vs))) else none
    | _ => none
  | .eptr nm g i off => (freezeL h vs).bind fun p => match p.2.get nm g with
    | some (.arr sz rows false) => match rows[i]? with
      | some r => if off + p.1.length ≤ r.length then some (p.2.put nm g (.arr sz (rows.set i (splice r off p.1)) false)) else none
      | none => none
    | _ => none
  | _ => none

def fillParts (env : Env) (cs : List AV) : List (Nat × Nat × X) → Option (List AV)
  | [] => some cs
  | (off, sz, x) :: r => (env.x x).bind fun v => if v.cells.length = sz ∧ off + sz ≤ cs.length then fillParts env (splice cs off v.cells) r else none

/-- rows out of a literal's parts -/
def fillRows (env : Env) (h : AH) (rows : List (List AV)) : List (Nat × X) → Option (List (List AV) × AH)
  | [] => some (rows, h)
  | (i, x) :: r => (env.x x).bind fun v => (freezeL h v.cells).bind fun p =>
      match rows[i]? with
      | some row => if p.1.length = row.length then fillRows env p.2 (rows.set i p.1) r else none
      | none => none

/-- cells out of a literal's parts, each a value of one cell -/
def fillCells (env : Env) (cs : List AV) : List (Nat × X) → Option (List AV)
  | [] => some cs
  | (i, x) :: r => (env.x x).bind fun v => if v.cellb = true ∧ i < cs.length then fillCells env (cs.set i v) r else none

def bound (y : Nat) : Option AV → Nat → Option Nat
  | none, d => some d
  | some (.int _ n), _ => if 0 ≤ n ∧ n ≤ y then some n.toNat else none
  | some _, _ => none

def xopt (env : Env) : Option X → Option (Option AV)
  | none => some none
  | some x => (env.x x).map some

/-- x[lo:hi] of a slice -/
def aslice (h : AH) (sz : Nat) (x : AV) (lo hi : Option AV) : Option AV :=
  match x with
  | .nilS => (bound 0 hi 0).bind fun h' => (bound h' lo 0).map fun _ => .nilS
  | .emp => (bound 0 hi 0).bind fun h' => (bound h' lo 0).map fun _ => .emp
  | .ro t s rows => if s = sz then (bound rows.length hi rows.length).bind fun h' => (bound h' lo 0).map fun l => .ro t s ((rows.take h').drop l) else none
  | .own nm g off len => match h.get nm g with
    | some (.arr s rows _) => if s = sz then (bound (rows.length - off) hi len).bind fun h' => (bound h' lo 0).bind fun l => if off + h' ≤ rows.length then some (.own nm g (off + l) (h' - l)) else none else none
    | _ => none
  | .vsl nm g off len => match h.get nm g with
    | some (.var cs) => if sz = 1 then (bound (cs.length - off) hi len).bind fun h' => (bound h' lo 0).bind fun l => if off + h' ≤ cs.length then some (.vsl nm g (off + l) (h' - l)) else none else none
    | _ => none
  | _ => none

/-- s[:0:0], as slices.Clone says it -/
def acut00 (x : AV) (lo hi mx : Option AV) : Option AV :=
  match lo, hi, mx with
  | none, some (.int _ h), some (.int _ m) => if h = 0 ∧ m = 0 then (match x with | .nilS => some .nilS | .emp | .ro _ _ _ | .own .. | .vsl .. => some .emp | _ => none) else none
  | _, _, _ => none

def alen (v : AV) : Option Nat :=
  match v with
  | .nilS => some 0
  | .emp => some 0
  | .ro _ _ rows => some rows.length
  | .own _ _ _ len => some len
  | .vsl _ _ _ len => some len
  | _ => none

/-- what is appended or copied: rows -/
def srcRows (h : AH) (sz : Nat) (x : AV) : Option (List (List AV)) :=
  match x with
  | .str s => if sz = 1 then some (byteRows s.data.toList) else none
  | v => rowsOf h sz v

def maxBytes : Nat := 17592186044416   -- 2^44

def aappend (h : AH) (c : Nat) (nm sz bytes : Nat) (s : AV) (rows : List (List AV)) : Option (AV × AH × Nat) :=
  match s with
  | .nilS => match rows with
    | [] => some (.nilS, h, c)
    | r :: rs => if (rs.length + 1) * bytes ≤ maxBytes then some (.own nm c 0 (rs.length + 1), h.put nm c (.arr sz (r :: rs) false), c + 1) else none
  | .emp => match rows with
    | [] => some (.emp, h, c)
    | r :: rs => if (rs.length + 1) * bytes ≤ maxBytes then some (.own nm c 0 (rs.length + 1), h.put nm c (.arr sz (r :: rs) false), c + 1) else none
  | .own n g off len => match h.get n g with
    | some (.arr z old false) =>
      if z = sz ∧ off + len ≤ old.length ∧ (len + rows.length) * bytes ≤ maxBytes then
        if off + len + rows.length ≤ old.length then
          some (.own n c off (len + rows.length), h.put n c (.arr sz (old.take (off + len) ++ (rows ++ old.drop (off + len + rows.length))) false), c + 1)
        else some (.own n c 0 (len + rows.length), h.put n c (.arr sz (((old.drop off).take len) ++ rows) false), c + 1)
      else none
    | _ => none
  | _ => none

def acopy (h : AH) (sz : Nat) (d : AV) (rows : List (List AV)) : Option (AV × AH) :=
  match d with
  | .nilS => some (.int .i64 0, h)
  | .emp => some (.int .i64 0, h)
  | .own nm g off len => match h.get nm g with
    | some (.arr z old false) =>
      if z = sz ∧ off + min rows.length len ≤ old.length then
        some (.int .i64 (min rows.length len : Nat), h.put nm g (.arr sz (old.take off ++ (rows.take (min rows.length len) ++ old.drop (off + min rows.length len))) false)) else none
    | _ => none
  | .vsl nm g off len => match h.get nm g with
    | some (.var cs) =>
      if sz = 1 ∧ off + min rows.length len ≤ cs.length then some (.int .i64 (min rows.length len : Nat), h.put nm g (.var (splice cs off (rows.take (min rows.length len)).flatten))) else none
    | _ => none
  | _ => none

/- ---------------------------------------------------------------- calls -/
/-- one cell of a variable that goes to a callee behind its pointer: an array of the call's own goes with it -/
def mvCell (h : AH) : AV → Option (AV × AH)
  | .own nm g off len => match h.get nm g with
    | some (.arr sz rows false) => if off + len ≤ rows.length then some (.fr sz ((rows.drop off).take len), h.del nm) else none
    | _ => none
  | v => if v.plain then some (v, h) else none
def mvCells (h : AH) : List AV → Option (List AV × AH)
  | [] => some ([], h)
  | v :: r => (mvCell h v).bind fun p => (mvCells p.2 r).map fun q => (p.1 :: q.1, q.2)
/-- an argument: what lies behind a pointer goes along. Told too: the variables that went. -/
def mvArgs (h : AH) : List AV → List Bool → Option (List AV × AH × List (Nat × Nat × Nat))
  | [], _ => some ([], h, [])
  | .ptr nm g off :: r, mv => match h.get nm g with
    | some (.var cells) => if off = 0 then (mvCells (h.put nm g .gone) cells).bind fun p => (mvArgs p.2 r mv.tail).map fun q => (.pv p.1 :: q.1, q.2.1, (nm, g, cells.length) :: q.2.2) else none
    | _ => none
  | .own nm g off len :: r, true :: mv => (mvCell h (.own nm g off len)).bind fun p => (mvArgs p.2 r mv).map fun q => (p.1 :: q.1, q.2.1, q.2.2)
  | v :: r, mv => (mvArgs h r mv.tail).map fun q => (v :: q.1, q.2.1, q.2.2)
/-- lent: slices of the call's own as rows -/
def lendCell (h : AH) : AV → Option AV
  | .own nm g off len => match h.get nm g with
    | some (.arr sz rows _) => if off + len ≤ rows.length then some (.ro true sz ((rows.drop off).take len)) else none
    | _ => none
  | .vsl nm g off len => match h.get nm g with
    | some (.var cells) => if off + len ≤ cells.length ∧ ((cells.drop off).take len).all AV.plain then some (.ro true 1 (((cells.drop off).take len).map fun c => [c])) else none
    | _ => none
  | v => if v.bare then some v else none
def lendCells (h : AH) : List AV → Option (List AV)
  | [] => some []
  | v :: r => (lendCell h v).bind fun p => (lendCells h r).map fun q => p :: q
def lendArg (h : AH) : AV → Option AV
  | .agg cs => (lendCells h cs).map .agg
  | .pv cs => some (.pv cs)
  | .fr sz rows => some (.fr sz rows)
  | v => lendCell h v
def lendArgs (h : AH) : List AV → Option (List AV)
  | [] => some []
  | v :: r => (lendArg h v).bind fun p => (lendArgs h r).map fun q => p :: q

/-- what comes over the border: a new slice gets a name -/
def inCell (h : AH) (c nm : Nat) : AV → Option (AV × AH × Nat)
  | .fr sz rows => some (.own nm c 0 rows.length, h.put nm c (.arr sz rows false), c + 1)
  | v => if v.bare then some (v, h, c) else none
def inCells (h : AH) (c nm : Nat) : List AV → Option (List AV × AH × Nat)
  | [] => some ([], h, c)
  | v :: r => (inCell h c nm v).bind fun p => (inCells p.2.1 p.2.2 (nm + 1) r).map fun q => (p.1 :: q.1, q.2.1, q.2.2)
def inVal (h : AH) (c nm : Nat) : AV → Option (AV × AH × Nat)
  | .agg cs => (inCells h c nm cs).map fun q => (.agg q.1, q.2.1, q.2.2)
  | .pv cs => (inCells h c (nm + 1) cs).map fun q => (.ptr nm q.2.2 0, q.2.1.put nm q.2.2 (.var q.1), q.2.2 + 1)
  | v => inCell h c nm v
def inVals (h : AH) (c nm : Nat) : List AV → Option (List AV × AH × Nat)
  | [] => some ([], h, c)
  | v :: r => (inVal h c nm v).bind fun p => (inVals p.2.1 p.2.2 (nm + 200) r).map fun q => (p.1 :: q.1, q.2.1, q.2.2)
def inRes (h : AH) (c nm : Nat) : AV → Option (AV × AH × Nat)
  | .tup vs => (inVals h c nm vs).map fun q => (.tup q.1, q.2.1, q.2.2)
  | v => inVal h c nm v
/-- what lies behind the pointers now -/
def inPvs (h : AH) (c : Nat) : List (Nat × Nat × Nat) → List (List AV) → Option (AH × Nat)
  | [], [] => some (h, c)
  | (nm, g, n) :: r, cs :: q => if cs.length = n then (inCells h c (1000000 + 1000 * nm) cs).bind fun p => match p.2.1.get nm g with
      | some .gone => inPvs (p.2.1.put nm g (.var p.1)) p.2.2 r q
      | _ => none else none
  | _, _ => none

/-- what goes out at the end: behind the pointers that came in -/
def outPvs (h : AH) : List (Nat × Nat × Nat) → Option (List (List AV) × AH)
  | [] => some ([], h)
  | (nm, g, n) :: r => match h.get nm g with
    | some (.var cells) => if cells.length = n then (mvCells (h.del nm) cells).bind fun p => (outPvs p.2 r).map fun q => (p.1 :: q.1, q.2) else none
    | _ => none
def outVal (h : AH) : AV → Option (AV × AH)
  | .agg cs => (mvCells h cs).map fun q => (.agg q.1, q.2)
  | .ptr nm g off => match h.get nm g with
    | some (.var cells) => if off = 0 then (mvCells (h.del nm) cells).map fun p => (.pv p.1, p.2) else none
    | _ => none
  | v => mvCell h v
def outVals (h : AH) : List AV → Option (List AV × AH)
  | [] => some ([], h)
  | v :: r => (outVal h v).bind fun p => (outVals p.2 r).map fun q => (p.1 :: q.1, q.2)
def outRes (h : AH) : AV → Option (AV × AH)
  | .tup vs => (outVals h vs).map fun q => (.tup q.1, q.2)
  | v => outVal h v

def argVals (env : Env) : List X → Option (List AV)
  | [] => some []
  | x :: r => (env.x x).bind fun v => (argVals env r).map (v :: ·)

def acall (F : CallF) (h : AH) (c nm : Nat) (args : List AV) (mv : List Bool) : Option (AV × AH × Nat) :=
  (mvArgs h args mv).bind fun m =>
  (lendArgs m.2.1 m.1).bind fun bs =>
  (F bs).bind fun r =>
  (inPvs m.2.1 c m.2.2 r.2).bind fun q =>
  inRes q.1 q.2 nm r.1

/- ---------------------------------------------------------------- operations -/
def asNat? : AV → Option Nat
  | .int _ n => if 0 ≤ n then some n.toNat else none
  | _ => none

/-- the lesser or the greater of whole numbers -/
def amm2 (mx : Bool) : AV → AV → Option AV
  | .int k a, .int k' b => if k = k' then some (.int k (if mx then (if b > a then b else a) else (if b < a then b else a))) else none
  | _, _ => none
def ammL (mx : Bool) : AV → List AV → Option AV
  | v, [] => match v with | .int k a => some (.int k a) | _ => none
  | v, u :: r => match amm2 mx v u with | some x => ammL mx x r | none => none
def amm (mx : Bool) : List AV → Option AV
  | [] => none
  | v :: r => ammL mx v r

/-- keys of whole numbers alone, values of whole numbers or truth -/
def AV.isInt : AV → Bool
  | .int .. => true
  | _ => false
def AV.isIB : AV → Bool
  | .int .. | .bool _ => true
  | _ => false
/-- where a key stands among a map's entries -/
def mapPos (kk : List Nat) (key : List AV) : List (List AV) → Nat → Option (Option Nat)
  | [], _ => some none
  | row :: r, i => if row.tail.length = kk.length then match aeqCells kk key row.tail with
    | some true => some (some i)
    | some false => mapPos kk key r (i + 1)
    | none => none else none
def mapGet (kk : List Nat) (key : List AV) (z : AV) (rows : List (List AV)) : Option AV := match mapPos kk key rows 0 with
  | some (some i) => rows[i]?.bind List.head?
  | some none => some z
  | none => none
def mapSet (kk : List Nat) (key : List AV) (v : AV) (rows : List (List AV)) : Option (List (List AV)) := match mapPos kk key rows 0 with
  | some (some i) => some (rows.set i (v :: key))
  | some none => some (rows ++ [v :: key])
  | none => none
def evOp (Φ : Nat → Option FnF) (env : Env) (h : AH) (c : Nat) : AOp → Option (AV × AH × Nat)
  | .mov x => (env.x x).map fun v => (v, h, c)
  | .pick q a b => match env.x q with
    | some (.bool true) => (env.x a).map fun v => (v, h, c)
    | some (.bool false) => (env.x b).map fun v => (v, h, c)
    | _ => none
  | .alloc nm z => some (.ptr nm c 0, h.put nm c (.var z), c + 1)
  | .box nm x => (env.x x).bind fun v => if cellsOK v.cells then some (.ptr nm c 0, h.put nm c (.var v.cells), c + 1) else none
  | .build z parts => (fillParts env z parts).map fun cs => (.agg cs, h, c)
  | .bslice nm sz z len parts => (fillRows env h (List.replicate len z) parts).map fun p => (.own nm c 0 len, p.2.put nm c (.arr sz p.1 false), c + 1)
  | .bslv nm z len parts => (fillCells env (List.replicate len z) parts).map fun cs => (.vsl nm c 0 len, h.put nm c (.var cs), c + 1)
  | .load n a => (env.x a).bind fun p => (cellsAt h p).bind fun cs => (part cs n).map fun v => (v, h, c)
  | .store n a v => (env.x a).bind fun p => (env.x v).bind fun v => if v.cells.length = n then (astore h p v.cells).map fun h' => (.tup [], h', c) else none
  | .nilck x => (env.x x).bind fun v => match v with
    | .ptr nm g o => some (.ptr nm g o, h, c)
    | .eptr nm g i o => some (.eptr nm g i o, h, c)
    | .rptr cs => some (.rptr cs, h, c)
    | .fn f cap => some (.fn f cap, h, c)
    | .bm f fst => some (.bm f fst, h, c)
    | _ => none
  | .bin op x y => (env.x x).bind fun a => (env.x y).bind fun b => (abin op a b).map fun v => (v, h, c)
  | .isnil neg kd x => (env.x x).bind fun a => (aisNil kd a).map fun r => (.bool (if neg then !r else r), h, c)
  | .eqa neg ks x y => (env.x x).bind fun a => (env.x y).bind fun b => match a, b with
    | .agg a, .agg b => if a.length = ks.length ∧ b.length = ks.length then (aeqCells ks a b).map fun r => (.bool (if neg then !r else r), h, c) else none
    | _, _ => none
  | .eqb neg x y => (env.x x).bind fun a => (env.x y).bind fun b => match a, b with
    | .bool a, .bool b => some (.bool (if neg then !(a == b) else a == b), h, c)
    | _, _ => none
  | .un op x => (env.x x).bind fun a => (aun op a).map fun v => (v, h, c)
  | .conv k x => (env.x x).bind fun a => match a with
    | .int _ n => some (.int k (k.wrap n), h, c)
    | _ => none
  | .idc x => (env.x x).bind fun v => match v with
    | .own nm g off len => match h.get nm g with
      | some (.arr 1 _ false) => if 0 < len then some (.own nm g off len, h, c) else none
      | _ => none
    | _ => none
  | .mkm nm => some (.mp nm c, h.put nm c (.mpb []), c + 1)
  | .mset kk x k v => (env.x x).bind fun m => (env.x k).bind fun k => (env.x v).bind fun v => match m, k with
    | .mp nm g, .agg ks => match h.get nm g with
      | some (.mpb rows) => if ks.length = kk.length ∧ ks.all AV.isInt = true ∧ v.isIB = true then (mapSet kk ks v rows).map fun q => (.tup [], h.put nm g (.mpb q), c) else none
      | _ => none
    | _, _ => none
  | .mget kk z x k => (env.x x).bind fun m => (env.x k).bind fun k => match m, k with
    | .mp nm g, .agg ks => match h.get nm g with
      | some (.mpb rows) => if ks.length = kk.length ∧ ks.all AV.isInt = true then (mapGet kk ks z rows).map fun v => (v, h, c) else none
      | _ => none
    | _, _ => none
  | .sts x => (env.x x).bind fun a => match a with
    | .str s => some (.str s, h, c)
    | _ => none
  | .b2s x => (env.x x).bind fun a => (rowsOf h 1 a).bind fun rows => (toBytes rows).map fun l => (.str ⟨l.toArray⟩, h, c)
  | .s2b nm x => (env.x x).bind fun a => match a with
    | .str s => some (.own nm c 0 s.size, h.put nm c (.arr 1 (byteRows s.data.toList) false), c + 1)
    | _ => none
  | .mks nm sz bytes z l q => (env.x l).bind fun l => (env.x q).bind fun q => match asNat? l, asNat? q with
    | some l, some q => if l ≤ q ∧ q * bytes ≤ maxBytes ∧ q ≤ maxBytes ∧ z.length = sz then some (.own nm c 0 l, h.put nm c (.arr sz (List.replicate q z) false), c + 1) else none
    | _, _ => none
  | .slc sz x lo hi mx => (env.x x).bind fun v => (xopt env lo).bind fun lo => (xopt env hi).bind fun hi => (xopt env mx).bind fun mx =>
      match mx with
      | none => (aslice h sz v lo hi).map fun r => (r, h, c)
      | some m => (acut00 v lo hi (some m)).map fun r => (r, h, c)
  | .slcS x lo hi => (env.x x).bind fun v => (xopt env lo).bind fun lo => (xopt env hi).bind fun hi => match v with
      | .str s => (bound s.size hi s.size).bind fun h' => (bound h' lo 0).map fun l => (.str (s.extract l h'), h, c)
      | _ => none
  | .slca n x lo hi => (env.x x).bind fun v => (xopt env lo).bind fun lo => (xopt env hi).bind fun hi =>
      match v with
      | .ptr nm g off => match h.get nm g with
        | some (.var cs) => if off + n = cs.length then (aslice h 1 (.vsl nm g off n) lo hi).map fun r => (r, h, c) else none
        | _ => none
      | _ => none
  | .fad off x => (env.x x).bind fun v => match v with
    | .ptr nm g o => some (.ptr nm g (o + off), h, c)
    | .eptr nm g i o => some (.eptr nm g i (o + off), h, c)
    | .rptr cs => some (.rptr (cs.drop off), h, c)
    | _ => none
  | .fld off n x => (env.x x).bind fun v => match v with
    | .agg cs => (part (cs.drop off) n).map fun v => (v, h, c)
    | _ => none
  | .iad sz x i => (env.x x).bind fun v => (env.x i).bind fun i => match asNat? i with
    | some i => match v with
      | .ro _ s rows => if s = sz then (rows[i]?).map fun r => (.rptr r, h, c) else none
      | .own nm g off len => match h.get nm g with
        | some (.arr s _ _) => if s = sz ∧ i < len then some (.eptr nm g (off + i) 0, h, c) else none
        | _ => none
      | .vsl nm g off len => if i < len ∧ sz = 1 then some (.ptr nm g (off + i), h, c) else none
      | _ => none
    | none => none
  | .iada len sz x i => (env.x x).bind fun v => (env.x i).bind fun i => match asNat? i with
    | some i => if i < len then (match v with
      | .ptr nm g o => some (.ptr nm g (o + i * sz), h, c)
      | .eptr nm g k o => some (.eptr nm g k (o + i * sz), h, c)
      | .rptr cs => some (.rptr (cs.drop (i * sz)), h, c)
      | _ => none) else none
    | none => none
  | .idx len sz n x i => (env.x x).bind fun v => (env.x i).bind fun i => match asNat? i with
    | some i => if i < len then (match v with
      | .agg cs => (part (cs.drop (i * sz)) n).map fun v => (v, h, c)
      | _ => none) else none
    | none => none
  | .idxs x i => (env.x x).bind fun v => (env.x i).bind fun i => match asNat? i with
    | some i => match v with
      | .str s => (s.data.toList[i]?).map fun b => (.int .u8 b.toNat, h, c)
      | _ => none
    | none => none
  | .ext i x => (env.x x).bind fun v => match v with
    | .tup vs => (vs[i]?).map fun v => (v, h, c)
    | _ => none
  | .call nm f args => (argVals env args).bind fun vs => (Φ f).bind fun F => acall F.call h c nm vs []
  | .inl f args => (argVals env args).bind fun vs => (Φ f).bind fun F => F.inl h c vs
  | .callm nm f args mv => (argVals env args).bind fun vs => (Φ f).bind fun F => acall F.call h c nm vs mv
  | .callv nm x args => (env.x x).bind fun v => match v with
    | .fn f cap => (argVals env args).bind fun vs => (Φ f).bind fun F => acall F.call h c nm (vs ++ cap) []
    | .bm f fst => (argVals env args).bind fun vs => (Φ f).bind fun F => acall F.call h c nm (fst ++ vs) []
    | .yld n g => match h.get n g with
      | some (.lp .ready) => (argVals env args).bind fun vs => (Φ (ykey n)).bind fun F => F.yl h c vs
      | _ => none
    | _ => none
  | .inlv x args => (env.x x).bind fun v => match v with
    | .fn f cap => (argVals env args).bind fun vs => (Φ f).bind fun F => F.inl h c (vs ++ cap)
    | _ => none
  | .len x => (env.x x).bind fun v => (alen v).map fun n => (.int .i64 n, h, c)
  | .lenS x => (env.x x).bind fun v => match v with
    | .str s => some (.int .i64 s.size, h, c)
    | _ => none
  | .lenc n => some (.int .i64 n, h, c)
  | .app nm sz bytes s x => (env.x s).bind fun s => (env.x x).bind fun x => (srcRows h sz x).bind fun rows => aappend h c nm sz bytes s rows
  | .cpy sz d s => (env.x d).bind fun d => (env.x s).bind fun s => (srcRows h sz s).bind fun rows => (acopy h sz d rows).map fun q => (q.1, q.2, c)
  | .mkf f caps => (argVals env caps).map fun vs => (.fn f vs, h, c)
  | .mkb f fst => (argVals env fst).map fun vs => (.bm f vs, h, c)
  | .xib _ s x => (env.x s).bind fun v => (env.x x).bind fun u => match v, u with
    | .str s, .int .u8 n => some (.int .i64 (Go.Lib.indexByte s.data.toList n.toNat.toUInt8), h, c)
    | _, _ => none
  | .mm mx xs => (argVals env xs).bind fun vs => (amm mx vs).map fun v => (v, h, c)
  | .bemp _ => some (.emp, h, c)
  | .frz x => (env.x x).bind fun v => (freeze1 h v).map fun q => (q.1, q.2, c)

/-- one operation of a region -/
def evOper (Φ : Nat → Option FnF) (s : St) (o : AOper) : Option St :=
  let go : Option St := (evOp Φ s.env s.h s.c o.op).map fun r =>
    { env := match o.dst with | some d => envSet s.env d r.1 | none => s.env, h := r.2.1, c := r.2.2 }
  match o.guard with
  | none => go
  | some (t, want) => match envGet s.env t with
    | some (.bool b) => if b = want then go else some { s with env := match o.dst with | some d => envSet s.env d (.tup []) | none => s.env }
    | some (.tup []) => some { s with env := match o.dst with | some d => envSet s.env d (.tup []) | none => s.env }
    | _ => none

def evReg (Φ : Nat → Option FnF) (s : St) : List AOper → Option St
  | [] => some s
  | o :: r => (evOper Φ s o).bind fun s' => evReg Φ s' r

/- ---------------------------------------------------------------- regions that draw their order -/
/-- the generation stands in one of the rows lo ≤ g < hi -/
def genIn (al : List (Nat × Nat)) (g : Nat) : Bool := al.any fun p => Nat.ble p.1 g && Nat.blt g p.2
/-- the references of a value: names out of ns, generations out of the rows -/
def AV.low1 (ns : List Nat) (al : List (Nat × Nat)) : AV → Bool
  | .own nm g _ _ | .vsl nm g _ _ | .ptr nm g _ | .eptr nm g _ _ | .yld nm g | .mp nm g => genIn al g && ns.any (Nat.beq nm)
  | .agg _ | .tup _ | .fr _ _ | .pv _ => false
  | .fn _ (_ :: _) => false
  | .bm _ (_ :: _) => false
  | _ => true
def lowL (ns : List Nat) (al : List (Nat × Nat)) : List AV → Bool
  | [] => true
  | v :: r => v.low1 ns al && lowL ns al r
def AV.low2 (ns : List Nat) (al : List (Nat × Nat)) : AV → Bool
  | .agg cs => lowL ns al cs
  | .fn _ cs => lowL ns al cs
  | .bm _ cs => lowL ns al cs
  | v => v.low1 ns al
def lowL2 (ns : List Nat) (al : List (Nat × Nat)) : List AV → Bool
  | [] => true
  | v :: r => v.low2 ns al && lowL2 ns al r
def AV.low (ns : List Nat) (al : List (Nat × Nat)) : AV → Bool
  | .tup vs => lowL2 ns al vs
  | v => v.low2 ns al
def lowH (ns : List Nat) (al : List (Nat × Nat)) : AH → Bool
  | [] => true
  | e :: r => ns.any (Nat.beq e.nm) && genIn al e.g && (match e.b with | .var cells => lowL ns al cells | _ => true) && lowH ns al r
/-- operations that leave the memory as it is -/
def AOp.still : AOp → Bool
  | .alloc .. | .box .. | .bslice .. | .store .. | .idc .. | .s2b .. | .mks .. | .app .. | .cpy .. | .call .. | .inl .. | .callm .. | .callv .. | .mkm .. | .mset .. | .frz .. | .bslv .. | .inlv .. => false
  | _ => true
mutual
/-- are two values one? -/
def AV.same : AV → AV → Bool
  | .int k n, .int k' n' => decide (k = k') && n == n'
  | .bool b, .bool b' => b == b'
  | .str s, .str s' => s.data.toList == s'.data.toList
  | .agg cs, .agg cs' => sameL cs cs'
  | .tup cs, .tup cs' => sameL cs cs'
  | .nilS, .nilS | .emp, .emp | .nilP, .nilP | .nilF, .nilF | .nilM, .nilM | .nilI, .nilI | .ifc, .ifc => true
  | .ro t sz rows, .ro t' sz' rows' => t == t' && sz == sz' && sameLL rows rows'
  | .own a b c d, .own a' b' c' d' => a == a' && b == b' && c == c' && d == d'
  | .vsl a b c d, .vsl a' b' c' d' => a == a' && b == b' && c == c' && d == d'
  | .ptr a b c, .ptr a' b' c' => a == a' && b == b' && c == c'
  | .eptr a b c d, .eptr a' b' c' d' => a == a' && b == b' && c == c' && d == d'
  | .rptr cs, .rptr cs' => sameL cs cs'
  | .fn f cs, .fn f' cs' => f == f' && sameL cs cs'
  | .bm f cs, .bm f' cs' => f == f' && sameL cs cs'
  | .fr t rows, .fr t' rows' => t == t' && sameLL rows rows'
  | .pv cs, .pv cs' => sameL cs cs'
  | .opq k, .opq k' => k == k'
  | .yld a b, .yld a' b' => a == a' && b == b'
  | .mp a b, .mp a' b' => a == a' && b == b'
  | _, _ => false
def sameL : List AV → List AV → Bool
  | [], [] => true
  | v :: r, u :: q => v.same u && sameL r q
  | _, _ => false
def sameLL : List (List AV) → List (List AV) → Bool
  | [], [] => true
  | v :: r, u :: q => sameL v u && sameLL r q
  | _, _ => false
end
def Blk.same : Blk → Blk → Bool
  | .var cs, .var cs' => sameL cs cs'
  | .arr sz rows fz, .arr sz' rows' fz' => sz == sz' && sameLL rows rows' && fz == fz'
  | .gone, .gone => true
  | .lp a, .lp b => decide (a = b)
  | .mpb a, .mpb b => sameLL a b
  | _, _ => false
def AH.same : AH → AH → Bool
  | [], [] => true
  | e :: r, f :: q => e.nm == f.nm && e.g == f.g && e.b.same f.b && AH.same r q
  | _, _ => false
/-- the generations that an operation may name: those from ahead of the region, and of those that stand ahead of it whatever the order -/
def allowed (c0 : Nat) (ivs : List (Nat × Nat)) (an : List Nat) : List (Nat × Nat) := (0, c0) :: an.filterMap fun j => ivs[j]?
/-- one operation of a region that draws: it sees its own slots and names alone, and changes those of wn alone -/
def evOperD (Φ : Nat → Option FnF) (c0 : Nat) (ivs : List (Nat × Nat)) (s : St) (o : AOper) : Option St :=
  if o.op.still then
    (evOper Φ ⟨envOnly o.rs s.env, s.h.only o.tn, s.c⟩ o).bind fun q =>
      if o.wn.isEmpty then
        match o.dst with
        | some d => (envGet q.env d).bind fun v => if v.low (o.tn ++ o.mn) ((s.c, q.c) :: allowed c0 ivs o.an) then some ⟨envSet s.env d v, s.h, s.c⟩ else none
        | none => some s
      else none
  else
  (evOper Φ ⟨envOnly o.rs s.env, s.h.only o.tn, s.c⟩ o).bind fun q =>
    if Nat.ble s.c q.c && lowH o.tn ((s.c, q.c) :: allowed c0 ivs o.an) q.h then
      if AH.same (q.h.hide o.wn) ((s.h.only o.tn).hide o.wn) then
        match o.dst with
        | some d => (envGet q.env d).bind fun v => if v.low o.tn ((s.c, q.c) :: allowed c0 ivs o.an) then some ⟨envSet s.env d v, q.h.join (s.h.hide o.tn), q.c⟩ else none
        | none => some ⟨s.env, q.h.join (s.h.hide o.tn), q.c⟩
      else none
    else none
def evRegD (Φ : Nat → Option FnF) (c0 : Nat) (ivs : List (Nat × Nat)) (s : St) : List AOper → Option St
  | [] => some s
  | o :: r => (evOperD Φ c0 ivs s o).bind fun s' => evRegD Φ c0 (ivs ++ [(s.c, s'.c)]) s' r

def iter (f : St → Option (Ex × St)) (keepT keepH : List Nat) : Nat → St → Option (Ex × St)
  | 0, _ => none
  | k + 1, s => match f { s with env := envOnly keepT s.env, h := s.h.only keepH } with
    | some (.normal, s') => iter f keepT keepH k s'
    | r => r

/-- a round's parameters -/
def envPar : Env → List Nat → List AV → Env
  | env, p :: ps, v :: vs => envPar (envSet env p v) ps vs
  | env, _, _ => env
/-- a round: what it leaves by -/
def roundEnd (nm g : Nat) : Ex × St → Option (AV × AH × Nat)
  | (ex, s) => match s.h.get nm g with
    | some (.lp .busy) => match ex with
      | .normal => some (.bool true, s.h.put nm g (.lp .ready), s.c)
      | ex => some (.bool false, s.h.put nm g (.lp (.done ex)), s.c)
    | _ => none
/-- one round of a loop over a function; A: the assignment, B: the body -/
def around (A B : St → Option (Ex × St)) (env : Env) (nm g : Nat) (ps : List Nat) : InlF := fun h c vs =>
  match h.get nm g with
  | some (.lp .ready) => if ps.length = vs.length then
      match A ⟨envPar env ps vs, h, c⟩ with
      | some (.normal, s1) => match s1.h.get nm g with
        | some (.lp .ready) => (B { s1 with h := s1.h.put nm g (.lp .busy) }).bind (roundEnd nm g)
        | _ => none
      | _ => none
    else none
  | _ => none
/-- behind a loop over a function -/
def rangeEnd (nm g : Nat) (env : Env) : AV × AH × Nat → Option (Ex × St)
  | (_, h, c) => match h.get nm g with
    | some (.lp .ready) => some (.normal, ⟨env, h.del nm, c⟩)
    | some (.lp (.done ex)) => some (ex, ⟨env, h.del nm, c⟩)
    | _ => none

def ev (Φ : Nat → Option FnF) (k : Nat) : AC → St → Option (Ex × St)
  | .skip, s => some (.normal, s)
  | .reg false ops, s => (evReg Φ s ops).map fun s' => (.normal, s')
  | .reg true ops, s => (evRegD Φ s.c [] s ops).map fun s' => (.normal, s')
  | .seq a b, s => match ev Φ k a s with
    | some (.normal, s') => ev Φ k b s'
    | r => r
  | .cond c a b, s => match s.env.x c with
    | some (.bool true) => ev Φ k a s
    | some (.bool false) => ev Φ k b s
    | _ => none
  | .block id b, s => match ev Φ k b s with
    | some (.exit id', s') => if Nat.beq id' id then some (.normal, s') else some (.exit id', s')
    | r => r
  | .loop kt kh b, s => iter (ev Φ k b) kt kh k s
  | .keep kt kh b, s => ev Φ k b { s with env := envOnly kt s.env, h := s.h.only kh }
  | .exit id, s => some (.exit id, s)
  | .ret, s => some (.ret, s)
  | .rfun nm x ps kt A B, s => match s.env.x x with
    | some (.fn f cap) => (Φ f).bind fun F =>
      (F.itr nm (around (ev Φ k A) (ev Φ k B) (envOnly kt s.env) nm s.c ps) (s.h.put nm s.c (.lp .ready)) (s.c + 1) (.yld nm s.c :: cap)).bind (rangeEnd nm s.c s.env)
    | _ => none

/-- a function: its code, the slots of its results (of a variable: how many cells), how many slots -/
structure AFun where
  code : AC
  res : List (Nat × Option (Option Nat))
  ntmps : Nat

def resVals (s : St) : List (Nat × Option (Option Nat)) → Option (List AV)
  | [] => some []
  | (t, none) :: r => (envGet s.env t).bind fun v => (resVals s r).map (v :: ·)
  | (t, some n) :: r => (envGet s.env t).bind fun p => (cellsAt s.h p).bind fun cs => (part cs n).bind fun v => (resVals s r).map (v :: ·)
def resVal : List AV → AV
  | [v] => v
  | vs => .tup vs
/-- the variables behind the pointers that came in -/
def argPvs : List AV → List AV → List (Nat × Nat × Nat)
  | .pv cs :: bs, .ptr nm g _ :: vs => (nm, g, cs.length) :: argPvs bs vs
  | _ :: bs, _ :: vs => argPvs bs vs
  | _, _ => []
def envOf (n : Nat) : List AV → Env
  | [] => []
  | v :: r => (n, v) :: envOf (n + 1) r
def evBody (Φ : Nat → Option FnF) (k : Nat) (f : AFun) (s : St) : Option St :=
  match ev Φ k f.code s with
  | some (.normal, s') => some s'
  | some (.ret, s') => some s'
  | _ => none
def evFun (Φ : Nat → Option FnF) (k : Nat) (f : AFun) : CallF := fun bs =>
  if f.ntmps < bs.length then none else
  (inVals [] 0 100000 bs).bind fun q =>
  (evBody Φ k f ⟨envOf 0 q.1, q.2.1, q.2.2⟩).bind fun s' =>
  (resVals s' f.res).bind fun vs =>
  (outPvs s'.h (argPvs bs q.1)).bind fun ps =>
  (outRes ps.2 (resVal vs)).map fun r => (r.1, ps.1)

/-- a function that runs in the caller's memory (its names are others than the caller's) -/
def evInl (Φ : Nat → Option FnF) (k : Nat) (f : AFun) : InlF := fun h c vs =>
  if f.ntmps < vs.length then none else
  (evBody Φ k f ⟨envOf 0 vs, h, c⟩).bind fun s' => (resVals s' f.res).map fun rs => (resVal rs, s'.h, s'.c)

/-- an iterator: it runs in the memory of the loop's function -/
def evItr (Φ : Nat → Option FnF) (k : Nat) (f : AFun) : Nat → InlF → InlF := fun nm Y => evInl (withY Φ nm Y) k f

end Go.Abs

namespace Go.Abs
variable [Globs]
open Go

/-- What the plain machine does not say: where its blocks lie in the world. By a block's generation: the block, where its first row begins, a row's cells, how many rows are known, how many cells there are. R0: blocks that nobody writes any more; R1: blocks that nobody writes as long as this call lasts. -/
structure Gh where
  blk : Nat → Nat
  base : Nat → Nat
  sz : Nat → Nat
  ln : Nat → Nat
  tot : Nat → Nat
  R0 : Nat → Prop
  R1 : Nat → Prop
  opq : Nat → Value
  /-- the records of loops over functions -/
  lp : Nat → Loop

def Gh.R (G : Gh) : Bool → Nat → Prop
  | true, b => G.R0 b ∨ G.R1 b
  | false, b => G.R0 b

def live (h : AH) (nm g : Nat) : Prop := ∃ b, h.get nm g = some b
/-- live, and not gone to a callee -/
def liveN (h : AH) (nm g : Nat) : Prop := ∃ b, h.get nm g = some b ∧ b ≠ .gone
theorem liveN.live {h : AH} {nm g : Nat} (x : liveN h nm g) : Abs.live h nm g := let ⟨b, y, _⟩ := x; ⟨b, y⟩

inductive VRel (G : Gh) (h : AH) (c : Nat) (w : World) : AV → Value → Prop
  | int (k n) : VRel G h c w (.int k n) (.int k n)
  | bool (b) : VRel G h c w (.bool b) (.bool b)
  | str (s) : VRel G h c w (.str s) (.string s)
  | nilS : VRel G h c w .nilS (.slice none 0 0)
  | emp (a) : VRel G h c w .emp (.slice (some a) 0 0)
  | nilP : VRel G h c w .nilP (.pointer none)
  | nilF : VRel G h c w .nilF .nilFunc
  | nilM : VRel G h c w .nilM (.map none)
  | nilI : VRel G h c w .nilI .nilIface
  | ifc (t v) : VRel G h c w .ifc (.iface t v)
  | ro (t sz rows a cap) (cv : Nat → Nat → Value) (hc : rows.length ≤ cap) (hr : rows ≠ [] → G.R t a.block ∧ a.spot = none ∧ 0 < sz)
      (hp : ∀ row ∈ rows, row.length = sz ∧ row.all AV.plain = true)
      (hcell : ∀ (i j : Nat) row v, rows[i]? = some row → row[j]? = some v → w.cell? ⟨a.block, a.off + (i * sz + j), none⟩ = some (cv i j))
      (hv : ∀ (i j : Nat) row v, rows[i]? = some row → row[j]? = some v → VRel G h c w v (cv i j)) : VRel G h c w (.ro t sz rows) (.slice (some a) rows.length cap)
  | own (nm g off len a cap) (hc : len ≤ cap) (hg : g < c)
      (hl : live h nm g → (cap = 0 ∨ a = ⟨G.blk g, G.base g + off * G.sz g, none⟩) ∧ G.ln g ≤ off + cap ∧ G.base g + (off + cap) * G.sz g ≤ G.tot g) : VRel G h c w (.own nm g off len) (.slice (some a) len cap)
  | vsl (nm g off len a cap) (hc : len ≤ cap) (hg : g < c)
      (hl : live h nm g → (cap = 0 ∨ a = ⟨G.blk g, off, none⟩) ∧ off + cap = G.ln g) : VRel G h c w (.vsl nm g off len) (.slice (some a) len cap)
  | ptr (nm g off a) (hg : g < c) (hl : live h nm g → a = ⟨G.blk g, off, none⟩) : VRel G h c w (.ptr nm g off) (.pointer (some a))
  | eptr (nm g i off a) (hg : g < c) (hl : live h nm g → a = ⟨G.blk g, G.base g + (i * G.sz g + off), none⟩) : VRel G h c w (.eptr nm g i off) (.pointer (some a))
  | rptr (cells a) (cv : Nat → Value) (hr : cells ≠ [] → G.R true a.block ∧ a.spot = none) (hp : cells.all AV.plain = true)
      (hcell : ∀ (j : Nat) v, cells[j]? = some v → w.cell? ⟨a.block, a.off + j, none⟩ = some (cv j))
      (hv : ∀ (j : Nat) v, cells[j]? = some v → VRel G h c w v (cv j)) : VRel G h c w (.rptr cells) (.pointer (some a))
  | agg (cs vs) (cv : Nat → Value) (hn : vs.length = cs.length) (hi : ∀ (j : Nat) v, cs[j]? = some v → vs[j]? = some (cv j))
      (hv : ∀ (j : Nat) v, cs[j]? = some v → VRel G h c w v (cv j)) : VRel G h c w (.agg cs) (.agg ⟨vs⟩)
  | tup (cs vs) (cv : Nat → Value) (hn : vs.length = cs.length) (hi : ∀ (j : Nat) v, cs[j]? = some v → vs[j]? = some (cv j))
      (hv : ∀ (j : Nat) v, cs[j]? = some v → VRel G h c w v (cv j)) : VRel G h c w (.tup cs) (.tuple ⟨vs⟩)
  | fn (f cs vs) (cv : Nat → Value) (hn : vs.length = cs.length) (hi : ∀ (j : Nat) v, cs[j]? = some v → vs[j]? = some (cv j))
      (hv : ∀ (j : Nat) v, cs[j]? = some v → VRel G h c w v (cv j)) : VRel G h c w (.fn f cs) (.func (.func f) #[] ⟨vs⟩)
  | bm (f cs vs) (cv : Nat → Value) (hn : vs.length = cs.length) (hi : ∀ (j : Nat) v, cs[j]? = some v → vs[j]? = some (cv j))
      (hv : ∀ (j : Nat) v, cs[j]? = some v → VRel G h c w v (cv j)) : VRel G h c w (.bm f cs) (.func (.func f) ⟨vs⟩ #[])
  | opq (k) (ho : (G.opq k).oneCell' = true) : VRel G h c w (.opq k) (G.opq k)
  | yld (nm g l) (hg : g < c) (hl : live h nm g → l = G.blk g) : VRel G h c w (.yld nm g) (.func (.yield l) #[] #[])
  | mp (nm g r) (hg : g < c) (hl : live h nm g → r = G.blk g) : VRel G h c w (.mp nm g) (.map (some r))

/-- the values of a list, one by one -/
def LRel (G : Gh) (h : AH) (c : Nat) (w : World) (cs : List AV) (vs : List Value) : Prop :=
  vs.length = cs.length ∧ ∀ (j : Nat) v, cs[j]? = some v → ∃ v', vs[j]? = some v' ∧ VRel G h c w v v'

theorem VRel.agg_mk {G h c w cs vs} (H : LRel G h c w cs vs) : VRel G h c w (.agg cs) (.agg ⟨vs⟩) :=
  .agg cs vs (fun j => vs.getD j undef) H.1 (fun j v hj => by obtain ⟨v', h1, _⟩ := H.2 j v hj; simp [List.getD, h1])
    (fun j v hj => by obtain ⟨v', h1, h2⟩ := H.2 j v hj; simpa [List.getD, h1] using h2)
theorem VRel.tup_mk {G h c w cs vs} (H : LRel G h c w cs vs) : VRel G h c w (.tup cs) (.tuple ⟨vs⟩) :=
  .tup cs vs (fun j => vs.getD j undef) H.1 (fun j v hj => by obtain ⟨v', h1, _⟩ := H.2 j v hj; simp [List.getD, h1])
    (fun j v hj => by obtain ⟨v', h1, h2⟩ := H.2 j v hj; simpa [List.getD, h1] using h2)
theorem VRel.fn_mk {G h c w f cs vs} (H : LRel G h c w cs vs) : VRel G h c w (.fn f cs) (.func (.func f) #[] ⟨vs⟩) :=
  .fn f cs vs (fun j => vs.getD j undef) H.1 (fun j v hj => by obtain ⟨v', h1, _⟩ := H.2 j v hj; simp [List.getD, h1])
    (fun j v hj => by obtain ⟨v', h1, h2⟩ := H.2 j v hj; simpa [List.getD, h1] using h2)
theorem VRel.bm_mk {G h c w f cs vs} (H : LRel G h c w cs vs) : VRel G h c w (.bm f cs) (.func (.func f) ⟨vs⟩ #[]) :=
  .bm f cs vs (fun j => vs.getD j undef) H.1 (fun j v hj => by obtain ⟨v', h1, _⟩ := H.2 j v hj; simp [List.getD, h1])
    (fun j v hj => by obtain ⟨v', h1, h2⟩ := H.2 j v hj; simpa [List.getD, h1] using h2)
theorem VRel.bm_inv {G h c w f cs cv} (H : VRel G h c w (.bm f cs) cv) : ∃ vs, cv = .func (.func f) ⟨vs⟩ #[] ∧ LRel G h c w cs vs := by
  cases H with
  | bm _ _ vs f hn hi hv => exact ⟨vs, rfl, hn, fun j v hj => ⟨_, hi j v hj, hv j v hj⟩⟩
theorem VRel.agg_inv {G h c w cs cv} (H : VRel G h c w (.agg cs) cv) : ∃ vs, cv = .agg ⟨vs⟩ ∧ LRel G h c w cs vs := by
  cases H with
  | agg _ vs f hn hi hv => exact ⟨vs, rfl, hn, fun j v hj => ⟨_, hi j v hj, hv j v hj⟩⟩
theorem VRel.tup_inv {G h c w cs cv} (H : VRel G h c w (.tup cs) cv) : ∃ vs, cv = .tuple ⟨vs⟩ ∧ LRel G h c w cs vs := by
  cases H with
  | tup _ vs f hn hi hv => exact ⟨vs, rfl, hn, fun j v hj => ⟨_, hi j v hj, hv j v hj⟩⟩
theorem VRel.fn_inv {G h c w f cs cv} (H : VRel G h c w (.fn f cs) cv) : ∃ vs, cv = .func (.func f) #[] ⟨vs⟩ ∧ LRel G h c w cs vs := by
  cases H with
  | fn _ _ vs f hn hi hv => exact ⟨vs, rfl, hn, fun j v hj => ⟨_, hi j v hj, hv j v hj⟩⟩

theorem LRel.nil {G h c w} : LRel G h c w [] [] := ⟨rfl, fun j v hj => by simp at hj⟩
theorem LRel.cons {G h c w v v' cs vs} (hv : VRel G h c w v v') (H : LRel G h c w cs vs) : LRel G h c w (v :: cs) (v' :: vs) := by
  refine ⟨by simp [H.1], fun j u hj => ?_⟩
  cases j with
  | zero => simp at hj; subst hj; exact ⟨v', rfl, hv⟩
  | succ j => simp at hj; obtain ⟨u', h1, h2⟩ := H.2 j u hj; exact ⟨u', by simpa using h1, h2⟩
theorem LRel.cons_inv {G h c w v cs vs} (H : LRel G h c w (v :: cs) vs) : ∃ v' vs', vs = v' :: vs' ∧ VRel G h c w v v' ∧ LRel G h c w cs vs' := by
  cases vs with
  | nil => simp [LRel] at H
  | cons v' vs' =>
    obtain ⟨u, h1, h2⟩ := H.2 0 v rfl
    simp at h1; subst h1
    exact ⟨_, vs', rfl, h2, by have := H.1; simpa using this, fun j u hj => H.2 (j + 1) u (by simpa using hj)⟩
theorem LRel.nil_inv {G h c w vs} (H : LRel G h c w [] vs) : vs = [] := by have := H.1; simpa using this
theorem LRel.append {G h c w as bs vs us} (H : LRel G h c w as vs) (K : LRel G h c w bs us) : LRel G h c w (as ++ bs) (vs ++ us) := by
  induction as generalizing vs with
  | nil => rw [H.nil_inv]; exact K
  | cons a as ih => obtain ⟨v', vs', rfl, h1, h2⟩ := H.cons_inv; exact .cons h1 (ih h2)
theorem LRel.drop {G h c w as vs} (H : LRel G h c w as vs) (n : Nat) : LRel G h c w (as.drop n) (vs.drop n) := by
  refine ⟨by simp [H.1], fun j v hj => ?_⟩
  rw [List.getElem?_drop] at hj
  obtain ⟨v', h1, h2⟩ := H.2 _ v hj
  exact ⟨v', by rw [List.getElem?_drop]; exact h1, h2⟩
theorem LRel.take {G h c w as vs} (H : LRel G h c w as vs) (n : Nat) : LRel G h c w (as.take n) (vs.take n) := by
  refine ⟨by simp [H.1], fun j v hj => ?_⟩
  rw [List.getElem?_take] at hj
  split at hj
  · obtain ⟨v', h1, h2⟩ := H.2 _ v hj
    exact ⟨v', by rw [List.getElem?_take]; simp [*], h2⟩
  · simp at hj
theorem LRel.splice {G h c w as vs bs us} (H : LRel G h c w as vs) (K : LRel G h c w bs us) (n : Nat) : LRel G h c w (splice as n bs) (vs.take n ++ (us ++ vs.drop (n + us.length))) := by
  unfold Abs.splice
  rw [K.1]
  exact (H.take n).append (K.append (H.drop _))

/-- what is kept from one state to a later one -/
structure Later (G G' : Gh) (h h' : AH) (c c' : Nat) (w w' : World) : Prop where
  gh : ∀ g, g < c → G'.blk g = G.blk g ∧ G'.base g = G.base g ∧ G'.sz g = G.sz g ∧ G'.ln g = G.ln g ∧ G'.tot g = G.tot g
  r0 : ∀ b, G.R0 b → G'.R0 b
  r1 : ∀ b, G.R1 b → G'.R1 b
  opq : G'.opq = G.opq
  cc : c ≤ c'
  lv : ∀ nm g, g < c → live h' nm g → live h nm g
  rw : ∀ b, G.R true b → w'.heap[b]? = w.heap[b]?
  lpf : ∀ g, g < c → G'.lp g = G.lp g := by intros; rfl

theorem Gh.R_mono {G G' : Gh} (h0 : ∀ b, G.R0 b → G'.R0 b) (h1 : ∀ b, G.R1 b → G'.R1 b) {t b} (h : G.R t b) : G'.R t b := by
  cases t with
  | false => exact h0 b h
  | true => exact h.imp (h0 b) (h1 b)
theorem Gh.R_true {G : Gh} {t b} (h : G.R t b) : G.R true b := by
  cases t with
  | false => exact .inl h
  | true => exact h

theorem cell?_of_heap {w w' : World} {a : Addr} (h : w'.heap[a.block]? = w.heap[a.block]?) : w'.cell? a = w.cell? a := by
  simp [World.cell?, h]

theorem VRel.later {G G' h h' c c' w w'} (L : Later G G' h h' c c' w w') {v cv} (H : VRel G h c w v cv) : VRel G' h' c' w' v cv := by
  induction H with
  | int k n => exact .int k n
  | bool b => exact .bool b
  | str s => exact .str s
  | nilS => exact .nilS
  | emp a => exact .emp a
  | nilP => exact .nilP
  | nilF => exact .nilF
  | nilM => exact .nilM
  | nilI => exact .nilI
  | ifc t v => exact .ifc t v
  | ro t sz rows a cap cv hc hr hp hcell hv ih =>
    refine .ro t sz rows a cap cv hc (fun hne => ⟨Gh.R_mono L.r0 L.r1 (hr hne).1, (hr hne).2⟩) hp (fun i j row v h1 h2 => ?_) ih
    have hne : rows ≠ [] := by intro e; subst e; simp at h1
    exact (cell?_of_heap (a := ⟨a.block, _, none⟩) (L.rw _ (Gh.R_true (hr hne).1))).trans (hcell i j row v h1 h2)
  | own nm g off len a cap hc hg hl =>
    obtain ⟨e1, e2, e3, e4, e5⟩ := L.gh g hg
    refine .own nm g off len a cap hc (Nat.lt_of_lt_of_le hg L.cc) (fun hl' => ?_)
    rw [e1, e2, e3, e4, e5]
    exact hl (L.lv _ _ hg hl')
  | vsl nm g off len a cap hc hg hl =>
    obtain ⟨e1, e2, e3, e4, e5⟩ := L.gh g hg
    refine .vsl nm g off len a cap hc (Nat.lt_of_lt_of_le hg L.cc) (fun hl' => ?_)
    rw [e1, e4]
    exact hl (L.lv _ _ hg hl')
  | ptr nm g off a hg hl =>
    obtain ⟨e1, e2, e3, e4, e5⟩ := L.gh g hg
    refine .ptr nm g off a (Nat.lt_of_lt_of_le hg L.cc) (fun hl' => ?_)
    rw [e1]; exact hl (L.lv _ _ hg hl')
  | eptr nm g i off a hg hl =>
    obtain ⟨e1, e2, e3, e4, e5⟩ := L.gh g hg
    refine .eptr nm g i off a (Nat.lt_of_lt_of_le hg L.cc) (fun hl' => ?_)
    rw [e1, e2, e3]; exact hl (L.lv _ _ hg hl')
  | rptr cells a cv hr hp hcell hv ih =>
    refine .rptr cells a cv (fun hne => ⟨Gh.R_mono L.r0 L.r1 (hr hne).1, (hr hne).2⟩) hp (fun j v h1 => ?_) ih
    have hne : cells ≠ [] := by intro e; subst e; simp at h1
    exact (cell?_of_heap (a := ⟨a.block, _, none⟩) (L.rw _ (Gh.R_true (hr hne).1))).trans (hcell j v h1)
  | agg cs vs cv hn hi hv ih => exact .agg cs vs cv hn hi ih
  | tup cs vs cv hn hi hv ih => exact .tup cs vs cv hn hi ih
  | fn f cs vs cv hn hi hv ih => exact .fn f cs vs cv hn hi ih
  | bm f cs vs cv hn hi hv ih => exact .bm f cs vs cv hn hi ih
  | opq k ho => rw [← L.opq] at ho ⊢; exact .opq k ho
  | yld nm g l hg hl =>
    obtain ⟨e1, e2, e3, e4, e5⟩ := L.gh g hg
    refine .yld nm g l (Nat.lt_of_lt_of_le hg L.cc) (fun hl' => ?_)
    rw [e1]; exact hl (L.lv _ _ hg hl')
  | mp nm g r hg hl =>
    obtain ⟨e1, e2, e3, e4, e5⟩ := L.gh g hg
    refine .mp nm g r (Nat.lt_of_lt_of_le hg L.cc) (fun hl' => ?_)
    rw [e1]; exact hl (L.lv _ _ hg hl')

theorem LRel.later {G G' h h' c c' w w'} (L : Later G G' h h' c c' w w') {cs vs} (H : LRel G h c w cs vs) : LRel G' h' c' w' cs vs :=
  ⟨H.1, fun j v hj => let ⟨v', h1, h2⟩ := H.2 j v hj; ⟨v', h1, h2.later L⟩⟩

/-- a plain value hangs on nothing but memory that nobody writes -/
theorem VRel.ofPlain {G G' h h' c c'} {w w' : World} (r0 : ∀ b, G.R0 b → G'.R0 b ∧ w'.heap[b]? = w.heap[b]?) {v cv} (H : VRel G h c w v cv) (hp : v.plain = true) : VRel G' h' c' w' v cv := by
  induction H with
  | int k n => exact .int k n
  | bool b => exact .bool b
  | str s => exact .str s
  | nilS => exact .nilS
  | emp a => exact .emp a
  | nilP => exact .nilP
  | nilF => exact .nilF
  | nilM => exact .nilM
  | nilI => exact .nilI
  | ifc t v => exact .ifc t v
  | ro t sz rows a cap cv hc hr hpl hcell hv ih =>
    cases t with
    | true => simp [AV.plain] at hp
    | false =>
      refine .ro false sz rows a cap cv hc (fun hne => ⟨(r0 _ (hr hne).1).1, (hr hne).2⟩) hpl (fun i j row v h1 h2 => ?_) (fun i j row v h1 h2 => ih i j row v h1 h2 ?_)
      · have hne : rows ≠ [] := by intro e; subst e; simp at h1
        exact (cell?_of_heap (a := ⟨a.block, _, none⟩) (r0 _ (hr hne).1).2).trans (hcell i j row v h1 h2)
      · have := (hpl row (List.mem_of_getElem? h1)).2
        rw [List.all_eq_true] at this
        exact this v (List.mem_of_getElem? h2)
  | own => simp [AV.plain] at hp
  | vsl => simp [AV.plain] at hp
  | ptr => simp [AV.plain] at hp
  | eptr => simp [AV.plain] at hp
  | rptr => simp [AV.plain] at hp
  | agg => simp [AV.plain] at hp
  | tup => simp [AV.plain] at hp
  | fn => simp [AV.plain] at hp
  | bm => simp [AV.plain] at hp
  | opq => simp [AV.plain] at hp
  | yld => simp [AV.plain] at hp
  | mp => simp [AV.plain] at hp

/-- none of the first n cells is frozen -/
def Unfz (n lo hi : Nat) : Prop := lo = hi ∨ (n ≤ lo ∧ lo ≤ hi)
theorem Unfz.out {n lo hi : Nat} (h : Unfz n lo hi) {o : Nat} (ho : o < n) : ¬ (lo ≤ o ∧ o < hi) := by unfold Unfz at h; omega
theorem Unfz.zero (n : Nat) : Unfz n 0 0 := .inl rfl
/-- .. and nothing is marked behind the last one, if the rows are no bytes -/
def UnfzS (sz n lo hi : Nat) : Prop := lo = hi ∨ (sz = 1 ∧ n ≤ lo ∧ lo ≤ hi)
theorem UnfzS.unfz {sz n lo hi : Nat} (h : UnfzS sz n lo hi) : Unfz n lo hi := h.imp id (fun x => x.2)
theorem UnfzS.out {sz n lo hi : Nat} (h : UnfzS sz n lo hi) {o : Nat} (ho : o < n) : ¬ (lo ≤ o ∧ o < hi) := h.unfz.out ho
theorem UnfzS.zero (sz n : Nat) : UnfzS sz n 0 0 := .inl rfl

def Ex.code : Ex → Code
  | .normal => .skip
  | .exit id => .exit id
  | .ret => .ret
def RecSt.loop (L : Loop) : RecSt → Loop
  | .ready => { L with state := .ready, pending := none }
  | .busy => { L with state := .busy, pending := none }
  | .done ex => { L with state := .done, pending := some ex.code }
/-- whole numbers and truth values: they hang on no memory -/
inductive PV : AV → Value → Prop
  | int (k n) : PV (.int k n) (.int k n)
  | bool (b) : PV (.bool b) (.bool b)
inductive PVs : List AV → List Value → Prop
  | nil : PVs [] []
  | cons {v cv vs cvs} (h : PV v cv) (t : PVs vs cvs) : PVs (v :: vs) (cv :: cvs)
/-- an entry of a map -/
inductive KV : List AV → MapEntry → Prop
  | mk (v ks cv cvs born) (hv : PV v cv) (hk : PVs ks cvs) (hi : ks.all AV.isInt = true) : KV (v :: ks) ⟨.agg ⟨cvs⟩, cv, born⟩
inductive KVs : List (List AV) → List MapEntry → Prop
  | nil : KVs [] []
  | cons {r e rs es} (h : KV r e) (t : KVs rs es) : KVs (r :: rs) (e :: es)
/-- a block of the plain machine and the world's -/
inductive BRel (G : Gh) (h : AH) (c : Nat) (w : World) (g : Nat) : Blk → Prop
  | gone (hlt : G.blk g < w.heap.size) : BRel G h c w g .gone
  | var (cells vs elem lo hi) (hb : w.heap[G.blk g]? = some (.cells ⟨vs⟩ elem (lo, hi))) (hf : Unfz vs.length lo hi)
      (ht : vs.length = G.tot g) (hl : cells.length = G.ln g) (hR : ¬ G.R true (G.blk g)) (hcb : cells.all AV.cellb = true) (hc : LRel G h c w cells vs) : BRel G h c w g (.var cells)
  | arr (sz rows fz vs elem lo hi) (hsz : G.sz g = sz) (hb : w.heap[G.blk g]? = some (.cells ⟨vs⟩ elem (lo, hi))) (hf : UnfzS sz vs.length lo hi)
      (ht : vs.length = G.tot g) (hl : rows.length = G.ln g) (hz : 0 < G.sz g) (hin : G.base g + rows.length * G.sz g ≤ vs.length)
      (hR : if fz then G.R0 (G.blk g) else ¬ G.R true (G.blk g)) (hp : ∀ row ∈ rows, row.length = G.sz g ∧ row.all AV.plain = true)
      (hc : ∀ (i j : Nat) row v, rows[i]? = some row → row[j]? = some v → ∃ v', vs[G.base g + (i * G.sz g + j)]? = some v' ∧ VRel G h c w v v') : BRel G h c w g (.arr sz rows fz)

  | lp (st) (hb : w.heap[G.blk g]? = some (.loop (st.loop (G.lp g)))) (hR : ¬ G.R true (G.blk g)) : BRel G h c w g (.lp st)
  | mpb (rows es clock) (hb : w.heap[G.blk g]? = some (.map ⟨es⟩ clock)) (hR : ¬ G.R true (G.blk g)) (hk : KVs rows es) : BRel G h c w g (.mpb rows)

-- gone: its content is with a callee
theorem BRel.lt {G : Gh} {h : AH} {c : Nat} {w : World} {g : Nat} {b : Blk} (H : BRel G h c w g b) : G.blk g < w.heap.size := by
  cases H with
  | gone hlt => exact hlt
  | var _ _ _ _ _ y => exact (Array.getElem?_eq_some_iff.1 y).1
  | arr _ _ _ _ _ _ _ _ y => exact (Array.getElem?_eq_some_iff.1 y).1
  | lp _ y => exact (Array.getElem?_eq_some_iff.1 y).1
  | mpb _ _ _ y => exact (Array.getElem?_eq_some_iff.1 y).1

structure WRel (G : Gh) (h : AH) (c : Nat) (w : World) : Prop where
  gen : ∀ nm g b, h.get nm g = some b → g < c
  blk : ∀ nm g b, h.get nm g = some b → BRel G h c w g b
  apart : ∀ nm g nm' g', liveN h nm g → liveN h nm' g' → (nm = nm' ∧ g = g') ∨ G.blk g ≠ G.blk g'
  old : ∀ b, G.R true b → b < w.heap.size

/-- the package-level variables hold what they are said to, in memory that nobody writes -/
def GlobOK (R0 : Nat → Prop) (w : World) : Prop :=
  ∀ n cs, Globs.look n = some cs → R0 n ∧ cs.all AV.plain = true ∧ ∃ (vs : List Value) (el : TypeId) (fz : Nat × Nat), (∀ G h c w, LRel G h c w cs vs) ∧ w.heap[n]? = some (.cells ⟨vs⟩ el fz)
theorem cell_of_cells {w : World} {n : Nat} {vs : List Value} {el : TypeId} {fz : Nat × Nat} (h : w.heap[n]? = some (.cells ⟨vs⟩ el fz)) (j : Nat) {v : Value} (hj : vs[j]? = some v) : w.cell? ⟨n, j, none⟩ = some v := by
  obtain ⟨lo, hi⟩ := fz
  simp [World.cell?, h, hj]
theorem GlobOK.later {G G' h h' c c' w w'} (L : Later G G' h h' c c' w w') (H : GlobOK G.R0 w) : GlobOK G'.R0 w' := by
  intro n cs hn
  obtain ⟨h1, h2, vs, el, fz, h3, h4⟩ := H n cs hn
  exact ⟨L.r0 _ h1, h2, vs, el, fz, h3, (L.rw _ (.inl h1)).trans h4⟩
theorem GlobOK.rel {G : Gh} {h c w n cs} (H : GlobOK G.R0 w) (hn : Globs.look n = some cs) : VRel G h c w (.rptr cs) (.pointer (some ⟨n, 0, none⟩)) := by
  obtain ⟨h1, h2, vs, el, fz, h3, h4'⟩ := H n cs hn
  have h4 : ∀ (j : Nat) v, vs[j]? = some v → w.cell? ⟨n, j, none⟩ = some v := fun j v hj => cell_of_cells h4' j hj
  refine .rptr cs ⟨n, 0, none⟩ (fun j => vs.getD j undef) (fun _ => ⟨.inl h1, rfl⟩) h2 (fun j v hj => ?_) (fun j v hj => ?_)
  · obtain ⟨v', e, _⟩ := (h3 G h c w).2 j v hj
    have := h4 j v' e
    simpa [List.getD, e] using this
  · obtain ⟨v', e, r⟩ := (h3 G h c w).2 j v hj
    simpa [List.getD, e] using r

structure EnvRel (G : Gh) (h : AH) (c : Nat) (w : World) (env : Env) (a : Act) : Prop where
  tm : ∀ n v, envGet env n = some v → n < a.tmps.size ∧ VRel G h c w v (a.tmps.getD n undef)
  gl : GlobOK G.R0 w

/-- what one step does to the world -/
structure Stp (G G' : Gh) (h h' : AH) (c c' : Nat) (w w' : World) : Prop extends Later G G' h h' c c' w w' where
  r1' : ∀ b, G'.R1 b → G.R1 b
  size : w.heap.size ≤ w'.heap.size
  os : w'.os = w.os
  tape : w'.tape = w.tape
  output : w'.output = w.output
  keep : ∀ b, b < w.heap.size → (∀ nm g, liveN h nm g → G.blk g ≠ b) → w'.heap[b]? = w.heap[b]?
  /-- what the call owns behind it, it owned ahead of it, or it is new -/
  owns : ∀ nm g, liveN h' nm g → (∃ nm' g', liveN h nm' g' ∧ G.blk g' = G'.blk g) ∨ w.heap.size ≤ G'.blk g
  froze : ∀ b, G'.R0 b → G.R0 b ∨ (∃ nm g, liveN h nm g ∧ G.blk g = b) ∨ w.heap.size ≤ b

end Go.Abs

namespace Go.Abs
variable [Globs]
open Go

theorem get_put (h : AH) (nm g : Nat) (b : Blk) (nm' g' : Nat) :
    (h.put nm g b).get nm' g' = if nm' = nm then (if g' = g then some b else none) else h.get nm' g' := by
  induction h with
  | nil =>
    simp only [AH.put, AH.get, Nat.beq_eq]
    by_cases h1 : nm' = nm
    · subst h1; by_cases h2 : g' = g
      · subst h2; simp
      · simp [h2, Ne.symm h2]
    · simp [h1, Ne.symm h1]
  | cons e r ih =>
    simp only [AH.put]
    by_cases he : Nat.beq e.nm nm = true
    · have he' : e.nm = nm := by simpa using he
      simp only [he, if_true, AH.get, Nat.beq_eq]
      by_cases h1 : nm' = nm
      · subst h1; by_cases h2 : g' = g
        · subst h2; simp
        · simp [h2, Ne.symm h2]
      · rw [if_neg (fun e => h1 e.symm), if_neg h1, if_neg (fun e' => h1 (by rw [← e', he']))]
    · have he' : ¬ e.nm = nm := by simpa using he
      simp only [he, Bool.false_eq_true, if_false]
      by_cases hl : Nat.blt nm e.nm = true
      · simp only [hl, if_true, AH.get, Nat.beq_eq]
        by_cases h1 : nm' = nm
        · subst h1; by_cases h2 : g' = g
          · subst h2; simp
          · simp [h2, Ne.symm h2]
        · rw [if_neg (fun e => h1 e.symm), if_neg h1]
      · simp only [hl, Bool.false_eq_true, if_false, AH.get, ih, Nat.beq_eq]
        by_cases h3 : e.nm = nm'
        · have hn : ¬ nm' = nm := fun e' => he' (h3.trans e')
          simp [h3, hn]
        · simp only [h3, if_false]

theorem live_put {h : AH} {nm g : Nat} {b : Blk} {nm' g' : Nat} : live (h.put nm g b) nm' g' ↔ (nm' = nm ∧ g' = g) ∨ (nm' ≠ nm ∧ live h nm' g') := by
  unfold live
  rw [get_put]
  by_cases h1 : nm' = nm
  · by_cases h2 : g' = g <;> simp [h1, h2]
  · simp [h1]

theorem get_del (h : AH) (nm nm' g' : Nat) : (h.del nm).get nm' g' = if nm' = nm then none else h.get nm' g' := by
  induction h with
  | nil => simp [AH.del, AH.get]
  | cons e r ih =>
    simp only [AH.del]
    by_cases he : Nat.beq e.nm nm = true
    · have he' : e.nm = nm := by simpa using he
      simp only [he, if_true, ih, AH.get, Nat.beq_eq]
      by_cases h1 : nm' = nm
      · simp [h1]
      · rw [if_neg h1, if_neg h1, if_neg (fun e' => h1 (by rw [← e', he']))]
    · have he' : ¬ e.nm = nm := by simpa using he
      simp only [he, Bool.false_eq_true, if_false, AH.get, ih, Nat.beq_eq]
      by_cases h3 : e.nm = nm'
      · have hn : ¬ nm' = nm := fun e' => he' (h3.trans e')
        simp [h3, hn]
      · simp only [h3, if_false]

theorem any_beq (ns : List Nat) (n : Nat) : ns.any (Nat.beq n) = true ↔ n ∈ ns := by
  simp

theorem get_hide (ns : List Nat) (h : AH) (nm g : Nat) : (h.hide ns).get nm g = if nm ∈ ns then none else h.get nm g := by
  induction h with
  | nil => simp [AH.hide, AH.get]
  | cons e r ih =>
    simp only [AH.hide]
    by_cases he : e.nm ∈ ns
    · rw [if_pos ((any_beq _ _).2 he), ih]
      by_cases h1 : nm ∈ ns
      · simp [h1]
      · simp only [h1, if_false, AH.get, Nat.beq_eq]
        rw [if_neg (fun e' : e.nm = nm => h1 (e' ▸ he))]
    · rw [if_neg (fun x => he ((any_beq _ _).1 x))]
      simp only [AH.get, ih, Nat.beq_eq]
      by_cases h3 : e.nm = nm
      · simp only [h3, if_true]; rw [if_neg (fun x => he (h3 ▸ x))]
      · simp only [h3, if_false]

theorem get_only (ns : List Nat) (h : AH) (nm g : Nat) : (h.only ns).get nm g = if nm ∈ ns then h.get nm g else none := by
  induction h with
  | nil => simp [AH.only, AH.get]
  | cons e r ih =>
    simp only [AH.only]
    by_cases he : e.nm ∈ ns
    · rw [if_pos ((any_beq _ _).2 he)]
      simp only [AH.get, ih, Nat.beq_eq]
      by_cases h3 : e.nm = nm
      · have hn : nm ∈ ns := h3 ▸ he
        simp [h3, hn]
      · simp only [h3, if_false]
    · rw [if_neg (fun x => he ((any_beq _ _).1 x)), ih]
      by_cases h1 : nm ∈ ns
      · simp only [h1, if_true, AH.get, Nat.beq_eq]
        rw [if_neg (fun e' : e.nm = nm => he (e' ▸ h1))]
      · simp [h1]

theorem envGet_set (env : Env) (n : Nat) (v : AV) (m : Nat) : envGet (envSet env n v) m = if m = n then some v else envGet env m := by
  induction env with
  | nil => simp only [envSet, envGet, Nat.beq_eq]; by_cases h : n = m
           · subst h; simp
           · rw [if_neg h, if_neg (fun e : m = n => h e.symm)]
  | cons e r ih =>
    obtain ⟨k, u⟩ := e
    simp only [envSet]
    by_cases he : Nat.beq k n = true
    · have he' : k = n := by simpa using he
      simp only [he, if_true, envGet, Nat.beq_eq]
      by_cases h1 : m = n
      · simp [h1]
      · rw [if_neg (fun e => h1 e.symm), if_neg h1, if_neg (fun e' => h1 (by rw [← e', he']))]
    · have he' : ¬ k = n := by simpa using he
      simp only [he, Bool.false_eq_true, if_false]
      by_cases hl : Nat.blt n k = true
      · simp only [hl, if_true, envGet, Nat.beq_eq]
        by_cases h1 : m = n
        · simp [h1]
        · rw [if_neg (fun e => h1 e.symm), if_neg h1]
      · simp only [hl, Bool.false_eq_true, if_false, envGet, ih, Nat.beq_eq]
        by_cases h3 : k = m
        · simp only [h3, if_true]; rw [if_neg (fun e' => he' (by rw [h3, e']))]
        · simp only [h3, if_false]

theorem envGet_del (env : Env) (n m : Nat) : envGet (envDel env n) m = if m = n then none else envGet env m := by
  induction env with
  | nil => simp [envDel, envGet]
  | cons e r ih =>
    obtain ⟨k, u⟩ := e
    simp only [envDel]
    by_cases he : Nat.beq k n = true
    · have he' : k = n := by simpa using he
      simp only [he, if_true, ih, envGet, Nat.beq_eq]
      by_cases h1 : m = n
      · simp [h1]
      · rw [if_neg h1, if_neg h1, if_neg (fun e' => h1 (by rw [← e', he']))]
    · have he' : ¬ k = n := by simpa using he
      simp only [he, Bool.false_eq_true, if_false, envGet, ih, Nat.beq_eq]
      by_cases h3 : k = m
      · simp only [h3, if_true]; rw [if_neg (fun e' => he' (by rw [h3, e']))]
      · simp only [h3, if_false]

theorem envGet_only (ns : List Nat) (env : Env) (m : Nat) : envGet (envOnly ns env) m = if m ∈ ns then envGet env m else none := by
  induction env with
  | nil => simp [envOnly, envGet]
  | cons e r ih =>
    obtain ⟨k, u⟩ := e
    simp only [envOnly]
    by_cases he : k ∈ ns
    · rw [if_pos ((any_beq _ _).2 he)]
      simp only [envGet, ih, Nat.beq_eq]
      by_cases h3 : k = m
      · simp only [h3, if_true]; rw [if_pos (h3 ▸ he)]
      · simp only [h3, if_false]
    · rw [if_neg (fun x => he ((any_beq _ _).1 x)), ih]
      by_cases h1 : m ∈ ns
      · simp only [h1, if_true, envGet, Nat.beq_eq]
        rw [if_neg (fun e' : k = m => he (e' ▸ h1))]
      · simp [h1]

/- ---------------------------------------------------------------- steps -/
theorem Stp.refl (G : Gh) (h : AH) (c : Nat) (w : World) : Stp G G h h c c w w where
  gh := fun _ _ => ⟨rfl, rfl, rfl, rfl, rfl⟩
  r0 := fun _ x => x
  r1 := fun _ x => x
  opq := rfl
  cc := Nat.le_refl _
  lv := fun _ _ _ x => x
  rw := fun _ _ => rfl
  r1' := fun _ x => x
  size := Nat.le_refl _
  os := rfl
  tape := rfl
  output := rfl
  keep := fun _ _ _ => rfl
  owns := fun nm g x => .inl ⟨nm, g, x, rfl⟩
  froze := fun _ x => .inl x

theorem Later.trans {G1 G2 G3 h1 h2 h3 c1 c2 c3 w1 w2 w3} (A : Later G1 G2 h1 h2 c1 c2 w1 w2) (B : Later G2 G3 h2 h3 c2 c3 w2 w3) : Later G1 G3 h1 h3 c1 c3 w1 w3 where
  gh := fun g hg => by
    obtain ⟨a1, a2, a3, a4, a5⟩ := A.gh g hg
    obtain ⟨b1, b2, b3, b4, b5⟩ := B.gh g (Nat.lt_of_lt_of_le hg A.cc)
    exact ⟨b1.trans a1, b2.trans a2, b3.trans a3, b4.trans a4, b5.trans a5⟩
  r0 := fun b x => B.r0 b (A.r0 b x)
  r1 := fun b x => B.r1 b (A.r1 b x)
  opq := B.opq.trans A.opq
  cc := Nat.le_trans A.cc B.cc
  lv := fun nm g hg x => A.lv nm g hg (B.lv nm g (Nat.lt_of_lt_of_le hg A.cc) x)
  rw := fun b hb => (B.rw b (Gh.R_mono A.r0 A.r1 hb)).trans (A.rw b hb)
  lpf := fun g hg => (B.lpf g (Nat.lt_of_lt_of_le hg A.cc)).trans (A.lpf g hg)

theorem Stp.trans {G1 G2 G3 h1 h2 h3 c1 c2 c3 w1 w2 w3} (A : Stp G1 G2 h1 h2 c1 c2 w1 w2) (B : Stp G2 G3 h2 h3 c2 c3 w2 w3) : Stp G1 G3 h1 h3 c1 c3 w1 w3 where
  toLater := A.toLater.trans B.toLater
  r1' := fun b x => A.r1' b (B.r1' b x)
  size := Nat.le_trans A.size B.size
  os := B.os.trans A.os
  tape := B.tape.trans A.tape
  output := B.output.trans A.output
  keep := fun b hb hn => by
    refine (B.keep b (Nat.lt_of_lt_of_le hb A.size) ?_).trans (A.keep b hb hn)
    intro nm g hl e
    rcases A.owns nm g hl with ⟨nm', g', hl', e'⟩ | hge
    · exact hn nm' g' hl' (e'.trans e)
    · omega
  owns := fun nm g hl => by
    rcases B.owns nm g hl with ⟨nm', g', hl', e'⟩ | hge
    · rcases A.owns nm' g' hl' with ⟨n2, g2, l2, e2⟩ | hge
      · exact .inl ⟨n2, g2, l2, e2.trans e'⟩
      · exact .inr (e' ▸ hge)
    · exact .inr (Nat.le_trans A.size hge)
  froze := fun b hb => by
    rcases B.froze b hb with h | ⟨nm, g, hl, e⟩ | hge
    · exact A.froze b h
    · rcases A.owns nm g hl with ⟨n2, g2, l2, e2⟩ | hge
      · exact .inr (.inl ⟨n2, g2, l2, e2.trans e⟩)
      · exact .inr (.inr (e ▸ hge))
    · exact .inr (.inr (Nat.le_trans A.size hge))

/-- the world draws, the plain machine does not see it -/
theorem Stp.drew (G : Gh) (h : AH) (c : Nat) (w : World) : Stp G G h h c c w { w with drawn := w.drawn + 1 } :=
  { Stp.refl G h c w with }

theorem Later.sameHeap (G : Gh) (h : AH) (c : Nat) (w w' : World) (e : w'.heap = w.heap) : Later G G h h c c w w' :=
  { (Stp.refl G h c w).toLater with rw := fun b _ => by rw [e] }

theorem BRel.later {G G' h h' c c' w w' g b} (L : Later G G' h h' c c' w w') (hg : g < c) (hb : w'.heap[G.blk g]? = w.heap[G.blk g]?)
    (hR : G'.R true (G.blk g) → G.R true (G.blk g)) (hsz : G.blk g < w.heap.size → G.blk g < w'.heap.size) (H : BRel G h c w g b) : BRel G' h' c' w' g b := by
  obtain ⟨e1, e2, e3, e4, e5⟩ := L.gh g hg
  cases H with
  | gone hlt => exact .gone (by rw [e1]; exact hsz hlt)
  | lp st h1 hr => exact .lp st (by rw [e1, hb, h1, L.lpf g hg]) (by rw [e1]; exact fun x => hr (hR x))
  | mpb rows es clock h1 hr hk => exact .mpb rows es clock (by rw [e1, hb, h1]) (by rw [e1]; exact fun x => hr (hR x)) hk
  | var cells vs elem lo hi h1 hf ht hl hr hcb hc => exact .var cells vs elem lo hi (by rw [e1, hb, h1]) hf (ht.trans e5.symm) (hl.trans e4.symm) (by rw [e1]; exact fun x => hr (hR x)) hcb (hc.later L)
  | arr sz rows fz vs elem lo hi hsz h1 hf ht hl hz hin hr hp hc =>
    refine .arr sz rows fz vs elem lo hi (e3.trans hsz) (by rw [e1, hb, h1]) hf (ht.trans e5.symm) (hl.trans e4.symm) (by rw [e3]; exact hz) (by rw [e2, e3]; exact hin) ?_ (by rw [e3]; exact hp) ?_
    · rw [e1]; cases fz with
      | true => exact L.r0 _ hr
      | false => exact fun x => hr (hR x)
    · intro i j row v x1 x2
      obtain ⟨v', y1, y2⟩ := hc i j row v x1 x2
      exact ⟨v', by rw [e2, e3]; exact y1, y2.later L⟩

theorem liveN_put {h : AH} {nm g : Nat} {b : Blk} {nm' g' : Nat} (x : liveN (h.put nm g b) nm' g') : (nm' = nm ∧ g' = g) ∨ (nm' ≠ nm ∧ liveN h nm' g') := by
  obtain ⟨b', y, n⟩ := x
  rw [get_put] at y
  split at y
  · next e =>
    split at y
    · next e2 => exact .inl ⟨e, e2⟩
    · cases y
  · next e => exact .inr ⟨e, b', y, n⟩

/-- one name is bound anew; all else stays -/
theorem WRel.put {G G' h c c' w w' nm g' b'} (W : WRel G h c w) (L : Later G G' h (h.put nm g' b') c c' w w') (hsz : w.heap.size ≤ w'.heap.size)
    (hk : ∀ nm2 g2, nm2 ≠ nm → liveN h nm2 g2 → w'.heap[G.blk g2]? = w.heap[G.blk g2]? ∧ (b' ≠ .gone → G'.blk g' ≠ G.blk g2) ∧ (G'.R true (G.blk g2) → G.R true (G.blk g2)))
    (hg : g' < c') (hb : BRel G' (h.put nm g' b') c' w' g' b') (ho : ∀ b, G'.R true b → b < w'.heap.size) : WRel G' (h.put nm g' b') c' w' where
  gen := fun n g b x => by
    rw [get_put] at x
    split at x
    · split at x
      · next e => subst e; exact hg
      · simp at x
    · exact Nat.lt_of_lt_of_le (W.gen n g b x) L.cc
  blk := fun n g b x => by
    rw [get_put] at x
    split at x
    · split at x
      · next e => subst e; simp only [Option.some.injEq] at x; subst x; exact hb
      · simp at x
    · next hn =>
      by_cases hgn : b = .gone
      · subst hgn
        cases W.blk n g _ x with
        | gone hlt => exact .gone (by rw [(L.gh g (W.gen n g _ x)).1]; omega)
      · obtain ⟨k1, k2, k3⟩ := hk n g hn ⟨b, x, hgn⟩
        exact (W.blk n g b x).later L (W.gen n g b x) k1 k3 (fun hlt => by omega)
  apart := fun n1 g1 n2 g2 l1 l2 => by
    have gn : b' ≠ .gone ∨ b' = .gone := (Classical.em _).symm
    rcases liveN_put l1 with ⟨e1, e1'⟩ | ⟨h1, l1'⟩ <;> rcases liveN_put l2 with ⟨e2, e2'⟩ | ⟨h2, l2'⟩
    · exact .inl ⟨e1.trans e2.symm, e1'.trans e2'.symm⟩
    · have hlt : g2 < c := by obtain ⟨b, x, _⟩ := l2'; exact W.gen _ _ _ x
      have hb' : b' ≠ .gone := by
        obtain ⟨b, x, n⟩ := l1
        subst e1; subst e1'
        rw [get_put, if_pos rfl, if_pos rfl] at x
        obtain rfl := Option.some.inj x; exact n
      rw [(L.gh g2 hlt).1, e1']; exact .inr ((hk n2 g2 h2 l2').2.1 hb')
    · have hlt : g1 < c := by obtain ⟨b, x, _⟩ := l1'; exact W.gen _ _ _ x
      have hb' : b' ≠ .gone := by
        obtain ⟨b, x, n⟩ := l2
        subst e2; subst e2'
        rw [get_put, if_pos rfl, if_pos rfl] at x
        obtain rfl := Option.some.inj x; exact n
      rw [(L.gh g1 hlt).1, e2']; exact .inr (fun e => (hk n1 g1 h1 l1').2.1 hb' e.symm)
    · have hlt1 : g1 < c := by obtain ⟨b, x, _⟩ := l1'; exact W.gen _ _ _ x
      have hlt2 : g2 < c := by obtain ⟨b, x, _⟩ := l2'; exact W.gen _ _ _ x
      rw [(L.gh g1 hlt1).1, (L.gh g2 hlt2).1]; exact W.apart _ _ _ _ l1' l2'
  old := ho

/-- fewer names -/
theorem WRel.fewer {G h h' c w} (W : WRel G h c w) (hs : ∀ nm g b, h'.get nm g = some b → h.get nm g = some b) : WRel G h' c w := by
  have L : Later G G h h' c c w w := { (Stp.refl G h c w).toLater with lv := fun nm g _ x => by obtain ⟨b, x⟩ := x; exact ⟨b, hs _ _ _ x⟩ }
  exact { gen := fun nm g b x => W.gen nm g b (hs _ _ _ x)
          blk := fun nm g b x => (W.blk nm g b (hs _ _ _ x)).later L (W.gen nm g b (hs _ _ _ x)) rfl id id
          apart := fun n1 g1 n2 g2 l1 l2 => W.apart _ _ _ _ (by obtain ⟨b, x, n⟩ := l1; exact ⟨b, hs _ _ _ x, n⟩) (by obtain ⟨b, x, n⟩ := l2; exact ⟨b, hs _ _ _ x, n⟩)
          old := W.old }
theorem Later.fewer {G h h' c w} (hs : ∀ nm g b, h'.get nm g = some b → h.get nm g = some b) : Later G G h h' c c w w :=
  { (Stp.refl G h c w).toLater with lv := fun nm g _ x => by obtain ⟨b, x⟩ := x; exact ⟨b, hs _ _ _ x⟩ }

end Go.Abs

namespace Go.Abs
variable [Globs]
open Go

/- ---------------------------------------------------------------- does our operation fit the program's? -/
mutual
def vFit : Value → AV → Bool
  | .int k n, .int k' n' => decide (k = k') && n == n'
  | .bool b, .bool b' => b == b'
  | .string s, .str s' => s.data.toList == s'.data.toList
  | .slice none 0 0, .nilS => true
  | .pointer none, .nilP => true
  | .nilFunc, .nilF => true
  | .map none, .nilM => true
  | .nilIface, .nilI => true
  | .iface .., .ifc => true
  | .agg ⟨cs⟩, .agg as => vFitL cs as
  | _, _ => false
def vFitL : List Value → List AV → Bool
  | [], [] => true
  | v :: r, a :: as => vFit v a && vFitL r as
  | _, _ => false
end

def xFit : Operand → X → Bool
  | .tmp t, .t n => t == n
  | .const v, .c a => vFit v a
  | .func f, .c (.fn g []) => f == g
  | .global v, .g n => v == n
  | _, _ => false

def xsFit : List Operand → List X → Bool
  | [], [] => true
  | x :: xs, y :: ys => xFit x y && xsFit xs ys
  | _, _ => false

def xoFit : Option Operand → Option X → Bool
  | none, none => true
  | some x, some y => xFit x y
  | _, _ => false

/-- is it a struct or an array, and of how many cells? -/
def aggB (P : Program) (t : TypeId) : Option Bool :=
  match P.underlying t with
  | some (.struct _) => some true
  | some (.array _ _) => some true
  | some _ => some false
  | none => none
def sizeB (P : Program) (t : TypeId) (n : Nat) : Bool := match P.info? t with | some i => i.size == n | none => false
def nFit (P : Program) (t : TypeId) : Option Nat → Bool
  | some n => (aggB P t == some true) && sizeB P t n
  | none => aggB P t == some false
def zFit (P : Program) (t : TypeId) (z : List AV) : Bool :=
  match P.info? t with
  | some i => match i.zero with
    | some v => vFitL v.cells.toList z && z.all AV.plain
    | none => false
  | none => false
def intB (P : Program) (t : TypeId) : Option IntKind := match P.underlying t with | some (.int k) => some k | _ => none
def elemB (P : Program) (t : TypeId) : Option TypeId := match P.underlying t with | some (.slice e) => some e | _ => none
def bytesB (P : Program) (t : TypeId) (n : Nat) : Bool := match P.info? t with | some i => i.bytes == n | none => false
def strB (P : Program) (t : TypeId) : Bool := match P.underlying t with | some .string => true | _ => false

/- ---------------------------------------------------------------- what fits reads alike -/
mutual
theorem vFit_rel {G h c w} : ∀ {v a}, vFit v a = true → VRel G h c w a v
  | .int k n, a, H => by
    cases a <;> simp [vFit] at H
    obtain ⟨rfl, rfl⟩ := H; exact .int _ _
  | .bool b, a, H => by cases a <;> simp [vFit] at H; subst H; exact .bool _
  | .string s, a, H => by
    cases a <;> simp [vFit] at H
    rename_i s'
    have : s = s' := by cases s; cases s'; simp_all
    subst this; exact .str _
  | .slice none 0 0, a, H => by cases a <;> simp [vFit] at H; exact .nilS
  | .pointer none, a, H => by cases a <;> simp [vFit] at H; exact .nilP
  | .nilFunc, a, H => by cases a <;> simp [vFit] at H; exact .nilF
  | .map none, a, H => by cases a <;> simp [vFit] at H; exact .nilM
  | .nilIface, a, H => by cases a <;> simp [vFit] at H; exact .nilI
  | .iface t v, a, H => by cases a <;> simp [vFit] at H; exact .ifc t v
  | .agg ⟨cs⟩, a, H => by
    cases a <;> simp [vFit] at H
    exact .agg_mk (vFitL_rel H)
  | .slice none 0 (_ + 1), a, H => by simp [vFit] at H
  | .slice none (_ + 1) _, a, H => by simp [vFit] at H
  | .slice (some _) _ _, a, H => by simp [vFit] at H
  | .pointer (some _), a, H => by simp [vFit] at H
  | .map (some _), a, H => by simp [vFit] at H
  | .float .., a, H => by simp [vFit] at H
  | .complex .., a, H => by simp [vFit] at H
  | .chan _, a, H => by simp [vFit] at H
  | .func .., a, H => by simp [vFit] at H
  | .tuple _, a, H => by simp [vFit] at H
theorem vFitL_rel {G h c w} : ∀ {cs as}, vFitL cs as = true → LRel G h c w as cs
  | [], [], _ => .nil
  | v :: r, a :: as, H => by
    simp [vFitL] at H
    exact .cons (vFit_rel H.1) (vFitL_rel H.2)
  | [], _ :: _, H => by simp [vFitL] at H
  | _ :: _, [], H => by simp [vFitL] at H
end

theorem xFit_rel {G h c w env a o x v} (hx : xFit o x = true) (E : EnvRel G h c w env a) (hv : Env.x env x = some v) : VRel G h c w v (a.eval o) := by
  cases o with
  | tmp t =>
    cases x with
    | t n => simp [xFit] at hx; subst hx; exact (E.tm t v hv).2
    | c a => simp [xFit] at hx
    | g n => simp [xFit] at hx
  | const u =>
    cases x with
    | t n => simp [xFit] at hx
    | g n => simp [xFit] at hx
    | c a => simp [xFit] at hx; simp [Env.x] at hv; subst hv; exact vFit_rel hx
  | global g =>
    cases x with
    | t n => simp [xFit] at hx
    | c a => simp [xFit] at hx
    | g n =>
      simp [xFit] at hx; subst hx
      simp only [Env.x, Option.map_eq_some_iff] at hv
      obtain ⟨cs, h1, rfl⟩ := hv
      exact E.gl.rel h1
  | func f =>
    cases x with
    | t n => simp [xFit] at hx
    | g n => simp [xFit] at hx
    | c a =>
      cases a with
      | fn g cs =>
        cases cs with
        | nil => simp [xFit] at hx; simp [Env.x] at hv; subst hv; subst hx; exact .fn_mk .nil
        | cons => simp [xFit] at hx
      | _ => simp [xFit] at hx

theorem xsFit_rel {G h c w env a} (E : EnvRel G h c w env a) : ∀ {os xs vs}, xsFit os xs = true → argVals env xs = some vs → LRel G h c w vs (os.map a.eval)
  | [], [], vs, _, hv => by simp [argVals] at hv; subst hv; exact .nil
  | o :: os, x :: xs, vs, hx, hv => by
    simp [xsFit] at hx
    simp only [argVals, Option.bind_eq_some_iff, Option.map_eq_some_iff] at hv
    obtain ⟨v, h1, vs', h2, rfl⟩ := hv
    exact .cons (xFit_rel hx.1 E h1) (xsFit_rel E hx.2 h2)
  | [], _ :: _, _, hx, _ => by simp [xsFit] at hx
  | _ :: _, [], _, hx, _ => by simp [xsFit] at hx

theorem EnvRel.later {G G' h h' c c' w w' env a} (L : Later G G' h h' c c' w w') (E : EnvRel G h c w env a) : EnvRel G' h' c' w' env a :=
  ⟨fun n v hv => ⟨(E.tm n v hv).1, (E.tm n v hv).2.later L⟩, E.gl.later L⟩

/- ---------------------------------------------------------------- types -/
section
variable {P : Program} {w : World}
theorem run_underlying {t : TypeId} {d : TypeDesc} (h : P.underlying t = some d) : (underlying t).run P w = .ok d w := by
  simp [underlying, h]
theorem run_typeInfo {t : TypeId} {i : TypeInfo} (h : P.info? t = some i) : (typeInfo t).run P w = .ok i w := by
  simp [typeInfo, h]
theorem run_sizeOf {t : TypeId} {n : Nat} (h : sizeB P t n = true) : (sizeOf t).run P w = .ok n w := by
  unfold sizeB at h
  cases hi : P.info? t with
  | none => simp [hi] at h
  | some i => simp [hi] at h; simp [sizeOf, run_typeInfo hi, h]
theorem run_isAgg {t : TypeId} {b : Bool} (h : aggB P t = some b) : (isAgg t).run P w = .ok b w := by
  unfold aggB at h
  cases hu : P.underlying t with
  | none => simp [hu] at h
  | some d =>
    rw [hu] at h
    cases d <;> simp at h <;> subst h <;> simp [isAgg, run_underlying hu]
theorem run_zeroValue {t : TypeId} {z : List AV} (h : zFit P t z = true) : ∃ v, (zeroValue t).run P w = .ok v w ∧ (∀ G hh c w, LRel G hh c w z v.cells.toList) ∧ z.all AV.plain = true := by
  unfold zFit at h
  cases hi : P.info? t with
  | none => simp [hi] at h
  | some i =>
    rw [hi] at h
    cases hz : i.zero with
    | none => simp [hz] at h
    | some v =>
      simp only [hz, Bool.and_eq_true] at h
      exact ⟨v, by simp [zeroValue, run_typeInfo hi, hz], fun _ _ _ _ => vFitL_rel h.1, h.2⟩
end

/-- one operation, done -/
def OpOK (P : Program) (o : Oper) (a : Act) (G : Gh) (h : AH) (c : Nat) (w : World) (r : AV × AH × Nat) : Prop :=
  ∃ nx w' G', (execOp a.eval o).run P w = .ok nx w' ∧ Stp G G' h r.2.1 c r.2.2 w w' ∧ WRel G' r.2.1 r.2.2 w' ∧
    ((∃ cv, nx = .value cv ∧ VRel G' r.2.1 r.2.2 w' r.1 cv) ∨ (nx = .skip ∧ o.dst = none))

theorem OpOK.quiet {P o a G h c w v cv} (W : WRel G h c w) (hr : (execOp a.eval o).run P w = .ok (.value cv) w) (hv : VRel G h c w v cv) : OpOK P o a G h c w (v, h, c) :=
  ⟨_, w, G, hr, .refl _ _ _ _, W, .inl ⟨cv, rfl, hv⟩⟩

end Go.Abs

namespace Go.Abs
variable [Globs]
open Go

def scalB (P : Program) (t : TypeId) : Bool := match P.underlying t with | some (.int _) | some .string => true | _ => false
def boolB (P : Program) (t : TypeId) : Bool := match P.underlying t with | some .bool => true | _ => false
def nilB (P : Program) (t : TypeId) (y : Operand) (kd : Nat) : Bool := match P.underlying t, y, kd with
  | some (.slice _), .const (.slice none 0 0), 0 => true
  | some (.pointer _), .const (.pointer none), 1 => true
  | some (.func _ _ _), .const .nilFunc, 2 => true
  | some (.map _ _), .const (.map none), 3 => true
  | some (.interface ..), .const .nilIface, 4 => true
  | _, _, _ => false

def zszB (P : Program) (t : TypeId) (n : Nat) : Bool := match P.info? t with | some i => (match i.zero with | some z => z.cells.size == n | none => false) | none => false

def partsFit (P : Program) (place : Nat → Option (Nat × Nat)) : List (Nat × Operand) → List (Nat × Nat × X) → Bool
  | [], [] => true
  | (i, x) :: r, (off, sz, y) :: q => (place i == some (off, sz)) && xFit x y && partsFit P place r q
  | _, _ => false
def rowsFit : List (Nat × Operand) → List (Nat × X) → Bool
  | [], [] => true
  | (i, x) :: r, (j, y) :: q => i == j && xFit x y && rowsFit r q
  | _, _ => false
def fieldsSizes (P : Program) (fs : List Field) : Option (List (Nat × Nat)) :=
  match fs with
  | [] => some []
  | f :: r => match P.info? f.type with
    | some i => (fieldsSizes P r).map ((f.offset, i.size) :: ·)
    | none => none

def buildFit (P : Program) (t : TypeId) (z : List AV) (ps : List (Nat × Operand)) (qs : List (Nat × Nat × X)) : Bool :=
  zFit P t z && match P.underlying t with
  | some (.struct fs) => match fieldsSizes P fs.toList with
    | some l => partsFit P (fun i => l[i]?) ps qs
    | none => false
  | some (.array _ e) => match P.info? e with
    | some i => partsFit P (fun j => some (j * i.size, i.size)) ps qs
    | none => false
  | _ => false

/- equality of structs and arrays whose cells are whole numbers (0), bools (1), strings (2): the cells' kinds -/
def flatFs (P : Program) (q : TypeId → Option (List Nat)) : Nat → List Field → Option (List Nat)
  | _, [] => some []
  | off, f :: r => if f.name != "_" && f.offset == off then
      match q f.type with
      | some ks => if sizeB P f.type ks.length then (flatFs P q (off + ks.length) r).map (ks ++ ·) else none
      | none => none
    else none
def flatT (P : Program) : Nat → TypeId → Option (List Nat)
  | 0, _ => none
  | d + 1, t => match P.underlying t with
    | some (.int _) => if sizeB P t 1 then some [0] else none
    | some .bool => if sizeB P t 1 then some [1] else none
    | some .string => if sizeB P t 1 then some [2] else none
    | some (.struct fs) => if P.stoodInHeld t then none else flatFs P (flatT P d) 0 fs.toList
    | some (.array n e) => match flatT P d e with
      | some ks => if sizeB P e ks.length then some (List.replicate n ks).flatten else none
      | none => none
    | _ => none

def zvFit (P : Program) (t : TypeId) (z : AV) : Bool := match P.info? t with | some i => (match i.zero with | some v => vFit v z | none => false) | none => false
/-- keys of structs of whole numbers -/
def keyFit (P : Program) (t : TypeId) (kk : List Nat) : Bool := flatT P 100 t == some kk && aggB P t == some true && match P.underlying t with
  | some (.struct fs) => fs.toList.all fun f => (intB P f.type).isSome && nFit P f.type none && decide (f.offset < kk.length)
  | _ => false
def opFit (P : Program) (dst : Option Tmp) (op : Op) (ao : AOp) : Bool :=
  match op, ao with
  | .move x, .mov y => xFit x y
  | .assign x, .mov y => xFit x y
  | .move x, .frz y => xFit x y
  | .assign x, .frz y => xFit x y
  | .pick c a b, .pick c' a' b' => xFit c c' && xFit a a' && xFit b b'
  | .alloc t, .alloc _ z => zFit P t z
  | .box t x, .box _ y => xFit x y && (P.info? t).isSome
  | .build t ps, .build z qs => buildFit P t z ps.toList qs
  | .buildSlice t len ps, .bslice _ sz z len' qs => match elemB P t with
    | some e => len == len' && zFit P e z && sizeB P e sz && z.length == sz && decide (0 < sz) && decide (len * sz ≤ 2 ^ 24) && decide (0 < len) && rowsFit ps.toList qs
    | none => false
  | .load t x, .load n y => nFit P t n && !(n == some 0) && xFit x y
  | .store t x v, .store n y u => sizeB P t n && decide (0 < n) && xFit x y && xFit v u && dst.isNone
  | .nilCheck x, .nilck y => xFit x y
  | .binOp op t x y _, .bin op' x' y' => decide (op = op') && scalB P t && xFit x x' && xFit y y'
  | .binOp .eql t x y _, .isnil false kd x' => nilB P t y kd && xFit x x'
  | .binOp .neq t x y _, .isnil true kd x' => nilB P t y kd && xFit x x'
  | .binOp .eql t x y _, .eqa false ks x' y' => flatT P 100 t == some ks && aggB P t == some true && !P.eqGuardType P.depth t && xFit x x' && xFit y y'
  | .binOp .neq t x y _, .eqa true ks x' y' => flatT P 100 t == some ks && aggB P t == some true && !P.eqGuardType P.depth t && xFit x x' && xFit y y'
  | .binOp .eql t x y _, .eqb false x' y' => boolB P t && xFit x x' && xFit y y'
  | .binOp .neq t x y _, .eqb true x' y' => boolB P t && xFit x x' && xFit y y'
  | .unOp op _ x, .un op' x' => decide (op = op') && xFit x x'
  | .convert s d x, .conv k y => (intB P s).isSome && intB P d == some k && xFit x y
  | .convert s d x, .sts y => strB P s && strB P d && xFit x y
  | .convert s d x, .idc y => match elemB P s with
    | some e => s == d && intB P e == some .u8 && xFit x y
    | none => false
  | .convert s d x, .b2s y => match elemB P s with
    | some e => strB P d && intB P e == some .u8 && xFit x y
    | none => false
  | .convert s d x, .s2b _ y => match elemB P d with
    | some e => strB P s && intB P e == some .u8 && sizeB P e 1 && xFit x y
    | none => false
  | .makeSlice t l q, .mks _ sz b z l' q' => match elemB P t with
    | some e => zFit P e z && sizeB P e sz && bytesB P e b && decide (0 < sz) && xFit l l' && xFit q q'
    | none => false
  | .slice t x lo hi mx, .slcS y lo' hi' => strB P t && xFit x y && xoFit lo lo' && xoFit hi hi' && mx.isNone
  | .slice t x lo hi mx, .slc sz y lo' hi' mx' => (match elemB P t with | some e => sizeB P e sz && decide (0 < sz) | none => false) && xFit x y && xoFit lo lo' && xoFit hi hi' && xoFit mx mx'
  | .slice t x lo hi mx, .slca n y lo' hi' => (match P.underlying t with
      | some (.array k e) => k == n && sizeB P e 1
      | some (.pointer u) => match P.underlying u with | some (.array k e) => k == n && sizeB P e 1 | _ => false
      | _ => false) && xFit x y && xoFit lo lo' && xoFit hi hi' && mx.isNone
  | .fieldAddr t x f, .fad off y => (match P.underlying t with
      | some (.struct fs) => match fs[f]? with | some f => f.offset == off && (P.info? f.type).isSome && !sizeB P f.type 0 | none => false
      | _ => false) && xFit x y
  | .field t x f, .fld off n y => (match P.underlying t with
      | some (.struct fs) => match fs[f]? with | some f => f.offset == off && nFit P f.type n | none => false
      | _ => false) && xFit x y
  | .indexAddr t x i, .iad sz y j => match elemB P t with
    | some e => sizeB P e sz && decide (0 < sz) && xFit x y && xFit i j
    | none => false
  | .indexAddr t x i, .iada len sz y j => (match P.underlying t with
      | some (.array k e) => k == len && sizeB P e sz && decide (0 < sz)
      | _ => false) && xFit x y && xFit i j
  | .index t x i, .idx len sz n y j => (match P.underlying t with
      | some (.array k e) => k == len && sizeB P e sz && nFit P e n
      | _ => false) && xFit x y && xFit i j
  | .index t x i, .idxs y j => strB P t && xFit x y && xFit i j
  | .extract x i, .ext j y => i == j && xFit x y
  | .makeFunc (.func f) first cap, .mkf f' cap' => f == f' && first.isEmpty && xsFit cap.toList cap'
  | .makeFunc (.func f) first cap, .mkb f' fst' => f == f' && cap.isEmpty && xsFit first.toList fst'
  | .call { callee := .builtin .len, args, argTypes }, .len y => match args.toList, argTypes.toList with
    | [x], [t] => (elemB P t).isSome && xFit x y
    | _, _ => false
  | .call { callee := .builtin .len, args, argTypes }, .lenS y => match args.toList, argTypes.toList with
    | [x], [t] => strB P t && xFit x y
    | _, _ => false
  | .call { callee := .builtin .len, args, argTypes }, .lenc n => match args.toList, argTypes.toList with
    | [_], [t] => (match P.underlying t with
      | some (.array k _) => k == n
      | some (.pointer u) => match P.underlying u with | some (.array k _) => k == n | _ => false
      | _ => false)
    | _, _ => false
  | .call { callee := .builtin .append, args, argTypes }, .app _ sz b s x => match args.toList, argTypes.toList with
    | [s', x'], [t, u] => (match elemB P t with
      | some e => sizeB P e sz && decide (0 < sz) && bytesB P e b && zszB P e sz && decide (0 < b) && ((elemB P u).isSome || strB P u) && xFit s' s && xFit x' x
      | none => false)
    | _, _ => false
  | .call { callee := .builtin .copy, args, argTypes }, .cpy sz d s => match args.toList, argTypes.toList with
    | [d', s'], [t, _] => (match elemB P t with
      | some e => sizeB P e sz && decide (0 < sz) && xFit d' d && xFit s' s
      | none => false)
    | _, _ => false
  | .call { callee := .value (.func f), args, argTypes := _ }, .call _ f' ys => f == f' && xsFit args.toList ys
  | .call { callee := .value (.func f), args, argTypes := _ }, .inl f' ys => f == f' && xsFit args.toList ys
  | .call { callee := .value (.func f), args, argTypes := _ }, .callm _ f' ys _ => f == f' && xsFit args.toList ys
  | .call { callee := .value x, args, argTypes := _ }, .callv _ y ys => xFit x y && xsFit args.toList ys
  | .call { callee := .value (.func f), args, argTypes := _ }, .xib f' s c => f == f' && (match P.funcs[f]? with
      | some fn => fn.name == "internal/bytealg.IndexByteString" && fn.origin == "" && fn.body.isNone
      | none => false) && (match args.toList with | [a, b] => xFit a s && xFit b c | _ => false)
  | .call { callee := .builtin .max, args, argTypes := _ }, .mm mx ys => mx && xsFit args.toList ys
  | .call { callee := .builtin .min, args, argTypes := _ }, .mm mx ys => !mx && xsFit args.toList ys
  | .buildSlice t len ps, .bemp sz => match elemB P t with
    | some e => len == 0 && ps.isEmpty && sizeB P e sz
    | none => false
  | .makeMap _ none, .mkm _ => true
  | .mapUpdate t m k v, .mset kk m' k' v' => (match P.underlying t with
      | some (.map kt _) => keyFit P kt kk
      | _ => false) && xFit m m' && xFit k k' && xFit v v' && dst.isNone
  | .lookup t m k false, .mget kk z m' k' => (match P.underlying t with
      | some (.map kt et) => keyFit P kt kk && zvFit P et z
      | _ => false) && xFit m m' && xFit k k'
  | .buildSlice t len ps, .bslv _ z len' qs => match elemB P t with
    | some e => len == len' && zFit P e [z] && sizeB P e 1 && decide (len ≤ 2 ^ 24) && decide (0 < len) && rowsFit ps.toList qs
    | none => false
  | .call { callee := .value x, args, argTypes := _ }, .inlv y ys => xFit x y && xsFit args.toList ys
  | _, _ => false

end Go.Abs

namespace Go.Abs
variable [Globs]
open Go

section
variable {P : Program} {Φ : Nat → Option FnF} {o : Oper} {a : Act} {G : Gh} {h : AH} {c : Nat} {w : World} {env : Env} {r : AV × AH × Nat}
variable (W : WRel G h c w) (E : EnvRel G h c w env a)
include W E

theorem ok_mov {x y} (ho : o.op = .move x ∨ o.op = .assign x) (hf : xFit x y = true) (he : evOp Φ env h c (.mov y) = some r) : OpOK P o a G h c w r := by
  simp only [evOp, Option.map_eq_some_iff] at he
  obtain ⟨v, hv, rfl⟩ := he
  exact .quiet W (by rcases ho with ho | ho <;> simp [execOp, ho]) (xFit_rel hf E hv)

theorem ok_pick {q u v q' u' v'} (ho : o.op = .pick q u v) (h1 : xFit q q' = true) (h2 : xFit u u' = true) (h3 : xFit v v' = true)
    (he : evOp Φ env h c (.pick q' u' v') = some r) : OpOK P o a G h c w r := by
  simp only [evOp] at he
  split at he
  · next hq =>
    simp only [Option.map_eq_some_iff] at he
    obtain ⟨z, hz, rfl⟩ := he
    have := xFit_rel h1 E hq
    generalize hcv : a.eval q = cv at this
    cases this
    exact .quiet W (by simp [execOp, ho, hcv, asBool]) (xFit_rel h2 E hz)
  · next hq =>
    simp only [Option.map_eq_some_iff] at he
    obtain ⟨z, hz, rfl⟩ := he
    have := xFit_rel h1 E hq
    generalize hcv : a.eval q = cv at this
    cases this
    exact .quiet W (by simp [execOp, ho, hcv, asBool]) (xFit_rel h3 E hz)
  · simp at he

omit W E in
theorem abits_run {op k x y v} (hv : abits op k x y = some v) : ∃ cv, (Op.intBits op k x y).run P w = .ok cv w ∧ VRel G h c w v cv := by
  cases op
  case and => obtain rfl := Option.some.inj hv; exact ⟨_, rfl, .int _ _⟩
  case or => obtain rfl := Option.some.inj hv; exact ⟨_, rfl, .int _ _⟩
  case xor => obtain rfl := Option.some.inj hv; exact ⟨_, rfl, .int _ _⟩
  case andNot => obtain rfl := Option.some.inj hv; exact ⟨_, rfl, .int _ _⟩
  all_goals cases hv

omit W E in
theorem abin_int {op t k p k' q v} (hv : abin op (.int k p) (.int k' q) = some v) :
    ∃ cv, (binOp op t (.int k p) (.int k' q)).run P w = .ok cv w ∧ VRel G h c w v cv := by
  cases op
  case shl =>
    simp only [abin, ashift] at hv
    split at hv
    · cases hv
    · next hq => obtain rfl := Option.some.inj hv; exact ⟨_, by simp only [binOp, Op.shift, hq, if_false]; rfl, .int _ _⟩
  case shr =>
    simp only [abin, ashift] at hv
    split at hv
    · cases hv
    · next hq => obtain rfl := Option.some.inj hv; exact ⟨_, by simp only [binOp, Op.shift, hq, if_false]; rfl, .int _ _⟩
  all_goals
    simp only [abin, aint, abits] at hv
    split at hv
    case isFalse => cases hv
    next hk =>
      subst hk
      first
        | (obtain rfl := Option.some.inj hv; exact ⟨_, by simp only [binOp, Op.intArith, Op.intCmp, Op.intBits, ne_eq, not_true_eq_false, if_false]; rfl, by first | exact .int _ _ | exact .bool _⟩)
        | (split at hv
           · cases hv
           · next hq => obtain rfl := Option.some.inj hv; exact ⟨_, by simp only [binOp, Op.intDiv, hq, ne_eq, not_true_eq_false, if_false]; rfl, .int _ _⟩)
omit W E in
theorem abin_str {op t x y v} (hv : abin op (.str x) (.str y) = some v) :
    ∃ cv, (binOp op t (.string x) (.string y)).run P w = .ok cv w ∧ VRel G h c w v cv := by
  cases op
  case add =>
    simp only [abin, astr] at hv
    split at hv
    · cases hv
    · next hq => obtain rfl := Option.some.inj hv; exact ⟨_, by simp only [binOp, Op.stringOp]; rw [if_neg hq]; rfl, .str _⟩
  all_goals first
    | (simp only [abin, astr] at hv; cases hv; done)
    | (simp only [abin, astr] at hv; obtain rfl := Option.some.inj hv; exact ⟨_, by simp only [binOp, Op.stringOp]; rfl, .bool _⟩)

omit W E in
theorem eqGuard_run {op t x y cx cy} (h1 : ∀ l, cx ≠ .agg l) (h2 : cx ≠ .nilIface) : (eqGuard op t x y cx cy).run P w = .ok () w := by
  unfold eqGuard
  cases op <;> (cases cx <;> first | rfl | (exact absurd rfl (h1 _)) | (exact absurd rfl h2))

omit W E in
theorem eqGuard_const {op t x u cx cy} (h1 : ∀ l, cx ≠ .agg l) : (eqGuard op t x (.const u) cx cy).run P w = .ok () w := by
  unfold eqGuard
  cases op <;> (cases cx <;> first | rfl | (exact absurd rfl (h1 _)) | (cases cy <;> simp))
omit W E in
theorem nilB_const {P : Program} {t y kd} (hs : nilB P t y kd = true) : ∃ u, y = .const u := by
  unfold nilB at hs
  split at hs
  all_goals first | (cases hs; done) | exact ⟨_, rfl⟩

theorem ok_bin {op t x y t' x' y'} (ho : o.op = .binOp op t x y t') (hs : scalB P t = true) (hx : xFit x x' = true) (hy : xFit y y' = true)
    (he : evOp Φ env h c (.bin op x' y') = some r) : OpOK P o a G h c w r := by
  simp only [evOp, Option.bind_eq_some_iff, Option.map_eq_some_iff] at he
  obtain ⟨u, hu, v, hv, z, hz, rfl⟩ := he
  have rx := xFit_rel hx E hu
  have ry := xFit_rel hy E hv
  generalize hcx : a.eval x = cx at rx
  generalize hcy : a.eval y = cy at ry
  have key : ∃ cv, (binOp op t cx cy).run P w = .ok cv w ∧ VRel G h c w z cv := by
    cases u <;> first | (cases hz; done) | skip
    all_goals (cases v <;> first | (cases hz; done) | skip)
    · cases rx; cases ry; exact abin_int hz
    · cases rx; cases ry; exact abin_str hz
  obtain ⟨cv, h1, h2⟩ := key
  refine .quiet W ?_ h2
  have hg : (eqGuard op t x y cx cy).run P w = .ok () w := by
    have : (∀ l, cx ≠ .agg l) ∧ cx ≠ .nilIface := by
      cases u <;> first | (cases hz; done) | (cases rx; exact ⟨fun _ h => (by cases h), fun h => (by cases h)⟩)
    exact eqGuard_run this.1 this.2
  simp only [execOp, ho, hcx, hcy, Sem.run_bind, hg, h1, Result.andThen_ok]
  rfl

omit W E in
theorem equalIn_bool {d t p q} (ht : P.underlying t = some .bool) : (Op.equalIn (d + 1) t (.bool p) (.bool q)).run P w = .ok (p == q) w := by
  simp only [Op.equalIn, Sem.run_bind, run_underlying ht, Result.andThen_ok]
  rfl
omit W E in
theorem equal_bool {t p q} (ht : P.underlying t = some .bool) : (Op.equal t (.bool p) (.bool q)).run P w = .ok (p == q) w := equalIn_bool (d := 9999) ht
omit W E in
theorem binOp_eql {t cx cy b} (h1 : ∀ k n, cx ≠ .int k n) (h2 : ∀ s, cx ≠ .string s) (h3 : ∀ k n, cx ≠ .float k n) (h4 : ∀ k n m, cx ≠ .complex k n m) (he : (Op.equal t cx cy).run P w = .ok b w) :
    (binOp .eql t cx cy).run P w = .ok (.bool b) w ∧ (binOp .neq t cx cy).run P w = .ok (.bool !b) w := by
  have e1 : binOp .eql t cx cy = (do pure (.bool (← Op.equal t cx cy))) := by
    cases cx <;> first | rfl | (exact absurd rfl (h1 _ _)) | (exact absurd rfl (h2 _)) | (exact absurd rfl (h3 _ _)) | (exact absurd rfl (h4 _ _ _))
  have e2 : binOp .neq t cx cy = (do pure (.bool (!(← Op.equal t cx cy)))) := by
    cases cx <;> first | rfl | (exact absurd rfl (h1 _ _)) | (exact absurd rfl (h2 _)) | (exact absurd rfl (h3 _ _)) | (exact absurd rfl (h4 _ _ _))
  rw [e1, e2]
  simp [he]

theorem ok_eqb {neg t x y t' x' y'} (ho : o.op = .binOp (if neg then .neq else .eql) t x y t') (hs : boolB P t = true) (hx : xFit x x' = true) (hy : xFit y y' = true)
    (he : evOp Φ env h c (.eqb neg x' y') = some r) : OpOK P o a G h c w r := by
  simp only [evOp, Option.bind_eq_some_iff] at he
  obtain ⟨u, hu, v, hv, hz⟩ := he
  have rx := xFit_rel hx E hu
  have ry := xFit_rel hy E hv
  generalize hcx : a.eval x = cx at rx
  generalize hcy : a.eval y = cy at ry
  split at hz
  · next p q =>
    obtain rfl := Option.some.inj hz
    cases rx; cases ry
    have ht : P.underlying t = some .bool := by unfold boolB at hs; split at hs <;> simp_all
    refine .quiet W ?_ (.bool _)
    have hb := binOp_eql (P := P) (w := w) (t := t) (cx := .bool p) (cy := .bool q) (by simp) (by simp) (by simp) (by simp) (equal_bool ht)
    have hg := fun op => eqGuard_run (P := P) (w := w) (op := op) (t := t) (x := x) (y := y) (cx := .bool p) (cy := .bool q) (by simp) (by simp)
    cases neg
    · simp only [execOp, ho, hcx, hcy, Sem.run_bind, hg, Result.andThen_ok, Bool.false_eq_true, if_false, hb.1]; rfl
    · simp only [execOp, ho, hcx, hcy, Sem.run_bind, hg, Result.andThen_ok, if_true, hb.2]; rfl
  · cases hz

omit W E in
theorem equalIn_nil {d t y cx u b kd} (hs : nilB P t y kd = true) (rx : VRel G h c w u cx) (hb : aisNil kd u = some b) :
    (Op.equalIn (d + 1) t cx (a.eval y)).run P w = .ok b w := by
  unfold nilB at hs
  split at hs
  all_goals first | (cases hs; done) | skip
  all_goals
    next ht =>
      simp only [Op.equalIn, Sem.run_bind, run_underlying ht, Result.andThen_ok, Act.eval]
      cases u <;> first | (cases hb; done) | (obtain rfl := Option.some.inj hb; cases rx; rfl)
omit W E in
theorem equal_nil {t y cx u b kd} (hs : nilB P t y kd = true) (rx : VRel G h c w u cx) (hb : aisNil kd u = some b) :
    (Op.equal t cx (a.eval y)).run P w = .ok b w := equalIn_nil (d := 9999) hs rx hb

theorem ok_isnil {neg kd t x y t' x'} (ho : o.op = .binOp (if neg then .neq else .eql) t x y t') (hs : nilB P t y kd = true) (hx : xFit x x' = true)
    (he : evOp Φ env h c (.isnil neg kd x') = some r) : OpOK P o a G h c w r := by
  simp only [evOp, Option.bind_eq_some_iff, Option.map_eq_some_iff] at he
  obtain ⟨u, hu, b, hb, rfl⟩ := he
  have rx := xFit_rel hx E hu
  have heq := equal_nil (a := a) hs rx hb
  generalize hcx : a.eval x = cx at rx heq
  have hn : (∀ l, cx ≠ .agg l) ∧ True ∧ (∀ k n, cx ≠ .int k n) ∧ (∀ s, cx ≠ .string s) ∧ (∀ k n, cx ≠ .float k n) ∧ (∀ k n m, cx ≠ .complex k n m) := by
    unfold nilB at hs
    split at hs
    all_goals first | (cases hs; done) | skip
    all_goals (cases u <;> first | (cases hb; done) | (cases rx; simp))
  have hb' := binOp_eql hn.2.2.1 hn.2.2.2.1 hn.2.2.2.2.1 hn.2.2.2.2.2 heq
  obtain ⟨yv, rfl⟩ := nilB_const hs
  have hg := fun op => eqGuard_const (P := P) (w := w) (op := op) (t := t) (x := x) (u := yv) (cx := cx) (cy := a.eval (.const yv)) hn.1
  refine .quiet W ?_ (.bool _)
  cases neg
  · simp only [execOp, ho, hcx, Sem.run_bind, hg, Result.andThen_ok, Bool.false_eq_true, if_false, hb'.1]; rfl
  · simp only [execOp, ho, hcx, Sem.run_bind, hg, Result.andThen_ok, if_true, hb'.2]; rfl

theorem ok_un {op t x x'} (ho : o.op = .unOp op t x) (hx : xFit x x' = true) (he : evOp Φ env h c (.un op x') = some r) : OpOK P o a G h c w r := by
  simp only [evOp, Option.bind_eq_some_iff, Option.map_eq_some_iff] at he
  obtain ⟨u, hu, z, hz, rfl⟩ := he
  have rx := xFit_rel hx E hu
  generalize hcx : a.eval x = cx at rx
  have key : ∃ cv, (Op.unary op cx).run P w = .ok cv w ∧ VRel G h c w z cv := by
    unfold aun at hz
    split at hz
    · obtain rfl := Option.some.inj hz; cases rx; exact ⟨_, rfl, .int _ _⟩
    · cases rx; exact abits_run hz
    · obtain rfl := Option.some.inj hz; cases rx; exact ⟨_, rfl, .bool _⟩
    · cases hz
  obtain ⟨cv, h1, h2⟩ := key
  refine .quiet W ?_ h2
  simp only [execOp, ho, hcx, Sem.run_bind, h1, Result.andThen_ok]; rfl

omit W E in
theorem intB_spec {t k} (h : intB P t = some k) : P.underlying t = some (.int k) := by
  unfold intB at h; split at h <;> simp_all
omit W E in
theorem strB_spec {t} (h : strB P t = true) : P.underlying t = some .string := by
  unfold strB at h; split at h <;> simp_all
omit W E in
theorem elemB_spec {t e} (h : elemB P t = some e) : P.underlying t = some (.slice e) := by
  unfold elemB at h; split at h <;> simp_all

theorem ok_conv {s d x x' k} (ho : o.op = .convert s d x) (hs : (intB P s).isSome = true) (hd : intB P d = some k) (hx : xFit x x' = true)
    (he : evOp Φ env h c (.conv k x') = some r) : OpOK P o a G h c w r := by
  simp only [evOp, Option.bind_eq_some_iff] at he
  obtain ⟨u, hu, hz⟩ := he
  have rx := xFit_rel hx E hu
  generalize hcx : a.eval x = cx at rx
  obtain ⟨k', hk'⟩ := Option.isSome_iff_exists.1 hs
  split at hz
  · obtain rfl := Option.some.inj hz
    cases rx
    refine .quiet W ?_ (.int _ _)
    simp only [execOp, ho, hcx, convert, Sem.run_bind, run_underlying (intB_spec hk'), run_underlying (intB_spec hd), Result.andThen_ok]; rfl
  · cases hz

theorem ok_sts {s d x x'} (ho : o.op = .convert s d x) (hs : strB P s = true) (hd : strB P d = true) (hx : xFit x x' = true)
    (he : evOp Φ env h c (.sts x') = some r) : OpOK P o a G h c w r := by
  simp only [evOp, Option.bind_eq_some_iff] at he
  obtain ⟨u, hu, hz⟩ := he
  have rx := xFit_rel hx E hu
  generalize hcx : a.eval x = cx at rx
  split at hz
  case h_2 => cases hz
  obtain rfl := Option.some.inj hz
  cases rx
  refine .quiet W ?_ (.str _)
  simp only [execOp, ho, hcx, convert, Sem.run_bind, run_underlying (strB_spec hs), run_underlying (strB_spec hd), Result.andThen_ok]; rfl

theorem ok_ext {x i x'} (ho : o.op = .extract x i) (hx : xFit x x' = true) (he : evOp Φ env h c (.ext i x') = some r) : OpOK P o a G h c w r := by
  simp only [evOp, Option.bind_eq_some_iff] at he
  obtain ⟨u, hu, hz⟩ := he
  have rx := xFit_rel hx E hu
  generalize hcx : a.eval x = cx at rx
  split at hz
  · next vs =>
    simp only [Option.map_eq_some_iff] at hz
    obtain ⟨v, hv, rfl⟩ := hz
    obtain ⟨us, rfl, H⟩ := rx.tup_inv
    obtain ⟨v', h1, h2⟩ := H.2 i v hv
    refine .quiet W ?_ h2
    have h1' : (⟨us⟩ : Array Value)[i]? = some v' := by simpa using h1
    simp only [execOp, ho, hcx, Instr.extract, h1', Sem.run_bind]; rfl
  · cases hz

theorem ok_mkb {f fst f' fst'} (ho : o.op = .makeFunc (.func f) fst #[]) (hf : f = f') (hx : xsFit fst.toList fst' = true) (he : evOp Φ env h c (.mkb f' fst') = some r) : OpOK P o a G h c w r := by
  subst hf
  simp only [evOp, Option.map_eq_some_iff] at he
  obtain ⟨vs, hv, rfl⟩ := he
  have R := xsFit_rel E hx hv
  refine .quiet W (cv := .func (.func f) (fst.map a.eval) #[]) ?_ ?_
  · simp [execOp, ho, Instr.makeFunc]
  · have := VRel.bm_mk (f := f) R
    have e : (fst.map a.eval) = ⟨fst.toList.map a.eval⟩ := by cases fst; simp
    rw [e]; exact this
theorem ok_mkf {f cap f' cap'} (ho : o.op = .makeFunc (.func f) #[] cap) (hf : f = f') (hx : xsFit cap.toList cap' = true) (he : evOp Φ env h c (.mkf f' cap') = some r) : OpOK P o a G h c w r := by
  subst hf
  simp only [evOp, Option.map_eq_some_iff] at he
  obtain ⟨vs, hv, rfl⟩ := he
  have R := xsFit_rel E hx hv
  refine .quiet W (cv := .func (.func f) #[] (cap.map a.eval)) ?_ ?_
  · simp [execOp, ho, Instr.makeFunc]
  · have := VRel.fn_mk (f := f) R
    have e : (cap.map a.eval) = ⟨cap.toList.map a.eval⟩ := by cases cap; simp
    rw [e]; exact this
end
end Go.Abs

namespace Go.Abs
variable [Globs]
open Go

section
variable {P : Program} {Φ : Nat → Option FnF} {o : Oper} {a : Act} {G : Gh} {h : AH} {c : Nat} {w : World} {env : Env} {r : AV × AH × Nat}

theorem extract_toArr (vs : List Value) (i n : Nat) : (⟨vs⟩ : Array Value).extract i (i + n) = ⟨(vs.drop i).take n⟩ := by
  have : (⟨vs⟩ : Array Value) = vs.toArray := rfl
  rw [this, List.extract_toArray, List.extract_eq_take_drop]
  simp

theorem nFit_none {t} (h : nFit P t none = true) : aggB P t = some false := by
  unfold nFit at h; cases ha : aggB P t with
  | none => simp [ha] at h
  | some b => cases b <;> simp_all
theorem nFit_some {t n} (h : nFit P t (some n) = true) : aggB P t = some true ∧ sizeB P t n = true := by
  unfold nFit at h; cases ha : aggB P t with
  | none => simp [ha] at h
  | some b => cases b <;> simp_all

theorem part_run {t n off cs vs v} (hf : nFit P t n = true) (L : LRel G h c w cs vs) (hv : part (cs.drop off) n = some v) :
    ∃ cv, (Go.part t ⟨vs⟩ off).run P w = .ok cv w ∧ VRel G h c w v cv := by
  cases n with
  | none =>
    simp only [part, List.head?_drop] at hv
    obtain ⟨v', h1, h2⟩ := L.2 off v hv
    have h1' : (⟨vs⟩ : Array Value)[off]? = some v' := by simpa using h1
    exact ⟨v', by simp [Go.part, run_isAgg (nFit_none hf), h1'], h2⟩
  | some n =>
    obtain ⟨ha, hs⟩ := nFit_some hf
    simp only [part] at hv
    split at hv
    · obtain rfl := Option.some.inj hv
      refine ⟨_, by simp [Go.part, run_isAgg ha, run_sizeOf hs]; rfl, ?_⟩
      exact .agg_mk ((L.drop off).take n)
    · cases hv

variable (W : WRel G h c w) (E : EnvRel G h c w env a)
include W E

theorem ok_fld {t x f off n y fs fd} (ho : o.op = .field t x f) (hu : P.underlying t = some (.struct fs)) (hfd : fs[f]? = some fd) (hoff : fd.offset = off) (hn : nFit P fd.type n = true) (hx : xFit x y = true)
    (he : evOp Φ env h c (.fld off n y) = some r) : OpOK P o a G h c w r := by
  simp only [evOp, Option.bind_eq_some_iff] at he
  obtain ⟨u, hu', hz⟩ := he
  have rx := xFit_rel hx E hu'
  generalize hcx : a.eval x = cx at rx
  split at hz
  · next cs =>
    simp only [Option.map_eq_some_iff] at hz
    obtain ⟨v, hv, rfl⟩ := hz
    obtain ⟨us, rfl, H⟩ := rx.agg_inv
    obtain ⟨cv, h1, h2⟩ := part_run hn H hv
    subst hoff
    exact .quiet W (by simp [execOp, ho, hcx, Instr.field, run_underlying hu, hfd, asAgg, h1]) h2
  · cases hz

omit W E in
theorem asNat_inv {v n cv} (hv : asNat? v = some n) (rx : VRel G h c w v cv) : ∃ k i, cv = .int k i ∧ 0 ≤ i ∧ i.toNat = n := by
  unfold asNat? at hv
  split at hv
  · split at hv
    · next k i hi => obtain rfl := Option.some.inj hv; cases rx; exact ⟨_, _, rfl, hi, rfl⟩
    · cases hv
  · cases hv

theorem ok_idx {t x i len sz n y j e} (ho : o.op = .index t x i) (hu : P.underlying t = some (.array len e)) (hs : sizeB P e sz = true) (hn : nFit P e n = true) (hx : xFit x y = true) (hi : xFit i j = true)
    (he : evOp Φ env h c (.idx len sz n y j) = some r) : OpOK P o a G h c w r := by
  simp only [evOp, Option.bind_eq_some_iff] at he
  obtain ⟨u, hu', ix, hix, hz⟩ := he
  have rx := xFit_rel hx E hu'
  have ri := xFit_rel hi E hix
  generalize hcx : a.eval x = cx at rx
  generalize hci : a.eval i = ci at ri
  split at hz
  · next m hm =>
    obtain ⟨k, q, rfl, hq, hqm⟩ := asNat_inv hm ri
    split at hz
    · next hlt =>
      split at hz
      · next cs =>
        simp only [Option.map_eq_some_iff] at hz
        obtain ⟨v, hv, rfl⟩ := hz
        obtain ⟨us, rfl, H⟩ := rx.agg_inv
        obtain ⟨cv, h1, h2⟩ := part_run hn H hv
        refine .quiet W ?_ h2
        have : q < (len : Int) := by omega
        simp [execOp, ho, hcx, hci, Instr.index, asIntOf, run_underlying hu, hq, this, run_sizeOf hs, hqm, h1]
      · cases hz
    · cases hz
  · cases hz

theorem ok_idxs {t x i y j} (ho : o.op = .index t x i) (hu : strB P t = true) (hx : xFit x y = true) (hi : xFit i j = true)
    (he : evOp Φ env h c (.idxs y j) = some r) : OpOK P o a G h c w r := by
  simp only [evOp, Option.bind_eq_some_iff] at he
  obtain ⟨u, hu', ix, hix, hz⟩ := he
  have rx := xFit_rel hx E hu'
  have ri := xFit_rel hi E hix
  generalize hcx : a.eval x = cx at rx
  generalize hci : a.eval i = ci at ri
  split at hz
  · next m hm =>
    obtain ⟨k, q, rfl, hq, hqm⟩ := asNat_inv hm ri
    split at hz
    · next s =>
      simp only [Option.map_eq_some_iff] at hz
      obtain ⟨b, hb, rfl⟩ := hz
      cases rx
      refine .quiet W ?_ (.int _ _)
      have hb' : s[m]? = some b := by
        obtain ⟨hlt, e⟩ := List.getElem?_eq_some_iff.1 hb
        have hlt' : m < s.size := by simpa using hlt
        have : s[m]? = some s[m] := by simp [hlt']
        rw [this, ← e]
        rfl
      simp only [execOp, ho, hcx, hci, Instr.index, asIntOf, Sem.run_bind, Sem.run_pure, Result.andThen_ok, run_underlying (strB_spec hu), hq, if_true, hqm, hb']
    · cases hz
  · cases hz

theorem ok_lenS {args argTypes x t y} (ho : o.op = .call { callee := .builtin .len, args := args, argTypes := argTypes }) (ha : args.toList = [x]) (hat : argTypes.toList = [t])
    (hs : strB P t = true) (hx : xFit x y = true) (he : evOp Φ env h c (.lenS y) = some r) : OpOK P o a G h c w r := by
  simp only [evOp, Option.bind_eq_some_iff] at he
  obtain ⟨u, hu', hz⟩ := he
  have rx := xFit_rel hx E hu'
  obtain rfl : args = #[x] := by cases args; simp_all
  obtain rfl : argTypes = #[t] := by cases argTypes; simp_all
  generalize hcx : a.eval x = cx at rx
  split at hz
  · obtain rfl := Option.some.inj hz
    cases rx
    refine .quiet W ?_ (.int _ _)
    simp [execOp, ho, resolve, invoke, builtin, Builtin.len_, hcx, run_underlying (strB_spec hs), goInt]
  · cases hz
theorem ok_len {args argTypes x t y e} (ho : o.op = .call { callee := .builtin .len, args := args, argTypes := argTypes }) (ha : args.toList = [x]) (hat : argTypes.toList = [t])
    (hs : elemB P t = some e) (hx : xFit x y = true) (he : evOp Φ env h c (.len y) = some r) : OpOK P o a G h c w r := by
  simp only [evOp, Option.bind_eq_some_iff, Option.map_eq_some_iff] at he
  obtain ⟨u, hu', n, hz, rfl⟩ := he
  have rx := xFit_rel hx E hu'
  obtain rfl : args = #[x] := by cases args; simp_all
  obtain rfl : argTypes = #[t] := by cases argTypes; simp_all
  generalize hcx : a.eval x = cx at rx
  refine .quiet W (cv := .int .i64 n) ?_ (.int _ _)
  unfold alen at hz
  split at hz <;> first | (cases hz; done) | skip
  all_goals
    obtain rfl := Option.some.inj hz
    cases rx
    simp [execOp, ho, resolve, invoke, builtin, Builtin.len_, hcx, run_underlying (elemB_spec hs), goInt]
theorem ok_lenc {args argTypes x t n} (ho : o.op = .call { callee := .builtin .len, args := args, argTypes := argTypes }) (ha : args.toList = [x]) (hat : argTypes.toList = [t])
    (hs : (∃ e, P.underlying t = some (.array n e)) ∨ ∃ u e, P.underlying t = some (.pointer u) ∧ P.underlying u = some (.array n e)) (he : evOp Φ env h c (.lenc n) = some r) : OpOK P o a G h c w r := by
  simp only [evOp, Option.some.injEq] at he
  subst he
  obtain rfl : args = #[x] := by cases args; simp_all
  obtain rfl : argTypes = #[t] := by cases argTypes; simp_all
  refine .quiet W (cv := .int .i64 n) ?_ (.int _ _)
  rcases hs with ⟨e, hs⟩ | ⟨u, e, hs, hu⟩
  · simp [execOp, ho, resolve, invoke, builtin, Builtin.len_, run_underlying hs, goInt]
  · simp [execOp, ho, resolve, invoke, builtin, Builtin.len_, run_underlying hs, run_underlying hu, goInt]
end
end Go.Abs

namespace Go.Abs
variable [Globs]
open Go

section
variable {P : Program} {Φ : Nat → Option FnF} {o : Oper} {a : Act} {G : Gh} {h : AH} {c : Nat} {w : World} {env : Env} {r : AV × AH × Nat}

theorem VRel.cells {v cv} (H : VRel G h c w v cv) : LRel G h c w v.cells cv.cells.toList := by
  cases H with
  | agg cs vs f hn hi hv => exact ⟨hn, fun j v hj => ⟨_, hi j v hj, hv j v hj⟩⟩
  | opq k ho =>
    have e : (G.opq k).cells = #[G.opq k] := by
      generalize G.opq k = x at ho
      cases x <;> first | rfl | (simp [Value.oneCell'] at ho)
    rw [e]
    exact .cons (.opq k ho) .nil
  | int k n => exact .cons (.int _ _) .nil
  | bool b => exact .cons (.bool _) .nil
  | str s => exact .cons (.str _) .nil
  | nilS => exact .cons .nilS .nil
  | emp a => exact .cons (.emp _) .nil
  | nilP => exact .cons .nilP .nil
  | nilF => exact .cons .nilF .nil
  | nilM => exact .cons .nilM .nil
  | nilI => exact .cons .nilI .nil
  | ifc t v => exact .cons (.ifc t v) .nil
  | ro t sz rows a cap cv hc hr hp hcell hv => exact .cons (.ro t sz rows a cap cv hc hr hp hcell hv) .nil
  | own nm g off len a cap hc hg hl => exact .cons (.own nm g off len a cap hc hg hl) .nil
  | vsl nm g off len a cap hc hg hl => exact .cons (.vsl nm g off len a cap hc hg hl) .nil
  | ptr nm g off a hg hl => exact .cons (.ptr nm g off a hg hl) .nil
  | eptr nm g i off a hg hl => exact .cons (.eptr nm g i off a hg hl) .nil
  | yld nm g l hg hl => exact .cons (.yld nm g l hg hl) .nil
  | mp nm g r hg hl => exact .cons (.mp nm g r hg hl) .nil
  | rptr cells a cv hr hp hcell hv => exact .cons (.rptr cells a cv hr hp hcell hv) .nil
  | tup cs vs cv hn hi hv => exact .cons (.tup cs vs cv hn hi hv) .nil
  | fn f cs vs cv hn hi hv => exact .cons (.fn f cs vs cv hn hi hv) .nil
  | bm f cs vs cv hn hi hv => exact .cons (.bm f cs vs cv hn hi hv) .nil

theorem foldl_set (off : Nat) : ∀ (vs : List Value) (k : Nat) (us : List Value), off + k + vs.length ≤ us.length →
    (vs.zipIdx k).foldl (fun cs (p : Value × Nat) => cs.set (off + p.2) p.1) us = us.take (off + k) ++ (vs ++ us.drop (off + k + vs.length))
  | [], k, us, h => by simp
  | v :: r, k, us, h => by
    simp only [List.zipIdx_cons, List.foldl_cons]
    simp only [List.length_cons] at h
    rw [foldl_set off r (k + 1) (us.set (off + k) v) (by simp; omega)]
    have e : off + (k + 1) = off + k + 1 := by omega
    rw [e]
    have h1 : (us.set (off + k) v).take (off + k + 1) = us.take (off + k) ++ [v] := by
      rw [List.set_eq_take_append_cons_drop, if_pos (by omega), List.take_append]
      simp only [List.length_take]
      rw [show min (off + k) us.length = off + k by omega, List.take_take, show min (off + k + 1) (off + k) = off + k by omega, show off + k + 1 - (off + k) = 1 by omega]
      simp
    have h2 : (us.set (off + k) v).drop (off + k + 1 + r.length) = us.drop (off + k + 1 + r.length) := List.drop_set_of_lt (by omega)
    rw [h1, h2, show off + k + (v :: r).length = off + k + 1 + r.length by simp; omega]
    simp

theorem foldl_arr (off : Nat) (vs us : List Value) (hl : off + vs.length ≤ us.length) :
    ((⟨vs⟩ : Array Value).zipIdx.foldl (fun (cs : Array Value) (p : Value × Nat) => cs.setIfInBounds (off + p.2) p.1) ⟨us⟩) = ⟨us.take off ++ (vs ++ us.drop (off + vs.length))⟩ := by
  have key : ∀ (l : List (Value × Nat)) (us : List Value), l.foldl (fun (cs : Array Value) (p : Value × Nat) => cs.setIfInBounds (off + p.2) p.1) ⟨us⟩ = ⟨l.foldl (fun cs (p : Value × Nat) => cs.set (off + p.2) p.1) us⟩ := by
    intro l
    induction l with
    | nil => intro us; rfl
    | cons p l ih => intro us; simp only [List.foldl_cons]; rw [← ih]; congr 1; simp
  have e : (⟨vs⟩ : Array Value).zipIdx = ⟨vs.zipIdx 0⟩ := by
    show vs.toArray.zipIdx = _
    simp
  rw [e, ← Array.foldl_toList, key, foldl_set off vs 0 us (by omega)]
  simp

/-- the model's 'fill', part by part -/
theorem fill_run (place : Nat → Option (Nat × Nat)) (E : EnvRel G h c w env a) : ∀ (ps : List (Nat × Operand)) (qs : List (Nat × Nat × X)) (cs cs' : List AV) (us : List Value),
    partsFit P place ps qs = true → LRel G h c w cs us → fillParts env cs qs = some cs' →
    ∃ us', Instr.fill place ⟨us⟩ (ps.map fun p => (p.1, a.eval p.2)) = some ⟨us'⟩ ∧ LRel G h c w cs' us'
  | [], [], cs, cs', us, _, L, hv => by simp [fillParts] at hv; subst hv; exact ⟨us, rfl, L⟩
  | (i, x) :: ps, (off, sz, y) :: qs, cs, cs', us, hf, L, hv => by
    simp only [partsFit, Bool.and_eq_true, beq_iff_eq] at hf
    simp only [fillParts, Option.bind_eq_some_iff] at hv
    obtain ⟨v, hv1, hv2⟩ := hv
    split at hv2
    · next hsz =>
      have rv := xFit_rel hf.1.2 E hv1
      have Lv := rv.cells
      obtain ⟨us', h1, h2⟩ := fill_run place E ps qs _ cs' _ hf.2 (L.splice Lv off) hv2
      refine ⟨us', ?_, h2⟩
      simp only [List.map_cons, Instr.fill, hf.1.1]
      have hs1 : (a.eval x).cells.size = sz := by have := Lv.1; simp at this; omega
      have hs2 : us.length = cs.length := L.1
      rw [if_neg (by simp [hs1, hs2]; omega)]
      rw [← h1]
      congr 1
      have := foldl_arr off (a.eval x).cells.toList us (by simp [hs1, hs2]; omega)
      exact this
    · cases hv2
  | [], _ :: _, _, _, _, hf, _, _ => by simp [partsFit] at hf
  | _ :: _, [], _, _, _, hf, _, _ => by simp [partsFit] at hf


variable (W : WRel G h c w) (E : EnvRel G h c w env a)

theorem mapM_sizes : ∀ (fs : List Field) l, fieldsSizes P fs = some l → (fs.mapM fun f => (do pure (f.offset, ← sizeOf f.type) : Sem (Nat × Nat))).run P w = .ok l w
  | [], l, h => by simp [fieldsSizes] at h; subst h; rfl
  | f :: r, l, h => by
    simp only [fieldsSizes] at h
    cases hi : P.info? f.type with
    | none => simp [hi] at h
    | some i =>
      simp only [hi, Option.map_eq_some_iff] at h
      obtain ⟨l', h1, rfl⟩ := h
      have hs : (sizeOf f.type).run P w = .ok i.size w := run_sizeOf (by simp [sizeB, hi])
      have ih := mapM_sizes r l' h1
      simp only [List.mapM_cons, Sem.run_bind, hs, Result.andThen_ok, Sem.run_pure, ih]

include W E
theorem ok_build {t ps z qs} (ho : o.op = .build t ps) (hf : buildFit P t z ps.toList qs = true) (he : evOp Φ env h c (.build z qs) = some r) : OpOK P o a G h c w r := by
  simp only [evOp, Option.map_eq_some_iff] at he
  obtain ⟨cs, hcs, rfl⟩ := he
  simp only [buildFit, Bool.and_eq_true] at hf
  obtain ⟨hz, hf⟩ := hf
  obtain ⟨zv, hz1, hz2, _⟩ := run_zeroValue (w := w) hz
  have hps : (ps.map fun (p : Nat × Operand) => (p.1, a.eval p.2)).toList = ps.toList.map fun p => (p.1, a.eval p.2) := by simp
  have hzc : zv.cells = ⟨zv.cells.toList⟩ := by simp
  split at hf
  · next fs hu =>
    split at hf
    · next l hl =>
      obtain ⟨us', h1, h2⟩ := fill_run (fun i => l[i]?) E ps.toList qs z cs zv.cells.toList hf (hz2 G h c w) hcs
      refine .quiet W (cv := .agg ⟨us'⟩) ?_ (.agg_mk h2)
      have hm : (fs.mapM fun f => (do pure (f.offset, ← sizeOf f.type) : Sem (Nat × Nat))).run P w = .ok l.toArray w := by
        rw [Array.mapM_eq_mapM_toList]
        have := mapM_sizes (P := P) (w := w) fs.toList l hl
        simp only [Sem.run_map] at *
        rw [this]; rfl
      rw [← hzc] at h1
      have hps' : (fun i : Nat => l.toArray[i]?) = fun i : Nat => l[i]? := by funext i; simp
      simp only [execOp, ho, Instr.build, Sem.run_bind, hz1, Result.andThen_ok, run_underlying hu, hm, hps, hps', h1]
      rfl
    · cases hf
  · next n e hu =>
    split at hf
    · next i hi =>
      obtain ⟨us', h1, h2⟩ := fill_run (fun j => some (j * i.size, i.size)) E ps.toList qs z cs zv.cells.toList hf (hz2 G h c w) hcs
      refine .quiet W (cv := .agg ⟨us'⟩) ?_ (.agg_mk h2)
      rw [← hzc] at h1
      have hs : (sizeOf e).run P w = .ok i.size w := run_sizeOf (by simp [sizeB, hi])
      simp only [execOp, ho, Instr.build, Sem.run_bind, hz1, Result.andThen_ok, run_underlying hu, hs, hps, h1]
      rfl
    · cases hf
  · cases hf
end
end Go.Abs

namespace Go.Abs
variable [Globs]
open Go

section
variable {P : Program} {Φ : Nat → Option FnF} {o : Oper} {a : Act} {G : Gh} {h : AH} {c : Nat} {w : World} {env : Env} {r : AV × AH × Nat}

theorem add_spot {ad : Addr} (hs : ad.spot = none) (j : Nat) : ad.add j = ⟨ad.block, ad.off + j, none⟩ := by
  unfold Addr.add
  split
  · next e => subst e; cases ad; simp_all
  · simp

theorem cell?_blk {w : World} {b : Nat} {vs : List Value} {e fr} (h : w.heap[b]? = some (.cells ⟨vs⟩ e fr)) (j : Nat) : w.cell? ⟨b, j, none⟩ = vs[j]? := by
  simp [World.cell?, h]

theorem LRel.get {cs vs} (L : LRel G h c w cs vs) {j : Nat} {v} (hj : cs[j]? = some v) : ∃ v', vs[j]? = some v' ∧ VRel G h c w v v' := L.2 j v hj

/-- a row of cells, read -/
def CellsRel (G : Gh) (h : AH) (c : Nat) (w : World) (ad : Addr) (cs : List AV) : Prop :=
  ad.spot = none ∧ ∀ (j : Nat) v, cs[j]? = some v → ∃ v', w.cell? ⟨ad.block, ad.off + j, none⟩ = some v' ∧ VRel G h c w v v'

theorem cellsAt_run (W : WRel G h c w) {p cv cs} (rp : VRel G h c w p cv) (hc : cellsAt h p = some cs) (hne : cs ≠ []) :
    ∃ ad, cv = .pointer (some ad) ∧ CellsRel G h c w ad cs := by
  unfold cellsAt at hc
  split at hc
  · next nm g off =>
    split at hc
    · next cells hb =>
      obtain rfl := Option.some.inj hc
      cases rp with
      | ptr _ _ _ ad hg hl =>
        have hl' := hl ⟨_, hb⟩
        subst hl'
        refine ⟨_, rfl, rfl, fun j v hj => ?_⟩
        cases W.blk _ _ _ hb with
        | var _ vs elem lo hi h1 hf ht hln hR hcb hcs =>
          rw [List.getElem?_drop] at hj
          obtain ⟨v', x1, x2⟩ := hcs.2 _ v hj
          exact ⟨v', by rw [cell?_blk h1]; exact x1, x2⟩
    · cases hc
  · next nm g i off =>
    split at hc
    · next _ rows fz hb =>
      simp only [Option.map_eq_some_iff] at hc
      obtain ⟨row, hrow, rfl⟩ := hc
      cases rp with
      | eptr _ _ _ _ ad hg hl =>
        have hl' := hl ⟨_, hb⟩
        subst hl'
        refine ⟨_, rfl, rfl, fun j v hj => ?_⟩
        cases W.blk _ _ _ hb with
        | arr _ _ _ vs elem lo hi hsz h1 hf ht hln hz hin hR hp hcs =>
          rw [List.getElem?_drop] at hj
          obtain ⟨v', x1, x2⟩ := hcs i (off + j) row v hrow hj
          exact ⟨v', by rw [cell?_blk h1, ← x1]; congr 1; show G.base g + (i * G.sz g + off) + j = _; omega, x2⟩
    · cases hc
  · obtain rfl := Option.some.inj hc
    cases rp with
    | rptr _ ad cv hr hp hcell hv =>
      exact ⟨ad, rfl, (hr hne).2, fun j v hj => ⟨_, hcell j v hj, hv j v hj⟩⟩
  · cases hc

/-- the values of a row of cells -/
theorem CellsRel.vals {ad cs} (H : CellsRel G h c w ad cs) : ∃ vs, LRel G h c w cs vs ∧ ∀ (j : Nat) v, vs[j]? = some v → w.cell? (ad.add j) = some v := by
  refine ⟨(List.range cs.length).map fun j => (w.cell? ⟨ad.block, ad.off + j, none⟩).getD undef, ⟨by simp, fun j v hj => ?_⟩, fun j v hj => ?_⟩
  · obtain ⟨v', x1, x2⟩ := H.2 j v hj
    have hlt : j < cs.length := (List.getElem?_eq_some_iff.1 hj).1
    exact ⟨v', by simp [hlt, x1], x2⟩
  · have hlt : j < cs.length := by
      have := (List.getElem?_eq_some_iff.1 hj).1
      simpa using this
    obtain ⟨v', x1, x2⟩ := H.2 j cs[j] (by simp [hlt])
    simp [hlt, x1] at hj
    rw [add_spot H.1, x1, hj]

theorem CellsRel.take {ad cs} (H : CellsRel G h c w ad cs) (n : Nat) : CellsRel G h c w ad (cs.take n) :=
  ⟨H.1, fun j v hj => by
    rw [List.getElem?_take] at hj
    split at hj
    · exact H.2 j v hj
    · cases hj⟩

theorem run_loadCells_rel {ad cs} (H : CellsRel G h c w ad cs) : ∃ vs, (loadCells ad cs.length).run P w = .ok ⟨vs⟩ w ∧ LRel G h c w cs vs := by
  obtain ⟨vs, L, hv⟩ := H.vals
  refine ⟨vs, ?_, L⟩
  rw [← L.1]
  exact run_loadCells_list w ad vs hv

theorem ok_load (W : WRel G h c w) (E : EnvRel G h c w env a) {t x n y} (ho : o.op = .load t x) (hn : nFit P t n = true) (hn0 : n ≠ some 0) (hx : xFit x y = true)
    (he : evOp Φ env h c (.load n y) = some r) : OpOK P o a G h c w r := by
  simp only [evOp, Option.bind_eq_some_iff, Option.map_eq_some_iff] at he
  obtain ⟨p, hp, cs, hcs, v, hv, rfl⟩ := he
  have rx := xFit_rel hx E hp
  have hne : cs ≠ [] := by
    intro e; subst e
    cases n with
    | none => simp [part] at hv
    | some n => simp [part] at hv; obtain ⟨e, _⟩ := hv; subst e; exact hn0 rfl
  obtain ⟨ad, hcx, H⟩ := cellsAt_run W rx hcs hne
  cases n with
  | none =>
    simp only [part] at hv
    obtain ⟨v', x1, x2⟩ := H.2 0 v (by rw [← hv, List.head?_eq_getElem?])
    have x1' : w.cell? ad = some v' := by
      rw [← x1]; congr 1; have := H.1; cases ad; simp_all
    refine .quiet W ?_ x2
    simp [execOp, ho, hcx, Instr.loadAt, Instr.sureAddr, loadVar, run_isAgg (nFit_none hn), x1']
  | some n =>
    obtain ⟨ha, hs⟩ := nFit_some hn
    simp only [part] at hv
    split at hv
    · next hle =>
      obtain rfl := Option.some.inj hv
      obtain ⟨vs, h1, L⟩ := run_loadCells_rel (P := P) (H.take n)
      rw [List.length_take, Nat.min_eq_left hle] at h1
      refine .quiet W (cv := .agg ⟨vs⟩) ?_ (.agg_mk L)
      simp [execOp, ho, hcx, Instr.loadAt, Instr.sureAddr, loadVar, run_isAgg ha, run_sizeOf hs, h1]
    · cases hv

/- ---------------------------------------------------------------- stores -/
theorem setCells_heap (b : Nat) : ∀ (vs : List Value) (o : Nat) (us : List Value) (e fr) (w : World), w.heap[b]? = some (.cells ⟨us⟩ e fr) → o + vs.length ≤ us.length →
    (w.setCells b o vs).heap[b]? = some (.cells ⟨us.take o ++ (vs ++ us.drop (o + vs.length))⟩ e fr) ∧ (∀ b', b' ≠ b → (w.setCells b o vs).heap[b']? = w.heap[b']?) ∧
      (w.setCells b o vs).heap.size = w.heap.size ∧ (w.setCells b o vs).os = w.os ∧ (w.setCells b o vs).tape = w.tape ∧ (w.setCells b o vs).output = w.output
  | [], o, us, e, fr, w, hb, hl => by
    refine ⟨?_, fun _ _ => rfl, rfl, rfl, rfl, rfl⟩
    simp [World.setCells, hb]
  | v :: r, o, us, e, fr, w, hb, hl => by
    simp only [List.length_cons] at hl
    have h1 : (w.setCell ⟨b, o, none⟩ v).heap[b]? = some (.cells ⟨us.set o v⟩ e fr) := by
      simp [World.setCell, Array.getElem?_modify, hb]
    have h2 : ∀ b', b' ≠ b → (w.setCell ⟨b, o, none⟩ v).heap[b']? = w.heap[b']? := by
      intro b' hn
      simp [World.setCell, Array.getElem?_modify, Ne.symm hn]
    have h3 : (w.setCell ⟨b, o, none⟩ v).heap.size = w.heap.size := by simp [World.setCell]
    obtain ⟨i1, i2, i3, i4, i5, i6⟩ := setCells_heap b r (o + 1) (us.set o v) e fr (w.setCell ⟨b, o, none⟩ v) h1 (by simp; omega)
    simp only [World.setCells]
    refine ⟨?_, fun b' hn => (i2 b' hn).trans (h2 b' hn), i3.trans h3, i4, i5, i6⟩
    rw [i1]
    have e1 : (us.set o v).take (o + 1) = us.take o ++ [v] := by
      rw [List.set_eq_take_append_cons_drop, if_pos (by omega), List.take_append]
      simp only [List.length_take]
      rw [show min o us.length = o by omega, List.take_take, show min (o + 1) o = o by omega, show o + 1 - o = 1 by omega]
      simp
    have e2 : (us.set o v).drop (o + 1 + r.length) = us.drop (o + 1 + r.length) := List.drop_set_of_lt (by omega)
    rw [e1, e2, show o + (v :: r).length = o + 1 + r.length by simp; omega]
    simp

theorem LRel.cellb {cs vs} (L : LRel G h c w cs vs) (hb : cs.all AV.cellb = true) : ∀ v ∈ vs, v.oneCell' = true := by
  intro v hv
  obtain ⟨j, hlt, hj⟩ := List.getElem_of_mem hv
  have hlt' : j < cs.length := by rw [← L.1]; exact hlt
  obtain ⟨v', x1, x2⟩ := L.2 j cs[j] (by simp [hlt'])
  have e : v' = v := by rw [List.getElem?_eq_getElem hlt, hj] at x1; exact (Option.some.inj x1).symm
  subst e
  have hcb : (cs[j]).cellb = true := by rw [List.all_eq_true] at hb; exact hb _ (by simp)
  generalize cs[j] = u at *
  cases x2 <;> first | rfl | assumption | (simp [AV.cellb] at hcb; done)

/-- a row of cells written into one block of the call's own -/
theorem store_block {nm g b' vs} {us : List Value} {e lo hi} {off : Nat} (W : WRel G h c w) (hlN : liveN h nm g) (hb : w.heap[G.blk g]? = some (.cells ⟨us⟩ e (lo, hi)))
    (hlen : off + vs.length ≤ us.length)
    (hnew : ∀ w', w'.heap[G.blk g]? = some (.cells ⟨us.take off ++ (vs ++ us.drop (off + vs.length))⟩ e (lo, hi)) → Later G G h (h.put nm g b') c c w w' → BRel G (h.put nm g b') c w' g b')
    (hR : ¬ G.R true (G.blk g)) :
    ∃ w', w' = w.setCells (G.blk g) off vs ∧ Stp G G h (h.put nm g b') c c w w' ∧ WRel G (h.put nm g b') c w' := by
  obtain ⟨i1, i2, i3, i4, i5, i6⟩ := setCells_heap (G.blk g) vs off us e (lo, hi) w hb hlen
  refine ⟨_, rfl, ?_⟩
  have hl := hlN.live
  have hgc : g < c := by obtain ⟨b, x⟩ := hl; exact W.gen _ _ _ x
  have L : Later G G h (h.put nm g b') c c w (w.setCells (G.blk g) off vs) :=
    { gh := fun _ _ => ⟨rfl, rfl, rfl, rfl, rfl⟩
      r0 := fun _ x => x
      r1 := fun _ x => x
      opq := rfl
      cc := Nat.le_refl _
      lv := fun nm' g' _ x => by
        rcases live_put.1 x with ⟨rfl, rfl⟩ | ⟨_, x⟩
        · exact hl
        · exact x
      rw := fun b hb => i2 b (fun e => hR (e ▸ hb)) }
  constructor
  · exact { L with
      r1' := fun _ x => x
      size := by rw [i3]; exact Nat.le_refl _
      os := i4
      tape := i5
      output := i6
      keep := fun b _ hn => i2 b (fun e => hn nm g hlN e.symm)
      owns := fun nm' g' x => by
        rcases liveN_put x with ⟨rfl, rfl⟩ | ⟨_, x⟩
        · exact .inl ⟨_, _, hlN, rfl⟩
        · exact .inl ⟨_, _, x, rfl⟩
      froze := fun _ x => .inl x }
  · refine W.put L (by rw [i3]; exact Nat.le_refl _) (fun nm2 g2 hn hl2 => ⟨i2 _ (fun e => ?_), fun _ e => ?_, id⟩) hgc (hnew _ i1 L) (fun b hb => by rw [i3]; exact W.old b hb)
    · rcases W.apart nm2 g2 nm g hl2 hlN with ⟨h1, _⟩ | h1
      · exact hn h1
      · exact h1 e
    · rcases W.apart nm2 g2 nm g hl2 hlN with ⟨h1, _⟩ | h1
      · exact hn h1
      · exact h1 e.symm


/- ---------------------------------------------------------------- freezing -/
theorem take_drop_get {α} (l : List α) (off len i : Nat) (x : α) (h : ((l.drop off).take len)[i]? = some x) : i < len ∧ l[off + i]? = some x := by
  rw [List.getElem?_take] at h
  split at h
  · next hi => rw [List.getElem?_drop] at h; exact ⟨hi, h⟩
  · cases h

theorem freeze1_ok {v v' h' cv} (W : WRel G h c w) (hv : freeze1 h v = some (v', h')) (R : VRel G h c w v cv) :
    ∃ G', Stp G G' h h' c c w w ∧ WRel G' h' c w ∧ VRel G' h' c w v' cv ∧ v'.plain = true := by
  unfold freeze1 at hv
  split at hv
  · next nm g off len =>
    split at hv
    · next sz rows fz hb =>
      split at hv
      · next hle =>
        simp only [Option.some.injEq, Prod.mk.injEq] at hv
        obtain ⟨rfl, rfl⟩ := hv
        cases W.blk _ _ _ hb with
        | arr _ _ _ vs elem lo hi hsz h1 hf ht hln hz hin hR hp hcs =>
          have hgc := W.gen _ _ _ hb
          have hlv : live h nm g := ⟨_, hb⟩
          let G' : Gh := { G with R0 := fun b => G.R0 b ∨ b = G.blk g }
          have L : Later G G' h (h.put nm g (.arr sz rows true)) c c w w :=
            { gh := fun _ _ => ⟨rfl, rfl, rfl, rfl, rfl⟩
              r0 := fun _ x => .inl x
              r1 := fun _ x => x
              opq := rfl
              cc := Nat.le_refl _
              lv := fun nm' g' _ x => by
                rcases live_put.1 x with ⟨rfl, rfl⟩ | ⟨_, x⟩
                · exact hlv
                · exact x
              rw := fun _ _ => rfl }
          have hblt : G.blk g < w.heap.size := by
            obtain ⟨hlt, _⟩ := Array.getElem?_eq_some_iff.1 h1
            exact hlt
          refine ⟨G', ?_, ?_, ?_, rfl⟩
          · exact { L with
              r1' := fun _ x => x
              size := Nat.le_refl _
              os := rfl
              tape := rfl
              output := rfl
              keep := fun _ _ _ => rfl
              owns := fun nm' g' x => by
                rcases liveN_put x with ⟨rfl, rfl⟩ | ⟨_, x⟩
                · exact .inl ⟨_, _, ⟨_, hb, by simp⟩, rfl⟩
                · exact .inl ⟨_, _, x, rfl⟩
              froze := fun b x => by
                rcases x with x | rfl
                · exact .inl x
                · exact .inr (.inl ⟨nm, g, ⟨_, hb, by simp⟩, rfl⟩) }
          · refine W.put L (Nat.le_refl _) (fun nm2 g2 hn hl2 => ?_) hgc ?_ (fun b hb => ?_)
            · have hne : G.blk g2 ≠ G.blk g := by
                rcases W.apart nm2 g2 nm g hl2 ⟨_, hb, by simp⟩ with ⟨x, _⟩ | x
                · exact absurd x hn
                · exact x
              refine ⟨rfl, fun _ e => hne e.symm, fun x => ?_⟩
              rcases x with (x | x) | x
              · exact .inl x
              · exact absurd x hne
              · exact .inr x
            · refine .arr sz rows true vs elem lo hi hsz h1 hf ht hln hz hin (Or.inr rfl) hp (fun i j row v x1 x2 => ?_)
              obtain ⟨v', y1, y2⟩ := hcs i j row v x1 x2
              exact ⟨v', y1, y2.later L⟩
            · rcases hb with (x | x) | x
              · exact W.old b (.inl x)
              · subst x; exact hblt
              · exact W.old b (.inr x)
          · cases R with
            | own _ _ _ _ ad cap hc hg hl =>
              obtain ⟨ha, hk, ht'⟩ := hl hlv
              have hlen : ((rows.drop off).take len).length = len := by simp; omega
              have key : VRel G' (h.put nm g (.arr sz rows true)) c w (.ro false sz ((rows.drop off).take len)) (.slice (some ad) ((rows.drop off).take len).length cap) := by
                subst hsz
                refine .ro false (G.sz g) _ ad cap (fun i j => (vs[G.base g + ((off + i) * G.sz g + j)]?).getD undef) (by rw [hlen]; exact hc) (fun hne => ?_) (fun row hrow => hp row (List.mem_of_mem_drop (List.mem_of_mem_take hrow))) ?_ ?_
                · have hpos : 0 < len := by
                    rcases Nat.eq_zero_or_pos len with e | e
                    · subst e; simp at hne
                    · exact e
                  rcases ha with ha | ha
                  · omega
                  · subst ha; exact ⟨Or.inr rfl, rfl, hz⟩
                · intro i j row v x1 x2
                  obtain ⟨hi', x1'⟩ := take_drop_get _ _ _ _ _ x1
                  obtain ⟨v', y1, y2⟩ := hcs (off + i) j row v x1' x2
                  rcases ha with ha | ha
                  · omega
                  · subst ha
                    rw [cell?_blk (w := w) h1]
                    have e : G.base g + off * G.sz g + (i * G.sz g + j) = G.base g + ((off + i) * G.sz g + j) := by rw [Nat.add_mul]; omega
                    show vs[G.base g + off * G.sz g + (i * G.sz g + j)]? = _
                    rw [e, y1]; rfl
                · intro i j row v x1 x2
                  obtain ⟨hi', x1'⟩ := take_drop_get _ _ _ _ _ x1
                  obtain ⟨v', y1, y2⟩ := hcs (off + i) j row v x1' x2
                  simp only [y1, Option.getD_some]
                  exact y2.later L
              rw [hlen] at key
              exact key
      · cases hv
    · cases hv
  · split at hv
    · next hp =>
      simp only [Option.some.injEq, Prod.mk.injEq] at hv
      obtain ⟨rfl, rfl⟩ := hv
      exact ⟨G, .refl _ _ _ _, W, R, hp⟩
    · cases hv

theorem freezeL_ok : ∀ {vs vs' h h' us G}, WRel G h c w → freezeL h vs = some (vs', h') → LRel G h c w vs us →
    ∃ G', Stp G G' h h' c c w w ∧ WRel G' h' c w ∧ LRel G' h' c w vs' us ∧ vs'.all AV.plain = true
  | [], vs', h, h', us, G, W, hv, L => by
    simp only [freezeL, Option.some.injEq, Prod.mk.injEq] at hv
    obtain ⟨rfl, rfl⟩ := hv
    exact ⟨G, .refl _ _ _ _, W, L, rfl⟩
  | v :: vs, vs', h, h', us, G, W, hv, L => by
    simp only [freezeL, Option.bind_eq_some_iff, Option.map_eq_some_iff] at hv
    obtain ⟨p, hp, q, hq, he⟩ := hv
    simp only [Prod.mk.injEq] at he
    obtain ⟨rfl, rfl⟩ := he
    obtain ⟨u, us', rfl, R, L'⟩ := L.cons_inv
    obtain ⟨G1, S1, W1, R1, p1⟩ := freeze1_ok (v' := p.1) (h' := p.2) W hp R
    obtain ⟨G2, S2, W2, L2, p2⟩ := freezeL_ok (vs' := q.1) (h' := q.2) W1 hq (L'.later S1.toLater)
    exact ⟨G2, S1.trans S2, W2, .cons (R1.later S2.toLater) L2, by simp [p1, p2]⟩

theorem ok_frz {env : Env} {a : Act} {o : Oper} {r : AV × AH × Nat} {Φ : Nat → Option FnF} {P : Program} {x y} (W : WRel G h c w) (E : EnvRel G h c w env a) (ho : o.op = .move x ∨ o.op = .assign x) (hf : xFit x y = true) (he : evOp Φ env h c (.frz y) = some r) : OpOK P o a G h c w r := by
  simp only [evOp, Option.bind_eq_some_iff, Option.map_eq_some_iff] at he
  obtain ⟨v, hv, q, hq, rfl⟩ := he
  obtain ⟨G', S, W', R, _⟩ := freeze1_ok (v' := q.1) (h' := q.2) W hq (xFit_rel hf E hv)
  exact ⟨_, w, G', by rcases ho with ho | ho <;> simp [execOp, ho], S, W', .inl ⟨_, rfl, R⟩⟩

end
end Go.Abs

namespace Go.Abs
variable [Globs]
open Go

section
variable {P : Program} {Φ : Nat → Option FnF} {o : Oper} {a : Act} {G : Gh} {h : AH} {c : Nat} {w : World} {env : Env} {r : AV × AH × Nat}

def Gh.new (G : Gh) (c b base sz ln tot : Nat) : Gh :=
  { G with
    blk := fun g => if g = c then b else G.blk g
    base := fun g => if g = c then base else G.base g
    sz := fun g => if g = c then sz else G.sz g
    ln := fun g => if g = c then ln else G.ln g
    tot := fun g => if g = c then tot else G.tot g }
theorem Gh.new_R {G : Gh} {c b base sz ln tot t x} : (G.new c b base sz ln tot).R t x = G.R t x := by cases t <;> rfl

/-- a new block gets a name -/
theorem new_block {nm b} {vs : List Value} {elem lo hi} {w' : World} (sz ln : Nat) (W : WRel G h c w) (hw : w'.heap = w.heap.push (.cells ⟨vs⟩ elem (lo, hi))) (h1 : w'.os = w.os) (h2 : w'.tape = w.tape) (h3 : w'.output = w.output)
    (hnew : Later G (G.new c w.heap.size 0 sz ln vs.length) h (h.put nm c b) c (c + 1) w w' → BRel (G.new c w.heap.size 0 sz ln vs.length) (h.put nm c b) (c + 1) w' c b) :
    Stp G (G.new c w.heap.size 0 sz ln vs.length) h (h.put nm c b) c (c + 1) w w' ∧ WRel (G.new c w.heap.size 0 sz ln vs.length) (h.put nm c b) (c + 1) w' := by
  have hk : ∀ k, k < w.heap.size → w'.heap[k]? = w.heap[k]? := by
    intro k hk
    rw [hw, Array.getElem?_push, if_neg (by omega)]
  have L : Later G (G.new c w.heap.size 0 sz ln vs.length) h (h.put nm c b) c (c + 1) w w' :=
    { gh := fun g hg => by
        have : g ≠ c := by omega
        simp [Gh.new, this]
      r0 := fun _ x => x
      r1 := fun _ x => x
      opq := rfl
      cc := by omega
      lv := fun nm' g' hg x => by
        rcases live_put.1 x with ⟨_, rfl⟩ | ⟨_, x⟩
        · omega
        · exact x
      rw := fun b hb => hk b (W.old b hb) }
  constructor
  · exact { L with
      r1' := fun _ x => x
      size := by rw [hw]; simp
      os := h1
      tape := h2
      output := h3
      keep := fun b hb _ => hk b hb
      owns := fun nm' g' x => by
        rcases liveN_put x with ⟨_, rfl⟩ | ⟨_, x⟩
        · right; simp [Gh.new]
        · left
          have hg' : g' < c := by obtain ⟨b, y, _⟩ := x; exact W.gen _ _ _ y
          exact ⟨nm', g', x, by simp [Gh.new, show g' ≠ c by omega]⟩
      froze := fun _ x => .inl x }
  · refine W.put L (by rw [hw]; simp) (fun nm2 g2 hn hl2 => ?_) (by omega) (hnew L) (fun b hb => ?_)
    · obtain ⟨b2, x, _⟩ := hl2
      have hlt : G.blk g2 < w.heap.size := by
        exact (W.blk _ _ _ x).lt
      refine ⟨hk _ hlt, fun _ => ?_, fun x => x⟩
      simp [Gh.new]; omega
    · rw [hw]
      have := W.old b hb
      simp; omega

theorem heap_push_last {w' : World} {x : Obj} (hw : w'.heap = w.heap.push x) : w'.heap[w.heap.size]? = some x := by rw [hw]; simp

theorem all_cellb_of_plain : ∀ {l : List AV}, l.all AV.plain = true → l.all AV.cellb = true := by
  intro l hl
  rw [List.all_eq_true] at *
  intro x hx
  have := hl x hx
  cases x <;> simp_all [AV.plain, AV.cellb]

theorem new_var {nm cells} {vs : List Value} {elem} {w' : World} (W : WRel G h c w) (hw : w'.heap = w.heap.push (.cells ⟨vs⟩ elem (0, 0))) (h1 : w'.os = w.os) (h2 : w'.tape = w.tape) (h3 : w'.output = w.output)
    (L0 : LRel G h c w cells vs) (hcb : cells.all AV.cellb = true) :
    ∃ G', Stp G G' h (h.put nm c (.var cells)) c (c + 1) w w' ∧ WRel G' (h.put nm c (.var cells)) (c + 1) w' ∧ VRel G' (h.put nm c (.var cells)) (c + 1) w' (.ptr nm c 0) (.pointer (some ⟨w.heap.size, 0, none⟩)) := by
  obtain ⟨S, W'⟩ := new_block (nm := nm) (b := .var cells) 1 cells.length W hw h1 h2 h3 (fun L => by
    refine .var cells vs elem 0 0 ?_ (.inl rfl) (by simp [Gh.new]) (by simp [Gh.new]) ?_ hcb (L0.later L)
    · simp only [Gh.new, if_true]; exact heap_push_last hw
    · rw [Gh.new_R]
      simp only [Gh.new, if_true]
      intro x; have := W.old _ x; omega)
  exact ⟨_, S, W', .ptr _ _ _ _ (by omega) (fun _ => by simp [Gh.new])⟩

theorem all_plain_rel {rows : List (List AV)} {sz} (H : ∀ row ∈ rows, row.length = sz ∧ row.all AV.plain = true) : True := trivial

/-- rows of one length, flat -/
theorem flat_get {α} : ∀ {rows : List (List α)} {sz : Nat} (_ : ∀ row ∈ rows, row.length = sz) {i j : Nat} {row v}, rows[i]? = some row → row[j]? = some v → rows.flatten[i * sz + j]? = some v
  | [], sz, H, i, j, row, v, h1, h2 => by simp at h1
  | r0 :: rows, sz, H, 0, j, row, v, h1, h2 => by
    simp at h1; subst h1
    simp only [List.flatten_cons, Nat.zero_mul, Nat.zero_add]
    rw [List.getElem?_append_left]
    · exact h2
    · exact (List.getElem?_eq_some_iff.1 h2).1
  | r0 :: rows, sz, H, i + 1, j, row, v, h1, h2 => by
    simp at h1
    have hr : r0.length = sz := H r0 (by simp)
    simp only [List.flatten_cons]
    rw [List.getElem?_append_right (by rw [hr, Nat.succ_mul]; omega), hr]
    have e : (i + 1) * sz + j - sz = i * sz + j := by rw [Nat.succ_mul]; omega
    rw [e]
    exact flat_get (fun x hx => H x (by simp [hx])) h1 h2
theorem flat_len {α} : ∀ {rows : List (List α)} {sz : Nat} (_ : ∀ row ∈ rows, row.length = sz), rows.flatten.length = rows.length * sz
  | [], sz, H => by simp
  | r0 :: rows, sz, H => by
    simp only [List.flatten_cons, List.length_append, List.length_cons]
    rw [flat_len (fun x hx => H x (by simp [hx])), H r0 (by simp), Nat.succ_mul]
    omega

theorem new_arr {nm rows} {vs rest : List Value} {elem lo hi} {w' : World} {sz : Nat} (W : WRel G h c w) (hw : w'.heap = w.heap.push (.cells ⟨vs ++ rest⟩ elem (lo, hi))) (hf : UnfzS sz (vs ++ rest).length lo hi) (h1 : w'.os = w.os) (h2 : w'.tape = w.tape) (h3 : w'.output = w.output)
    (hz : 0 < sz) (hp : ∀ row ∈ rows, row.length = sz ∧ row.all AV.plain = true) (L0 : LRel G h c w rows.flatten vs) (cap : Nat) (hcap : rows.length ≤ cap) (htot : cap * sz ≤ (vs ++ rest).length) (len : Nat) (hlen : len ≤ cap) :
    ∃ G', Stp G G' h (h.put nm c (.arr sz rows false)) c (c + 1) w w' ∧ WRel G' (h.put nm c (.arr sz rows false)) (c + 1) w' ∧
      VRel G' (h.put nm c (.arr sz rows false)) (c + 1) w' (.own nm c 0 len) (.slice (some ⟨w.heap.size, 0, none⟩) len cap) := by
  have hfl := flat_len (fun x hx => (hp x hx).1)
  obtain ⟨S, W'⟩ := new_block (nm := nm) (b := .arr sz rows false) sz rows.length W hw h1 h2 h3 (fun L => by
    refine .arr sz rows false (vs ++ rest) elem lo hi (by simp [Gh.new]) ?_ hf (by simp [Gh.new]) (by simp [Gh.new]) (by simpa [Gh.new] using hz) ?_ ?_ (by simpa [Gh.new] using hp) ?_
    · simp only [Gh.new, if_true]; exact heap_push_last hw
    · simp only [Gh.new, if_true, Nat.zero_add]
      exact Nat.le_trans (Nat.mul_le_mul_right _ hcap) htot
    · simp only [Bool.false_eq_true, if_false]
      rw [Gh.new_R]
      simp only [Gh.new, if_true]
      intro x; have := W.old _ x; omega
    · intro i j row v x1 x2
      simp only [Gh.new, if_true, Nat.zero_add]
      obtain ⟨v', y1, y2⟩ := L0.2 _ v (flat_get (fun x hx => (hp x hx).1) x1 x2)
      refine ⟨v', ?_, y2.later L⟩
      rw [List.getElem?_append_left]
      · exact y1
      · exact (List.getElem?_eq_some_iff.1 y1).1)
  refine ⟨_, S, W', .own _ _ _ _ _ _ hlen (by omega) (fun _ => ?_)⟩
  simp only [Gh.new, if_true, Nat.zero_add, Nat.zero_mul]
  exact ⟨.inr trivial, hcap, htot⟩

variable (W : WRel G h c w) (E : EnvRel G h c w env a)
include W
theorem ok_alloc {t nm z} (ho : o.op = .alloc t) (hz : zFit P t z = true) (he : evOp Φ env h c (.alloc nm z) = some r) : OpOK P o a G h c w r := by
  simp only [evOp, Option.some.injEq] at he
  subst he
  obtain ⟨v, h1, h2, h3⟩ := run_zeroValue (w := w) hz
  have hvc : v.cells = ⟨v.cells.toList⟩ := by simp
  obtain ⟨G', S, W', R⟩ := new_var (nm := nm) (elem := t) (w' := { w with heap := w.heap.push (.cells ⟨v.cells.toList⟩ t (0, 0)) }) W rfl rfl rfl rfl (h2 G h c w) (all_cellb_of_plain h3)
  refine ⟨_, _, G', ?_, S, W', .inl ⟨_, rfl, R⟩⟩
  simp only [execOp, ho, Instr.alloc, Sem.run_bind, h1, Result.andThen_ok, newVar, newRow, run_newObj]
  rfl

include E
theorem ok_box {t x nm y} (ho : o.op = .box t x) (hx : xFit x y = true) (he : evOp Φ env h c (.box nm y) = some r) : OpOK P o a G h c w r := by
  simp only [evOp, Option.bind_eq_some_iff] at he
  obtain ⟨v, hv, hz⟩ := he
  split at hz
  · next hcb =>
    obtain rfl := Option.some.inj hz
    have rx := xFit_rel hx E hv
    obtain ⟨G', S, W', R⟩ := new_var (nm := nm) (elem := t) (w' := { w with heap := w.heap.push (.cells ⟨(a.eval x).cells.toList⟩ t (0, 0)) }) W rfl rfl rfl rfl rx.cells hcb
    refine ⟨_, _, G', ?_, S, W', .inl ⟨_, rfl, R⟩⟩
    simp only [execOp, ho, Instr.box, Sem.run_bind, newVar, newRow, run_newObj, Result.andThen_ok]
    rfl
  · cases hz
end
end Go.Abs

namespace Go.Abs
variable [Globs]
open Go

section
variable {P : Program} {Φ : Nat → Option FnF} {o : Oper} {a : Act} {G : Gh} {h : AH} {c : Nat} {w : World} {env : Env} {r : AV × AH × Nat}

/-- writing cells of one block by the machine -/
theorem run_store_block {b : Nat} {us : List Value} {e lo hi} {off : Nat} {vs : List Value} (hb : w.heap[b]? = some (.cells ⟨us⟩ e (lo, hi))) (hf : Unfz us.length lo hi) (hlen : off + vs.length ≤ us.length)
    (h1 : ∀ v ∈ vs, v.oneCell' = true) : (storeCells ⟨b, off, none⟩ vs).run P w = .ok () (w.setCells b off vs) := by
  have := run_storeCells_cells (P := P) b off vs 0 w (fun j hj => by
      have : off + j < us.length := by omega
      simp [World.cell?, hb, this]) (fun j hj => by
      have := hf.out (o := off + 0 + j) (by omega)
      simp only [World.frozen?, hb]
      simp only [Bool.and_eq_false_iff, decide_eq_false_iff_not]
      omega) h1
  simpa using this

theorem splice_len {cs ps : List AV} {off : Nat} (hl : off + ps.length ≤ cs.length) : (splice cs off ps).length = cs.length := by
  simp [splice]; omega

theorem splice_get {cs ps : List AV} {off : Nat} (hl : off + ps.length ≤ cs.length) {j : Nat} {v} (hj : (splice cs off ps)[j]? = some v) :
    (off ≤ j ∧ j < off + ps.length ∧ ps[j - off]? = some v) ∨ ((j < off ∨ off + ps.length ≤ j) ∧ cs[j]? = some v) := by
  simp only [splice, List.getElem?_append, List.length_take, List.getElem?_take, List.getElem?_drop] at hj
  rw [show min off cs.length = off by omega] at hj
  split at hj
  · next h1 => right; exact ⟨.inl h1, by first | exact hj | (rw [if_pos h1] at hj; exact hj)⟩
  · next h1 =>
    split at hj
    · next h2 => left; exact ⟨by omega, by omega, hj⟩
    · next h2 => right; refine ⟨.inr (by omega), ?_⟩; rw [← hj]; congr 1; omega
theorem splice_getV {us ps : List Value} {off : Nat} (hl : off + ps.length ≤ us.length) (j : Nat) :
    (us.take off ++ (ps ++ us.drop (off + ps.length)))[j]? = if off ≤ j ∧ j < off + ps.length then ps[j - off]? else us[j]? := by
  simp only [List.getElem?_append, List.length_take, List.getElem?_take, List.getElem?_drop]
  rw [show min off us.length = off by omega]
  by_cases h1 : j < off
  · rw [if_pos h1, if_pos h1, if_neg (by omega)]
  · rw [if_neg h1]
    by_cases h2 : j - off < ps.length
    · rw [if_pos h2, if_pos (by omega)]
    · rw [if_neg h2, if_neg (by omega)]; congr 1; omega

theorem all_splice {p : AV → Bool} {cs ps : List AV} {off : Nat} (h1 : cs.all p = true) (h2 : ps.all p = true) : (splice cs off ps).all p = true := by
  rw [List.all_eq_true] at *
  intro x hx
  simp only [splice, List.mem_append] at hx
  rcases hx with hx | hx | hx
  · exact h1 x (List.mem_of_mem_take hx)
  · exact h2 x hx
  · exact h1 x (List.mem_of_mem_drop hx)

/-- a row of an array, changed -/
theorem rows_set {G G' : Gh} {h h' : AH} {c c' : Nat} {w w' : World} {rows : List (List AV)} {us vs : List Value} {base sz i off : Nat} {row ps : List AV}
    (L : Later G G' h h' c c' w w')
    (hc : ∀ (i j : Nat) row v, rows[i]? = some row → row[j]? = some v → ∃ v', us[base + (i * sz + j)]? = some v' ∧ VRel G h c w v v')
    (hp : ∀ row ∈ rows, row.length = sz ∧ row.all AV.plain = true) (hin : base + rows.length * sz ≤ us.length)
    (hr : rows[i]? = some row) (hl : off + ps.length ≤ row.length) (Lp : LRel G' h' c' w' ps vs) :
    ∀ (i' j : Nat) row' v, (rows.set i (splice row off ps))[i']? = some row' → row'[j]? = some v →
      ∃ v', (us.take (base + (i * sz + off)) ++ (vs ++ us.drop (base + (i * sz + off) + vs.length)))[base + (i' * sz + j)]? = some v' ∧ VRel G' h' c' w' v v' := by
  intro i' j row' v x1 x2
  have hil : i < rows.length := (List.getElem?_eq_some_iff.1 hr).1
  have hrl : row.length = sz := (hp row (List.mem_of_getElem? hr)).1
  have hmul : (i + 1) * sz ≤ rows.length * sz := Nat.mul_le_mul_right _ (by omega)
  rw [Nat.succ_mul] at hmul
  have hvl : vs.length = ps.length := Lp.1
  rw [splice_getV (by omega)]
  rw [List.getElem?_set] at x1
  by_cases hii : i = i'
  · subst hii
    rw [if_pos rfl, if_pos hil] at x1
    obtain rfl := Option.some.inj x1
    rcases splice_get hl x2 with ⟨y1, y2, y3⟩ | ⟨y1, y2⟩
    · obtain ⟨v', z1, z2⟩ := Lp.2 _ v y3
      refine ⟨v', ?_, z2⟩
      rw [if_pos (by omega), ← z1]
      congr 1; omega
    · obtain ⟨v', z1, z2⟩ := hc i j row v hr y2
      refine ⟨v', ?_, z2.later L⟩
      rw [if_neg (by omega)]; exact z1
  · rw [if_neg hii] at x1
    obtain ⟨v', z1, z2⟩ := hc i' j row' v x1 x2
    refine ⟨v', ?_, z2.later L⟩
    have hjl : j < sz := by
      have := (hp row' (List.mem_of_getElem? x1)).1
      have := (List.getElem?_eq_some_iff.1 x2).1
      omega
    rw [if_neg]
    · exact z1
    · intro hh
      rcases Nat.lt_or_gt_of_ne hii with hlt | hgt
      · have : (i + 1) * sz ≤ i' * sz := Nat.mul_le_mul_right _ (by omega)
        rw [Nat.succ_mul] at this; omega
      · have : (i' + 1) * sz ≤ i * sz := Nat.mul_le_mul_right _ (by omega)
        rw [Nat.succ_mul] at this; omega

theorem astore_ok {p cv cs vs h'} (W : WRel G h c w) (rp : VRel G h c w p cv) (hs : astore h p cs = some h') (L : LRel G h c w cs vs) :
    ∃ ad G' w', cv = .pointer (some ad) ∧ (storeCells ad vs).run P w = .ok () w' ∧ Stp G G' h h' c c w w' ∧ WRel G' h' c w' := by
  unfold astore at hs
  split at hs
  · next nm g off =>
    split at hs
    · next cells hb =>
      split at hs
      · next hcond =>
        obtain rfl := Option.some.inj hs
        obtain ⟨hle, hcb⟩ := hcond
        cases W.blk _ _ _ hb with
        | var _ us elem lo hi h1 hf ht hln hR hcb0 hcs =>
          cases rp with
          | ptr _ _ _ ad hg hl =>
            have hl' := hl ⟨_, hb⟩
            subst hl'
            have e1 := L.1
            have e2 := hcs.1
            obtain ⟨w', rfl, S, W'⟩ := store_block (b' := .var (splice cells off cs)) (off := off) (vs := vs) W ⟨_, hb, by simp⟩ h1 (by omega) (fun w' hw' Lt => by
              have hlen2 : (us.take off ++ (vs ++ us.drop (off + vs.length))).length = us.length := by simp; omega
              refine .var _ _ elem lo hi hw' (by rw [hlen2]; exact hf) (by rw [hlen2]; exact ht) (by rw [splice_len hle]; exact hln) hR (all_splice hcb0 hcb) ?_
              exact (hcs.later Lt).splice (L.later Lt) off) hR
            exact ⟨_, G, _, rfl, run_store_block h1 hf (by omega) (L.cellb hcb), S, W'⟩
      · cases hs
    · cases hs
  · next nm g i off =>
    simp only [Option.bind_eq_some_iff] at hs
    obtain ⟨q, hq, hs⟩ := hs
    obtain ⟨G1, S1, W1, L1, hpl⟩ := freezeL_ok (vs' := q.1) (h' := q.2) W hq L
    have rp1 := rp.later S1.toLater
    split at hs
    · next sz rows hb =>
      split at hs
      · next row hrow =>
        split at hs
        · next hle =>
          obtain rfl := Option.some.inj hs
          cases W1.blk _ _ _ hb with
          | arr _ _ _ us elem lo hi hsz h1 hf ht hln hz hin hR hp hcs =>
            cases rp1 with
            | eptr _ _ _ _ ad hg hl =>
              have hl' := hl ⟨_, hb⟩
              subst hl'
              have e1 := L1.1
              have hil : i < rows.length := (List.getElem?_eq_some_iff.1 hrow).1
              have hrl : row.length = G1.sz g := (hp row (List.mem_of_getElem? hrow)).1
              have hmul : (i + 1) * G1.sz g ≤ rows.length * G1.sz g := Nat.mul_le_mul_right _ (by omega)
              rw [Nat.succ_mul] at hmul
              have hR' : ¬ G1.R true (G1.blk g) := by simpa using hR
              obtain ⟨w', rfl, S, W'⟩ := store_block (b' := .arr sz (rows.set i (splice row off q.1)) false) (off := G1.base g + (i * G1.sz g + off)) (vs := vs) W1 ⟨_, hb, by simp⟩ h1 (by omega) (fun w' hw' Lt => by
                have hlen2 : (us.take (G1.base g + (i * G1.sz g + off)) ++ (vs ++ us.drop (G1.base g + (i * G1.sz g + off) + vs.length))).length = us.length := by simp; omega
                refine .arr sz _ false _ elem lo hi hsz hw' (by rw [hlen2]; exact hf) (by rw [hlen2]; exact ht) (by simpa using hln) hz (by rw [hlen2]; simpa using hin) (by simpa using hR') ?_ ?_
                · intro row' hrow'
                  rcases List.mem_or_eq_of_mem_set hrow' with hm | rfl
                  · exact hp _ hm
                  · refine ⟨by rw [splice_len hle]; exact hrl, all_splice (hp row (List.mem_of_getElem? hrow)).2 hpl⟩
                · exact rows_set Lt hcs hp hin hrow hle (L1.later Lt)) hR'
              exact ⟨_, G1, _, rfl, run_store_block h1 hf.unfz (by omega) (L1.cellb (all_cellb_of_plain hpl)), S1.trans S, W'⟩
        · cases hs
      · cases hs
    · cases hs
  · cases hs

theorem ok_store (W : WRel G h c w) (E : EnvRel G h c w env a) {t x v n y u} (ho : o.op = .store t x v) (hd : o.dst = none) (hn : sizeB P t n = true) (hx : xFit x y = true) (hv : xFit v u = true)
    (he : evOp Φ env h c (.store n y u) = some r) : OpOK P o a G h c w r := by
  simp only [evOp, Option.bind_eq_some_iff] at he
  obtain ⟨p, hp, q, hq, hz⟩ := he
  split at hz
  · next hlen =>
    simp only [Option.map_eq_some_iff] at hz
    obtain ⟨h', hh, rfl⟩ := hz
    have rx := xFit_rel hx E hp
    have rv := xFit_rel hv E hq
    obtain ⟨ad, G', w', e, hr, S, W'⟩ := astore_ok (P := P) W rx hh rv.cells
    refine ⟨_, w', G', ?_, S, W', .inr ⟨rfl, hd⟩⟩
    have hsz : (a.eval v).cells.size = n := by have := rv.cells.1; simp at this; omega
    simp [execOp, ho, e, Instr.storeAt, Instr.sureAddr, storeVar, run_sizeOf hn, hsz, hr]
  · cases hz
end
end Go.Abs

namespace Go.Abs
variable [Globs]
open Go
variable {P : Program} {G : Gh} {h : AH} {c : Nat} {w : World} {env : Env} {a : Act} {o : Oper} {r : AV × AH × Nat} {Φ : Nat → Option FnF}

theorem freeze_heap {b : Nat} {vs : List Value} {e lo hi} (hb : w.heap[b]? = some (.cells ⟨vs⟩ e (lo, hi))) (hf : UnfzS 1 vs.length lo hi) :
    ∃ lo' hi', UnfzS 1 vs.length lo' hi' ∧ (w.freeze ⟨b, vs.length, none⟩ 1).heap[b]? = some (.cells ⟨vs⟩ e (lo', hi')) ∧ (∀ b', b' ≠ b → (w.freeze ⟨b, vs.length, none⟩ 1).heap[b']? = w.heap[b']?) ∧
      (w.freeze ⟨b, vs.length, none⟩ 1).heap.size = w.heap.size ∧ (w.freeze ⟨b, vs.length, none⟩ 1).os = w.os ∧ (w.freeze ⟨b, vs.length, none⟩ 1).tape = w.tape ∧ (w.freeze ⟨b, vs.length, none⟩ 1).output = w.output := by
  unfold World.freeze
  rw [if_neg (by decide)]
  refine ⟨if lo == hi then vs.length else min lo vs.length, if lo == hi then vs.length + 1 else max hi (vs.length + 1), ?_, ?_, fun b' hn => ?_, by simp, rfl, rfl, rfl⟩
  · unfold UnfzS at hf ⊢
    by_cases e : lo = hi
    · simp [e]
    · have : (lo == hi) = false := by simpa using e
      rw [this]
      simp only [Bool.false_eq_true, if_false]
      rcases hf with h | ⟨_, h1, h2⟩
      · exact absurd h e
      · exact .inr ⟨trivial, by omega, by omega⟩
  · simp only [Array.getElem?_modify, if_true, hb, Option.map_some]
    congr 1
    by_cases e : lo = hi
    · simp [e]
    · have : (lo == hi) = false := by simpa using e
      simp [this]
  · simp only [Array.getElem?_modify, if_neg (Ne.symm hn)]

theorem ok_idc (W : WRel G h c w) (E : EnvRel G h c w env a) {s d x x' e} (ho : o.op = .convert s d x) (ht : elemB P s = some e) (hsd : s = d) (hi : intB P e = some .u8) (hx : xFit x x' = true)
    (he : evOp Φ env h c (.idc x') = some r) : OpOK P o a G h c w r := by
  subst hsd
  simp only [evOp, Option.bind_eq_some_iff] at he
  obtain ⟨u, hu, hz⟩ := he
  have rx := xFit_rel hx E hu
  generalize hcx : a.eval x = cx at rx
  split at hz
  · next nm g off len =>
    split at hz
    · next rows hget =>
      split at hz
      · next hlen =>
        obtain rfl := Option.some.inj hz
        cases rx with
        | own _ _ _ _ ad cap hc hg hl =>
          obtain ⟨ha, hk, htt⟩ := hl ⟨_, hget⟩
          have had : ad = ⟨G.blk g, G.base g + off * G.sz g, none⟩ := by
            rcases ha with ha | ha
            · omega
            · exact ha
          cases W.blk _ _ _ hget with
          | arr _ _ _ vs elem lo hi3 hsz hb hf htot hln hzz hin hR hp hcs =>
            simp only [Bool.false_eq_true, if_false] at hR
            obtain ⟨lo', hi2, hf', i1, i2, i3, i4, i5, i6⟩ := freeze_heap hb hf
            have hlN : liveN h nm g := ⟨_, hget, by simp⟩
            have L : Later G G h h c c w (w.freeze ⟨G.blk g, vs.length, none⟩ 1) :=
              { (Stp.refl G h c w).toLater with rw := fun b hb => i2 b (fun e => hR (e ▸ hb)) }
            have hrun : (execOp a.eval o).run P w = .ok (.value (.slice (some ad) len cap)) (w.freeze ⟨G.blk g, vs.length, none⟩ 1) := by
              have hu1 := elemB_spec ht
              have hu2 := intB_spec hi
              have hsh : w.shape? (G.blk g) = some (elem, vs.length) := by
                unfold World.shape?; rw [hb]; rfl
              simp only [execOp, ho, hcx, convert, Sem.run_bind, run_underlying hu1, run_underlying hu2, Result.andThen_ok, beq_self_eq_true, markStringish, had]
              simp [hsh]
            refine ⟨_, _, G, hrun, { L with r1' := fun _ x => x, size := by rw [i3]; exact Nat.le_refl _, os := i4, tape := i5, output := i6, keep := fun b _ hn => i2 b (fun e => hn nm g hlN e.symm), owns := fun nm' g' x => .inl ⟨nm', g', x, rfl⟩, froze := fun _ x => .inl x }, ?_, .inl ⟨_, rfl, ?_⟩⟩
            · refine { gen := W.gen, blk := fun n2 g2 b x => ?_, apart := W.apart, old := fun b hb => by rw [i3]; exact W.old b hb }
              by_cases hgn : b = .gone
              · subst hgn
                cases W.blk n2 g2 _ x with
                | gone hlt => exact .gone (by rw [i3]; exact hlt)
              · rcases W.apart n2 g2 nm g ⟨b, x, hgn⟩ hlN with ⟨e1, e2⟩ | hne
                · subst e1; subst e2
                  rw [hget] at x
                  obtain rfl := Option.some.inj x
                  exact .arr 1 rows false vs elem lo' hi2 hsz i1 hf' htot hln hzz hin (by simpa using hR) hp (fun i j row v h1 h2 => let ⟨v', y1, y2⟩ := hcs i j row v h1 h2; ⟨v', y1, y2.later L⟩)
                · exact (W.blk n2 g2 b x).later L (W.gen n2 g2 b x) (i2 _ hne) id (fun hlt => by rw [i3]; exact hlt)
            · exact .own _ _ _ _ _ _ hc hg (fun _ => ⟨.inr had, hk, htt⟩)
      · cases hz
    · cases hz
  · cases hz
end Go.Abs

namespace Go.Abs
variable [Globs]
open Go
variable {P : Program} {G : Gh} {h : AH} {c : Nat} {w : World} {env : Env} {a : Act} {o : Oper} {r : AV × AH × Nat} {Φ : Nat → Option FnF}

theorem find_ib (fn : Func) (h1 : fn.name = "internal/bytealg.IndexByteString") (h2 : fn.origin = "") : Extern.findNext fn = none ∧ Extern.find fn = some Extern.BytealgIndexByte.indexByte := by
  have e1 : Extern.allNextRows.lookup "internal/bytealg.IndexByteString" = none := by kernel_rfl
  have e2 : Extern.allNextRows.lookup "" = none := by kernel_rfl
  have e3 : Extern.allGenericRows.lookup "internal/bytealg.IndexByteString" = none := by kernel_rfl
  have e4 : Extern.allTypedRows.lookup "internal/bytealg.IndexByteString" = none := by kernel_rfl
  have e5 : Extern.allRows.lookup "internal/bytealg.IndexByteString" = some Extern.BytealgIndexByte.indexByte := by kernel_rfl
  constructor
  · simp only [Extern.findNext, h1, h2, e1, e2]; rfl
  · simp only [Extern.find, h1, h2, e3, e4, e5]; rfl

theorem ok_xib (W : WRel G h c w) (E : EnvRel G h c w env a) {f f' args ats s x s' x' fn} (ho : o.op = .call { callee := .value (.func f), args := args, argTypes := ats }) (hf : P.funcs[f]? = some fn)
    (h1 : fn.name = "internal/bytealg.IndexByteString") (h2 : fn.origin = "") (h3 : fn.body.isNone = true) (ha : args.toList = [s, x]) (hs : xFit s s' = true) (hx : xFit x x' = true)
    (he : evOp Φ env h c (.xib f' s' x') = some r) : OpOK P o a G h c w r := by
  simp only [evOp, Option.bind_eq_some_iff] at he
  obtain ⟨v, hv, u, hu, hz⟩ := he
  have rs := xFit_rel hs E hv
  have rx := xFit_rel hx E hu
  generalize hcs : a.eval s = cs at rs
  generalize hcx : a.eval x = cx at rx
  split at hz
  · next st n =>
    obtain rfl := Option.some.inj hz
    cases rs
    cases rx
    refine .quiet W ?_ (.int _ _)
    have harg : args.map a.eval = #[.string st, .int .u8 n] := by
      have : args = ⟨[s, x]⟩ := by cases args; simp_all
      subst this
      simp [hcs, hcx]
    obtain ⟨f1, f2⟩ := find_ib fn h1 h2
    simp only [execOp, ho, resolve, Act.eval, Deferred.ofValue, Sem.run_bind, Sem.run_pure, Result.andThen_ok, invoke, callFunc]
    simp [hf, f1, f2, harg]
    rw [Go.Lib.run_indexByteString, if_neg (by rw [h1]; decide), if_pos (by simpa using h3)]
    simp
  · cases hz
end Go.Abs

namespace Go.Abs
variable [Globs]
open Go
section
variable {P : Program} {Φ : Nat → Option FnF} {o : Oper} {a : Act} {G : Gh} {h : AH} {c : Nat} {w : World} {env : Env} {r : AV × AH × Nat}

theorem mmL_ok (mx : Bool) : ∀ {vs : List AV} {cvs : List Value} {v r : AV} {cv : Value}, LRel G h c w vs cvs → VRel G h c w v cv → ammL mx v vs = some r →
    ∃ cr, (cvs.foldlM (if mx then Builtin.max2 else Builtin.min2) cv).run P w = .ok cr w ∧ VRel G h c w r cr
  | [], cvs, v, r, cv, L, V, he => by
    rw [L.nil_inv]
    unfold ammL at he
    split at he
    · obtain rfl := Option.some.inj he
      exact ⟨cv, rfl, V⟩
    · cases he
  | u :: vs, cvs, v, r, cv, L, V, he => by
    obtain ⟨cu, cus, rfl, U, L'⟩ := L.cons_inv
    unfold ammL at he
    split at he
    · next x hx =>
      unfold amm2 at hx
      split at hx
      · next k p k' q =>
        split at hx
        · next hk =>
          subst hk
          obtain rfl := Option.some.inj hx
          cases V
          cases U
          obtain ⟨cr, h1, h2⟩ := mmL_ok mx L' (.int _ _) he
          refine ⟨cr, ?_, h2⟩
          rw [List.foldlM_cons, Sem.run_bind]
          cases mx <;> simpa [Builtin.max2, Builtin.min2] using h1
        · cases hx
      · cases hx
    · cases he

/-- a block that nobody owns -/
theorem grow_any {w' : World} {o : Obj} (W : WRel G h c w) (hw : w'.heap = w.heap.push o) (h1 : w'.os = w.os) (h2 : w'.tape = w.tape) (h3 : w'.output = w.output) :
    Stp G G h h c c w w' ∧ WRel G h c w' := by
  have hk : ∀ k, k < w.heap.size → w'.heap[k]? = w.heap[k]? := by
    intro k hk
    rw [hw, Array.getElem?_push, if_neg (by omega)]
  have hsz : w.heap.size ≤ w'.heap.size := by rw [hw]; simp
  have S : Stp G G h h c c w w' :=
    { Stp.refl G h c w with
      rw := fun b hb => hk b (W.old b hb)
      size := hsz, os := h1, tape := h2, output := h3
      keep := fun b hb _ => hk b hb
      owns := fun nm g x => .inl ⟨nm, g, x, rfl⟩
      froze := fun _ x => .inl x }
  exact ⟨S, W.gen, fun nm g b x => (W.blk _ _ _ x).later S.toLater (W.gen _ _ _ x) (hk _ (W.blk _ _ _ x).lt) id (fun y => Nat.lt_of_lt_of_le y hsz), W.apart, fun b hb => Nat.lt_of_lt_of_le (W.old b hb) hsz⟩


theorem ok_bemp {t sz e} (W : WRel G h c w) (ho : o.op = .buildSlice t 0 #[]) (ht : elemB P t = some e) (hs : sizeB P e sz = true) (he : evOp Φ env h c (.bemp sz) = some r) : OpOK P o a G h c w r := by
  simp only [evOp, Option.some.injEq] at he
  subst he
  obtain ⟨S, W'⟩ := grow_any (w' := w.alloc (.cells #[] e)) (o := .cells #[] e) W rfl rfl rfl rfl
  refine ⟨_, _, G, ?_, S, W', .inl ⟨.slice (some ⟨w.heap.size, 0, none⟩) 0 0, rfl, .emp _⟩⟩
  simp only [execOp, ho, Instr.buildSlice, Sem.run_bind, run_underlying (elemB_spec ht), run_sizeOf hs, Result.andThen_ok]
  simp only [Nat.zero_mul, if_true, Sem.run_pure, Result.andThen_ok]
  rw [if_neg (by decide)]
  simp only [Array.map_empty, Instr.fill, newRow, Sem.run_bind, run_newObj, Result.andThen_ok, Sem.run_pure]
  rw [show Array.range 0 = #[] from by simp, Array.map_empty]
  rfl

variable (W : WRel G h c w) (E : EnvRel G h c w env a)
include W E
theorem ok_mm {b args argTypes mx ys} (ho : o.op = .call { callee := .builtin b, args := args, argTypes := argTypes }) (hb : (b = .max ∧ mx = true) ∨ (b = .min ∧ mx = false)) (hx : xsFit args.toList ys = true) (he : evOp Φ env h c (.mm mx ys) = some r) : OpOK P o a G h c w r := by
  simp only [evOp, Option.bind_eq_some_iff, Option.map_eq_some_iff] at he
  obtain ⟨vs, hvs, v, hv, rfl⟩ := he
  have L := xsFit_rel E hx hvs
  cases vs with
  | nil => cases hv
  | cons v0 vs =>
    obtain ⟨c0, cs, hcs, V0, L'⟩ := L.cons_inv
    obtain ⟨cr, h1, h2⟩ := mmL_ok (P := P) mx L' V0 hv
    have e : args.map a.eval = ⟨c0 :: cs⟩ := by rw [← hcs]; cases args; simp
    refine .quiet W (cv := cr) ?_ h2
    rcases hb with ⟨rfl, rfl⟩ | ⟨rfl, rfl⟩
    · simp only [if_true] at h1
      simp [execOp, ho, resolve, invoke, builtin, Builtin.max_, e, Sem.run_bind, h1]
    · simp only [Bool.false_eq_true, if_false] at h1
      simp [execOp, ho, resolve, invoke, builtin, Builtin.min_, e, Sem.run_bind, h1]
end
end Go.Abs

namespace Go.Abs
variable [Globs]
open Go

section
variable {P : Program} {Φ : Nat → Option FnF} {o : Oper} {a : Act} {G : Gh} {h : AH} {c : Nat} {w : World} {env : Env} {r : AV × AH × Nat}

theorem sizeB_inj {t n m} (h1 : sizeB P t n = true) (h2 : sizeB P t m = true) : n = m := by
  unfold sizeB at h1 h2
  cases hi : P.info? t with
  | none => simp [hi] at h1
  | some i => simp [hi] at h1 h2; omega

theorem drop_rptr {cells : List AV} {ad : Addr} {cv : Nat → Value} {n : Nat} (hr : cells ≠ [] → G.R true ad.block ∧ ad.spot = none) (hp : cells.all AV.plain = true)
    (hcell : ∀ (j : Nat) v, cells[j]? = some v → w.cell? ⟨ad.block, ad.off + j, none⟩ = some (cv j)) (hv : ∀ (j : Nat) v, cells[j]? = some v → VRel G h c w v (cv j)) :
    VRel G h c w (.rptr (cells.drop n)) (.pointer (some (ad.add n))) := by
  have hne : cells.drop n ≠ [] → cells ≠ [] := fun x e => x (by simp [e])
  refine .rptr _ _ (fun j => cv (n + j)) (fun x => ?_) ?_ ?_ ?_
  · rw [add_spot (hr (hne x)).2]
    exact ⟨(hr (hne x)).1, rfl⟩
  · rw [List.all_eq_true] at *
    exact fun x hx => hp x (List.mem_of_mem_drop hx)
  · intro j v hj
    have hx : cells ≠ [] := by intro e; subst e; simp at hj
    rw [List.getElem?_drop] at hj
    rw [add_spot (hr hx).2]
    have := hcell _ v hj
    rw [← this]; congr 1
    show (⟨ad.block, ad.off + n + j, none⟩ : Addr) = _
    rw [Nat.add_assoc]
  · intro j v hj
    rw [List.getElem?_drop] at hj
    exact hv _ v hj

/-- an address moved on: of a variable, of a row, of memory that nobody writes -/
theorem add_rel {p q : AV} {cv} {n : Nat} (rp : VRel G h c w p cv)
    (hq : q = match p with | .ptr nm g o => .ptr nm g (o + n) | .eptr nm g i o => .eptr nm g i (o + n) | .rptr cs => .rptr (cs.drop n) | p => p)
    (hp : (∃ nm g o, p = .ptr nm g o) ∨ (∃ nm g i o, p = .eptr nm g i o) ∨ ∃ cs, p = .rptr cs) : ∃ ad, cv = .pointer (some ad) ∧ VRel G h c w q (.pointer (some (ad.add n))) := by
  rcases hp with ⟨nm, g, o, rfl⟩ | ⟨nm, g, i, o, rfl⟩ | ⟨cs, rfl⟩
  · subst hq
    cases rp with
    | ptr _ _ _ ad hg hl =>
      exact ⟨ad, rfl, .ptr _ _ _ _ hg (fun x => by rw [hl x, add_spot rfl])⟩
  · subst hq
    cases rp with
    | eptr _ _ _ _ ad hg hl =>
      exact ⟨ad, rfl, .eptr _ _ _ _ _ hg (fun x => by rw [hl x, add_spot rfl]; congr 1; show G.base g + (i * G.sz g + o) + n = _; omega)⟩
  · subst hq
    cases rp with
    | rptr _ ad f hr hpl hcell hv => exact ⟨ad, rfl, drop_rptr hr hpl hcell hv⟩

variable (W : WRel G h c w) (E : EnvRel G h c w env a)
include W E

theorem ok_nilck {x y} (ho : o.op = .nilCheck x) (hx : xFit x y = true) (he : evOp Φ env h c (.nilck y) = some r) : OpOK P o a G h c w r := by
  simp only [evOp, Option.bind_eq_some_iff] at he
  obtain ⟨v, hv, hz⟩ := he
  have rx := xFit_rel hx E hv
  generalize hcx : a.eval x = cx at rx
  split at hz
  · obtain rfl := Option.some.inj hz
    cases rx with
    | ptr _ _ _ ad hg hl => exact .quiet W (by simp [execOp, ho, hcx]) (.ptr _ _ _ _ hg hl)
  · obtain rfl := Option.some.inj hz
    cases rx with
    | eptr _ _ _ _ ad hg hl => exact .quiet W (by simp [execOp, ho, hcx]) (.eptr _ _ _ _ _ hg hl)
  · obtain rfl := Option.some.inj hz
    cases rx with
    | rptr _ ad f hr hpl hcell hv => exact .quiet W (by simp [execOp, ho, hcx]) (.rptr _ _ f hr hpl hcell hv)
  · obtain rfl := Option.some.inj hz
    obtain ⟨vs, rfl, L⟩ := rx.fn_inv
    exact .quiet W (by simp [execOp, ho, hcx]) (.fn_mk L)
  · obtain rfl := Option.some.inj hz
    obtain ⟨vs, rfl, L⟩ := rx.bm_inv
    exact .quiet W (by simp [execOp, ho, hcx]) (.bm_mk L)
  · cases hz

theorem ok_fad {t x f off y fs fd} (ho : o.op = .fieldAddr t x f) (hu : P.underlying t = some (.struct fs)) (hfd : fs[f]? = some fd) (hoff : fd.offset = off) (hn : (P.info? fd.type).isSome = true) (hn0 : sizeB P fd.type 0 = false) (hx : xFit x y = true)
    (he : evOp Φ env h c (.fad off y) = some r) : OpOK P o a G h c w r := by
  simp only [evOp, Option.bind_eq_some_iff] at he
  obtain ⟨v, hv, hz⟩ := he
  have rx := xFit_rel hx E hv
  obtain ⟨inf, hinf⟩ := Option.isSome_iff_exists.1 hn
  have hs : (sizeOf fd.type).run P w = .ok inf.size w := run_sizeOf (by simp [sizeB, hinf])
  have hs0 : inf.size ≠ 0 := by intro e; simp [sizeB, hinf, e] at hn0
  have key : ∀ ad, a.eval x = .pointer (some ad) → (execOp a.eval o).run P w = .ok (.value (.pointer (some (ad.add off)))) w := by
    intro ad hcx
    simp [execOp, ho, hcx, Instr.fieldAt, run_underlying hu, hfd, Instr.sureAddr, fieldPlace, hs, hs0, hoff]
  split at hz
  · obtain rfl := Option.some.inj hz
    obtain ⟨ad, e, R⟩ := add_rel (n := off) rx rfl (.inl ⟨_, _, _, rfl⟩)
    exact .quiet W (key ad e) R
  · obtain rfl := Option.some.inj hz
    obtain ⟨ad, e, R⟩ := add_rel (n := off) rx rfl (.inr (.inl ⟨_, _, _, _, rfl⟩))
    exact .quiet W (key ad e) R
  · obtain rfl := Option.some.inj hz
    obtain ⟨ad, e, R⟩ := add_rel (n := off) rx rfl (.inr (.inr ⟨_, rfl⟩))
    exact .quiet W (key ad e) R
  · cases hz

theorem ok_iada {t x i len sz y j e} (ho : o.op = .indexAddr t x i) (hu : P.underlying t = some (.array len e)) (hs : sizeB P e sz = true) (hx : xFit x y = true) (hi : xFit i j = true)
    (he : evOp Φ env h c (.iada len sz y j) = some r) : OpOK P o a G h c w r := by
  simp only [evOp, Option.bind_eq_some_iff] at he
  obtain ⟨u, hu', ix, hix, hz⟩ := he
  have rx := xFit_rel hx E hu'
  have ri := xFit_rel hi E hix
  generalize hci : a.eval i = ci at ri
  split at hz
  · next m hm =>
    obtain ⟨k, q, rfl, hq, hqm⟩ := asNat_inv hm ri
    split at hz
    · next hlt =>
      have hql : q < (len : Int) := by omega
      have key : ∀ ad, a.eval x = .pointer (some ad) → (execOp a.eval o).run P w = .ok (.value (.pointer (some (ad.add (m * sz))))) w := by
        intro ad hcx
        simp [execOp, ho, hcx, hci, Instr.indexAt, asIntOf, run_underlying hu, Instr.sureAddr, hq, hql, run_sizeOf hs, hqm]
      split at hz
      · obtain rfl := Option.some.inj hz
        obtain ⟨ad, e, R⟩ := add_rel (n := m * sz) rx rfl (.inl ⟨_, _, _, rfl⟩)
        exact .quiet W (key ad e) R
      · obtain rfl := Option.some.inj hz
        obtain ⟨ad, e, R⟩ := add_rel (n := m * sz) rx rfl (.inr (.inl ⟨_, _, _, _, rfl⟩))
        exact .quiet W (key ad e) R
      · obtain rfl := Option.some.inj hz
        obtain ⟨ad, e, R⟩ := add_rel (n := m * sz) rx rfl (.inr (.inr ⟨_, rfl⟩))
        exact .quiet W (key ad e) R
      · cases hz
    · cases hz
  · cases hz

theorem ok_iad {t x i sz y j e} (ho : o.op = .indexAddr t x i) (hu : elemB P t = some e) (hs : sizeB P e sz = true) (hx : xFit x y = true) (hi : xFit i j = true)
    (he : evOp Φ env h c (.iad sz y j) = some r) : OpOK P o a G h c w r := by
  simp only [evOp, Option.bind_eq_some_iff] at he
  obtain ⟨u, hu', ix, hix, hz⟩ := he
  have rx := xFit_rel hx E hu'
  have ri := xFit_rel hi E hix
  generalize hci : a.eval i = ci at ri
  split at hz
  case h_2 => cases hz
  next m hm =>
  obtain ⟨k, q, rfl, hq, hqm⟩ := asNat_inv hm ri
  have key : ∀ ad len cap, a.eval x = .slice (some ad) len cap → m < len → (execOp a.eval o).run P w = .ok (.value (.pointer (some (ad.add (m * sz))))) w := by
    intro ad len cap hcx hlt
    have hql : q < (len : Int) := by omega
    simp [execOp, ho, hcx, hci, Instr.indexAt, asIntOf, run_underlying (elemB_spec hu), hq, hql, run_sizeOf hs, hqm]
  split at hz
  · next t s rows =>
    split at hz
    · next hss =>
      subst hss
      simp only [Option.map_eq_some_iff] at hz
      obtain ⟨row, hrow, rfl⟩ := hz
      have hml : m < rows.length := (List.getElem?_eq_some_iff.1 hrow).1
      generalize hcx : a.eval x = cx at rx key
      cases rx with
      | ro _ _ _ ad cap cv hc hr hp hcell hv =>
        have hne : rows ≠ [] := by intro e; subst e; simp at hrow
        refine .quiet W (key ad _ cap rfl hml) ?_
        rw [add_spot (hr hne).2.1]
        refine .rptr row _ (fun j => cv m j) (fun _ => ⟨Gh.R_true (hr hne).1, rfl⟩) (hp row (List.mem_of_getElem? hrow)).2 (fun j v hj => ?_) (fun j v hj => hv m j row v hrow hj)
        rw [← hcell m j row v hrow hj]
        congr 1
        show (⟨ad.block, ad.off + m * s + j, none⟩ : Addr) = _
        rw [Nat.add_assoc]
    · cases hz
  · next nm g off len =>
    split at hz
    · next s rows fz hb =>
      split at hz
      · next hss =>
        obtain ⟨rfl, hlt⟩ := hss
        obtain rfl := Option.some.inj hz
        generalize hcx : a.eval x = cx at rx key
        cases rx with
        | own _ _ _ _ ad cap hc hg hl =>
          refine .quiet W (key ad _ cap rfl hlt) ?_
          obtain ⟨ha, hk, _⟩ := hl ⟨_, hb⟩
          rcases ha with ha | ha
          · omega
          · subst ha
            refine .eptr _ _ _ _ _ hg (fun _ => ?_)
            rw [add_spot rfl]
            cases W.blk _ _ _ hb with
            | arr _ _ _ us elem lo hi hsz h1 hf ht hln hz hin hR hp hcs =>
              rw [← hsz]
              congr 1
              show G.base g + off * G.sz g + m * G.sz g = _
              rw [Nat.add_mul]; omega
      · cases hz
    · cases hz
  · next nm g off len =>
    split at hz
    · next hss =>
      obtain ⟨hlt, rfl⟩ := hss
      obtain rfl := Option.some.inj hz
      generalize hcx : a.eval x = cx at rx key
      cases rx with
      | vsl _ _ _ _ ad cap hc hg hl =>
        refine .quiet W (key ad _ cap rfl hlt) ?_
        refine .ptr _ _ _ _ hg (fun x => ?_)
        obtain ⟨ha, hk⟩ := hl x
        rcases ha with ha | ha
        · omega
        · subst ha; rw [add_spot rfl]; simp
    · cases hz
  · cases hz
end
end Go.Abs

namespace Go.Abs
variable [Globs]
open Go

section
variable {P : Program} {Φ : Nat → Option FnF} {o : Oper} {a : Act} {G : Gh} {h : AH} {c : Nat} {w : World} {env : Env} {r : AV × AH × Nat}

theorem flat_inv {α} : ∀ {rows : List (List α)} {sz : Nat} (_ : ∀ row ∈ rows, row.length = sz) {k : Nat} {v}, rows.flatten[k]? = some v →
    ∃ i j row, rows[i]? = some row ∧ row[j]? = some v ∧ k = i * sz + j
  | [], sz, H, k, v, h => by simp at h
  | r0 :: rows, sz, H, k, v, h => by
    have hr : r0.length = sz := H r0 (by simp)
    simp only [List.flatten_cons, List.getElem?_append] at h
    split at h
    · exact ⟨0, k, r0, rfl, h, by omega⟩
    · next hk =>
      obtain ⟨i, j, row, h1, h2, h3⟩ := flat_inv (fun x hx => H x (by simp [hx])) h
      exact ⟨i + 1, j, row, by simpa using h1, h2, by rw [Nat.succ_mul]; omega⟩

/-- what a slice shows, as cells of the world -/
structure RowsRel (G : Gh) (h : AH) (c : Nat) (w : World) (sz : Nat) (rows : List (List AV)) (cv : Value) : Prop where
  hrow : ∀ row ∈ rows, row.length = sz ∧ row.all AV.plain = true
  hcell : (∃ cap, cv = .slice none 0 cap ∧ rows = []) ∨ ∃ ad cap, cv = .slice (some ad) rows.length cap ∧ rows.length ≤ cap ∧ (rows = [] ∨ CellsRel G h c w ad rows.flatten)

theorem rowsOf_run (W : WRel G h c w) {sz v rows cv} (rv : VRel G h c w v cv) (hr : rowsOf h sz v = some rows) : RowsRel G h c w sz rows cv := by
  unfold rowsOf at hr
  split at hr
  · obtain rfl := Option.some.inj hr
    cases rv
    exact ⟨by simp, .inl ⟨_, rfl, rfl⟩⟩
  · obtain rfl := Option.some.inj hr
    cases rv with
    | emp ad => exact ⟨by simp, .inr ⟨ad, 0, rfl, by simp, .inl rfl⟩⟩
  · next t s rows' =>
    split at hr
    · next hs =>
      obtain rfl := Option.some.inj hr
      subst hs
      cases rv with
      | ro _ _ _ ad cap cv hc hrr hp hcell hv =>
        refine ⟨hp, .inr ⟨ad, cap, rfl, hc, ?_⟩⟩
        by_cases hne : rows' = []
        · exact .inl hne
        · right
          refine ⟨(hrr hne).2.1, fun k v hk => ?_⟩
          obtain ⟨i, j, row, h1, h2, rfl⟩ := flat_inv (fun x hx => (hp x hx).1) hk
          exact ⟨_, hcell i j row v h1 h2, hv i j row v h1 h2⟩
    · cases hr
  · next nm g off len =>
    split at hr
    · next s rows' fz hb =>
      split at hr
      · next hs =>
        obtain ⟨rfl, hle⟩ := hs
        obtain rfl := Option.some.inj hr
        have hlen : ((rows'.drop off).take len).length = len := by simp; omega
        cases rv with
        | own _ _ _ _ ad cap hc hg hl =>
          obtain ⟨ha, hk, ht'⟩ := hl ⟨_, hb⟩
          cases W.blk _ _ _ hb with
          | arr _ _ _ us elem lo hi hsz h1 hf ht hln hz hin hR hp hcs =>
            have hp' : ∀ row ∈ (rows'.drop off).take len, row.length = s ∧ row.all AV.plain = true := by
              intro row hrow
              rw [← hsz]
              exact hp row (List.mem_of_mem_drop (List.mem_of_mem_take hrow))
            refine ⟨hp', .inr ⟨ad, cap, by rw [hlen], by omega, ?_⟩⟩
            rcases ha with ha | ha
            · left
              have : len = 0 := by omega
              subst this; simp
            · right
              subst ha
              refine ⟨rfl, fun k v hk => ?_⟩
              obtain ⟨i, j, row, x1, x2, rfl⟩ := flat_inv (fun x hx => (hp' x hx).1) hk
              obtain ⟨hi', x1'⟩ := take_drop_get _ _ _ _ _ x1
              obtain ⟨v', y1, y2⟩ := hcs (off + i) j row v x1' x2
              refine ⟨v', ?_, y2⟩
              rw [cell?_blk h1, ← y1]
              congr 1
              subst hsz
              show G.base g + off * G.sz g + (i * G.sz g + j) = _
              rw [Nat.add_mul]; omega
      · cases hr
    · cases hr
  · next nm g off len =>
    split at hr
    · next cells hb =>
      split at hr
      · next hs =>
        obtain ⟨rfl, hle, hpl⟩ := hs
        obtain rfl := Option.some.inj hr
        have hlen : (((cells.drop off).take len).map fun c => [c]).length = len := by simp; omega
        have hfl : (((cells.drop off).take len).map fun c => [c]).flatten = (cells.drop off).take len := by
          generalize (cells.drop off).take len = l
          induction l with
          | nil => rfl
          | cons x l ih => simp only [List.map_cons, List.flatten_cons, ih]; rfl
        cases rv with
        | vsl _ _ _ _ ad cap hc hg hl =>
          obtain ⟨ha, hk⟩ := hl ⟨_, hb⟩
          cases W.blk _ _ _ hb with
          | var _ us elem lo hi h1 hf ht hln hR hcb hcs =>
            refine ⟨?_, .inr ⟨ad, cap, by rw [hlen], by omega, ?_⟩⟩
            · intro row hrow
              obtain ⟨x, hx, rfl⟩ := List.mem_map.1 hrow
              rw [List.all_eq_true] at hpl
              simp [hpl x hx]
            · rcases ha with ha | ha
              · left
                have : len = 0 := by omega
                subst this; simp
              · right
                subst ha
                rw [hfl]
                refine ⟨rfl, fun k v hk => ?_⟩
                obtain ⟨hi', x1'⟩ := take_drop_get _ _ _ _ _ hk
                obtain ⟨v', y1, y2⟩ := hcs.2 _ v x1'
                exact ⟨v', by rw [cell?_blk h1]; exact y1, y2⟩
      · cases hr
    · cases hr
  · cases hr

theorem oneCell_plain {v cv} (H : VRel G h c w v cv) (hp : v.plain = true) : cv.oneCell' = true := by
  cases H <;> first | rfl | (simp [AV.plain] at hp; done)

theorem RowsRel.flatAll {sz rows cv} (H : RowsRel G h c w sz rows cv) : rows.flatten.all AV.plain = true := by
  rw [List.all_eq_true]
  intro x hx
  obtain ⟨row, hrow, hx⟩ := List.mem_flatten.1 hx
  have := (H.hrow row hrow).2
  rw [List.all_eq_true] at this
  exact this x hx

/-- the cells that are appended -/
theorem RowsRel.src {sz rows cv tx e} (H : RowsRel G h c w sz rows cv) (ht : P.underlying tx = some (.slice e)) : ∃ news, Src P sz tx cv rows.length news w ∧ LRel G h c w rows.flatten news := by
  rcases H.hcell with ⟨cap, rfl, rfl⟩ | ⟨ad, cap, rfl, hc, hn | hn⟩
  · exact ⟨[], .ofNil w ht cap, .nil⟩
  · subst hn
    exact ⟨[], .ofSlice w ht ad 0 cap [] (by simp) (by simp) (by simp), .nil⟩
  · obtain ⟨vs, L, hv⟩ := hn.vals
    refine ⟨vs, .ofSlice w ht ad _ cap vs (by rw [L.1, flat_len (fun x hx => (H.hrow x hx).1)]) hv (L.cellb (all_cellb_of_plain H.flatAll)), L⟩

theorem byteRows_flat (l : List UInt8) : (byteRows l).flatten = l.map fun b => AV.int .u8 b.toNat := by
  induction l with
  | nil => rfl
  | cons x l ih => simp only [byteRows, List.map_cons, List.flatten_cons] at *; rw [ih]; rfl
theorem byteRows_rows (l : List UInt8) : ∀ row ∈ byteRows l, row.length = 1 ∧ row.all AV.plain = true := by
  intro row hrow
  obtain ⟨b, _, rfl⟩ := List.mem_map.1 hrow
  exact ⟨rfl, rfl⟩
theorem byteRows_LRel (l : List UInt8) : LRel G h c w (byteRows l).flatten (l.map fun b => Value.int .u8 b.toNat) := by
  rw [byteRows_flat]
  induction l with
  | nil => exact .nil
  | cons x l ih => exact .cons (.int _ _) ih

theorem srcRows_run (W : WRel G h c w) {sz x rows cx tx} (rx : VRel G h c w x cx) (hr : srcRows h sz x = some rows) (hk : (∃ e, P.underlying tx = some (.slice e)) ∨ P.underlying tx = some .string)
    (hks : ∀ s, x = .str s → P.underlying tx = some .string) (hkn : (∀ s, x ≠ .str s) → ∃ e, P.underlying tx = some (.slice e)) :
    (∀ row ∈ rows, row.length = sz ∧ row.all AV.plain = true) ∧ ∃ news, Src P sz tx cx rows.length news w ∧ LRel G h c w rows.flatten news := by
  unfold srcRows at hr
  split at hr
  · next s =>
    split at hr
    · next hs =>
      subst hs
      obtain rfl := Option.some.inj hr
      cases rx
      refine ⟨byteRows_rows _, byteCells s, ?_, byteRows_LRel _⟩
      have := Src.ofString w (hks s rfl) s
      have e : (byteRows s.data.toList).length = s.size := by
        simp only [byteRows, List.length_map, Array.length_toList]; rfl
      rw [e]; exact this
    · cases hr
  · next hx =>
    have H := rowsOf_run W rx hr
    obtain ⟨e, he⟩ := hkn (fun s e => hx s e)
    exact ⟨H.hrow, H.src he⟩

end
end Go.Abs

namespace Go.Abs
variable [Globs]
open Go

section
variable {P : Program} {Φ : Nat → Option FnF} {o : Oper} {a : Act} {G : Gh} {h : AH} {c : Nat} {w : World} {env : Env} {r : AV × AH × Nat}

theorem zeroCells_size (z : Array Value) (n : Nat) : (Builtin.zeroCells z n).size = n * z.size := by simp [Builtin.zeroCells]

theorem own_olds (W : WRel G h c w) {nm g off len z old fz cv} (rv : VRel G h c w (.own nm g off len) cv) (hb : h.get nm g = some (.arr z old fz)) (hle : off + len ≤ old.length) :
    ∃ ad cap, cv = .slice (some ad) len cap ∧ len ≤ cap ∧ ∃ olds, (∀ j v, olds[j]? = some v → w.cell? (ad.add j) = some v) ∧ olds.length = len * z ∧ LRel G h c w ((old.drop off).take len).flatten olds := by
  have hr : rowsOf h z (.own nm g off len) = some ((old.drop off).take len) := by simp [rowsOf, hb, hle]
  have H := rowsOf_run W rv hr
  have hlen : ((old.drop off).take len).length = len := by simp; omega
  have hfl := flat_len (fun x hx => (H.hrow x hx).1)
  rw [hlen] at hfl
  rcases H.hcell with ⟨cap, e, hn⟩ | ⟨ad, cap, e, hc, hn | hn⟩
  · cases rv; cases e
  · refine ⟨ad, cap, by rw [e, hlen], by omega, [], by simp, ?_, ?_⟩
    · rw [hn] at hfl; simpa using hfl
    · rw [hn]; exact .nil
  · obtain ⟨vs, L, hv⟩ := hn.vals
    exact ⟨ad, cap, by rw [e, hlen], by omega, vs, hv, by rw [L.1, hfl], L⟩

theorem append_new (W : WRel G h c w) {t tx ty e : TypeId} {inf : TypeInfo} {z : Value} {sz nm : Nat} {base : Option Addr} {sLen sCap : Nat} {olds news : List Value} {orows rows : List (List AV)} {x : Value}
    (ht : P.underlying t = some (.slice e)) (hi : P.info? e = some inf) (hz : inf.zero = some z) (hsz : inf.size = sz) (hzc : z.cells.size = sz) (hpos : 0 < sz)
    (hold : (Builtin.firstCells inf.size sLen (.slice base sLen sCap)).run P w.drew = .ok olds.toArray w.drew) (Lo : LRel G h c w orows.flatten olds) (hol : orows.length = sLen)
    (hs : Src P sz tx x rows.length news w) (Ln : LRel G h c w rows.flatten news) (hro : ∀ row ∈ orows, row.length = sz ∧ row.all AV.plain = true) (hrn : ∀ row ∈ rows, row.length = sz ∧ row.all AV.plain = true)
    (hg : sCap < sLen + rows.length) (hm : (sLen + rows.length) * inf.bytes ≤ maxBytes) (h63 : sLen + rows.length ≤ maxBytes) :
    ∃ G' w' v, (Builtin.append_ #[t, tx] ty #[.slice base sLen sCap, x]).run P w = .ok v w' ∧ Stp G G' h (h.put nm c (.arr sz (orows ++ rows) false)) c (c + 1) w w' ∧ WRel G' (h.put nm c (.arr sz (orows ++ rows) false)) (c + 1) w' ∧
      VRel G' (h.put nm c (.arr sz (orows ++ rows) false)) (c + 1) w' (.own nm c 0 (sLen + rows.length)) v := by
  subst hsz
  unfold maxBytes at hm h63
  have hfit : Builtin.nextslicecap (sLen + rows.length) sCap * inf.bytes ≤ 281474976710656 := by
    have h1 : Builtin.nextslicecap (sLen + rows.length) sCap * inf.bytes ≤ 2 * (sLen + rows.length) * inf.bytes := Nat.mul_le_mul_right _ (nextslicecap_le hg)
    rw [Nat.mul_assoc] at h1
    omega
  have hrun := run_append_grow_src (P := P) w t tx ty e inf z ht hi hz base sLen sCap olds hold x rows.length news hs hg (by omega) hfit
  let cap := grownCap w (sLen + rows.length) sCap e
  have hcapge : sLen + rows.length ≤ cap := by
    show _ ≤ grownCap w (sLen + rows.length) sCap e
    simp only [grownCap, Question.cut]; omega
  have harr : (olds ++ news).toArray ++ Builtin.zeroCells z.cells (cap - (sLen + rows.length)) = ⟨(olds ++ news) ++ (Builtin.zeroCells z.cells (cap - (sLen + rows.length))).toList⟩ := by
    apply Array.ext'; simp
  have hrows : ∀ row ∈ orows ++ rows, row.length = inf.size ∧ row.all AV.plain = true := by
    intro row hrow
    rcases List.mem_append.1 hrow with x | x
    · exact hro _ x
    · exact hrn _ x
  have L : LRel G h c w (orows ++ rows).flatten (olds ++ news) := by rw [List.flatten_append]; exact Lo.append Ln
  have hlen : (orows ++ rows).length = sLen + rows.length := by simp [hol]
  obtain ⟨G', S, W', R⟩ := new_arr (nm := nm) (rows := orows ++ rows) (vs := olds ++ news) (rest := (Builtin.zeroCells z.cells (cap - (sLen + rows.length))).toList) (elem := e) (lo := 0) (hi := 0)
    (w' := w.drew.alloc (.cells ((olds ++ news).toArray ++ Builtin.zeroCells z.cells (cap - (sLen + rows.length))) e)) W (by rw [harr]; rfl) (.inl rfl) rfl rfl rfl hpos hrows L cap (by omega)
    (by
      have h1 : (olds ++ news).length = (sLen + rows.length) * inf.size := by rw [L.1, flat_len (fun x hx => (hrows x hx).1), hlen]
      have h2 : (Builtin.zeroCells z.cells (cap - (sLen + rows.length))).toList.length = (cap - (sLen + rows.length)) * inf.size := by rw [Array.length_toList, zeroCells_size, hzc]
      rw [List.length_append, h1, h2, ← Nat.add_mul]
      exact Nat.le_of_eq (by congr 1; omega)) (sLen + rows.length) hcapge
  exact ⟨G', _, _, hrun, S, W', R⟩


/-- appended where there is room that we know of, or room that we do not know of -/
theorem append_room (W : WRel G h c w) {t tx ty e : TypeId} {inf : TypeInfo} {sz nm g off len : Nat} {old rows : List (List AV)} {ad : Addr} {cap : Nat} {news : List Value} {x : Value}
    (ht : P.underlying t = some (.slice e)) (hinf : P.info? e = some inf) (hsz : inf.size = sz)
    (rv : VRel G h c w (.own nm g off len) (.slice (some ad) len cap)) (hb : h.get nm g = some (.arr sz old false)) (hle : off + len ≤ old.length)
    (hs : Src P sz tx x rows.length news w) (Ln : LRel G h c w rows.flatten news) (hrn : ∀ row ∈ rows, row.length = sz ∧ row.all AV.plain = true) (hroom : len + rows.length ≤ cap)
    (off' : Nat) (rows' : List (List AV))
    (hcase : (off' = off ∧ off + len + rows.length ≤ old.length ∧ rows' = old.take (off + len) ++ (rows ++ old.drop (off + len + rows.length))) ∨ (off' = 0 ∧ old.length < off + len + rows.length ∧ rows' = ((old.drop off).take len) ++ rows)) :
    ∃ G' w' v, (Builtin.append_ #[t, tx] ty #[.slice (some ad) len cap, x]).run P w = .ok v w' ∧ Stp G G' h (h.put nm c (.arr sz rows' false)) c (c + 1) w w' ∧ WRel G' (h.put nm c (.arr sz rows' false)) (c + 1) w' ∧
      VRel G' (h.put nm c (.arr sz rows' false)) (c + 1) w' (.own nm c off' (len + rows.length)) v := by
  have hlv : live h nm g := ⟨_, hb⟩
  have hgc := W.gen _ _ _ hb
  have hnl : news.length = rows.length * sz := by rw [Ln.1, flat_len (fun x hx => (hrn x hx).1)]
  cases W.blk _ _ _ hb with
  | arr _ _ _ us elem lo hi hsz' h1 hf htot hln hz hin hR hp hcs =>
    subst hsz'
    have hR' : ¬ G.R true (G.blk g) := by simpa using hR
    cases rv with
    | own _ _ _ _ _ _ hc hg hl =>
      obtain ⟨ha, hk, ht'⟩ := hl hlv
      have hmul : ∀ x y : Nat, x ≤ y → x * G.sz g ≤ y * G.sz g := fun x y hxy => Nat.mul_le_mul_right _ hxy
      have hol := hmul (off + len) old.length hle
      have hcap := hmul (off + (len + rows.length)) (off + cap) (by omega)
      rw [Nat.add_mul] at hol
      rw [Nat.add_mul, Nat.add_mul] at hcap
      let o' := G.base g + off * G.sz g + len * G.sz g
      have ho' : o' = G.base g + off * G.sz g + len * G.sz g := rfl
      have hfit : o' + news.length ≤ us.length := by rw [htot]; omega
      have hrun : (Builtin.append_ #[t, tx] ty #[.slice (some ad) len cap, x]).run P w = .ok (.slice (some ad) (len + rows.length) cap) (w.setCells (G.blk g) o' news) := by
        by_cases hr0 : rows = []
        · subst hr0
          have hn0 : news = [] := by apply List.eq_nil_of_length_eq_zero; simpa using hnl
          subst hn0
          exact run_append_nothing w t tx ty e inf ht hinf (some ad) len cap hc x (by rw [hsz]; exact hs)
        · have hpos : 0 < rows.length := List.length_pos_iff.2 hr0
          rcases ha with ha | ha
          · omega
          · subst ha
            have := run_append_room_src (P := P) w t tx ty e inf ht hinf (G.blk g) (G.base g + off * G.sz g) len cap x rows.length news (by rw [hsz]; exact hs) hroom
              (fun j hj => by
                have : G.base g + off * G.sz g + len * G.sz g + j < us.length := by omega
                rw [hsz, cell?_blk h1]; simp [this])
              (fun j hj => by
                have := hf.out (o := G.base g + off * G.sz g + len * G.sz g + j) (by omega)
                rw [hsz]
                simp only [World.frozen?, h1]
                simp only [Bool.and_eq_false_iff, decide_eq_false_iff_not]
                omega)
            rw [hsz] at this
            exact this
      obtain ⟨i1, i2, i3, i4, i5, i6⟩ := setCells_heap (G.blk g) news o' us elem (lo, hi) w h1 hfit
      obtain ⟨B, hB1, hB2, hB3, hB4, hB5⟩ : ∃ B, B + off' * G.sz g = G.base g + off * G.sz g ∧ rows'.length ≤ off' + cap ∧ B + rows'.length * G.sz g ≤ us.length ∧ B + (off' + cap) * G.sz g ≤ G.tot g ∧
          (∀ (i : Nat) row, rows'[i]? = some row → (∃ k, rows[k]? = some row ∧ B + i * G.sz g = o' + k * G.sz g) ∨ (∃ k, old[k]? = some row ∧ B + i * G.sz g = G.base g + k * G.sz g ∧ (k < off + len ∨ off + len + rows.length ≤ k))) := by
        rcases hcase with ⟨rfl, c2, rfl⟩ | ⟨rfl, c2, rfl⟩
        · refine ⟨G.base g, rfl, ?_, ?_, ht', fun i row hi => ?_⟩
          · simp; omega
          · have : (old.take (off' + len) ++ (rows ++ old.drop (off' + len + rows.length))).length = old.length := by simp; omega
            rw [this]; exact hin
          · rw [List.getElem?_append] at hi
            simp only [List.length_take] at hi
            rw [show min (off' + len) old.length = off' + len by omega] at hi
            split at hi
            · next hlt =>
              rw [List.getElem?_take, if_pos hlt] at hi
              exact .inr ⟨i, hi, rfl, .inl hlt⟩
            · next hge =>
              rw [List.getElem?_append] at hi
              split at hi
              · next hlt2 =>
                refine .inl ⟨_, hi, ?_⟩
                have e : i = off' + len + (i - (off' + len)) := by omega
                rw [ho']
                conv => lhs; rw [e, Nat.add_mul, Nat.add_mul]
                omega
              · next hge2 =>
                rw [List.getElem?_drop] at hi
                have e : off' + len + rows.length + (i - (off' + len) - rows.length) = i := by omega
                rw [e] at hi
                exact .inr ⟨i, hi, rfl, .inr (by omega)⟩
        · have hll : ((old.drop off).take len).length = len := by simp; omega
          refine ⟨G.base g + off * G.sz g, by simp, ?_, ?_, ?_, fun i row hi => ?_⟩
          · simp only [List.length_append, hll]; omega
          · simp only [List.length_append, hll]
            rw [Nat.add_mul]; omega
          · rw [Nat.zero_add]; rw [Nat.add_mul] at ht'; omega
          · rw [List.getElem?_append] at hi
            rw [hll] at hi
            split at hi
            · next hlt =>
              obtain ⟨_, hi'⟩ := take_drop_get _ _ _ _ _ hi
              exact .inr ⟨off + i, hi', by rw [Nat.add_mul]; omega, .inl (by omega)⟩
            · next hge =>
              refine .inl ⟨_, hi, ?_⟩
              have e : i = len + (i - len) := by omega
              rw [ho']
              conv => lhs; rw [e, Nat.add_mul]
              omega
      have hlen2 : (us.take o' ++ (news ++ us.drop (o' + news.length))).length = us.length := by simp; omega
      let G' := G.new c (G.blk g) B (G.sz g) rows'.length (G.tot g)
      have L : Later G G' h (h.put nm c (.arr (G.sz g) rows' false)) c (c + 1) w (w.setCells (G.blk g) o' news) :=
        { gh := fun g' hg' => by
            have : g' ≠ c := by omega
            simp [G', Gh.new, this]
          r0 := fun _ x => x
          r1 := fun _ x => x
          opq := rfl
          cc := by omega
          lv := fun nm' g' hg' x => by
            rcases live_put.1 x with ⟨_, rfl⟩ | ⟨_, x⟩
            · omega
            · exact x
          rw := fun b hb => i2 b (fun e => hR' (e ▸ hb)) }
      refine ⟨G', _, _, hrun, ?_, ?_, ?_⟩
      · exact { L with
          r1' := fun _ x => x
          size := by rw [i3]; exact Nat.le_refl _
          os := i4
          tape := i5
          output := i6
          keep := fun b _ hn => i2 b (fun e => hn nm g ⟨_, hb, by simp⟩ e.symm)
          owns := fun nm' g' x => by
            rcases liveN_put x with ⟨_, rfl⟩ | ⟨_, x⟩
            · exact .inl ⟨nm, g, ⟨_, hb, by simp⟩, by simp [G', Gh.new]⟩
            · have hg' : g' < c := by obtain ⟨b, y, _⟩ := x; exact W.gen _ _ _ y
              exact .inl ⟨_, _, x, by simp [G', Gh.new, show g' ≠ c by omega]⟩
          froze := fun _ x => .inl x }
      · refine W.put L (by rw [i3]; exact Nat.le_refl _) (fun nm2 g2 hn hl2 => ?_) (by omega) ?_ (fun b hb => by rw [i3]; exact W.old b hb)
        · have hne : G.blk g2 ≠ G.blk g := by
            rcases W.apart nm2 g2 nm g hl2 ⟨_, hb, by simp⟩ with ⟨x, _⟩ | x
            · exact absurd x hn
            · exact x
          exact ⟨i2 _ hne, fun _ => by simp [G', Gh.new]; exact fun e => hne e.symm, id⟩
        · refine .arr (G.sz g) rows' false _ elem lo hi (by simp [G', Gh.new]) (by simp [G', Gh.new]; exact i1) (by rw [hlen2]; exact hf) (by rw [hlen2]; simpa [G', Gh.new] using htot) (by simp [G', Gh.new]) (by simpa [G', Gh.new] using hz) (by rw [hlen2]; simpa [G', Gh.new] using hB3) ?_ ?_ ?_
          · simp only [Bool.false_eq_true, if_false]; rw [Gh.new_R]; simpa [G', Gh.new] using hR'
          · intro row hrow
            obtain ⟨i, hilt, hi⟩ := List.getElem_of_mem hrow
            simp only [G', Gh.new, if_true]
            rcases hB5 i row (by rw [← hi]; simp [hilt]) with ⟨k, hk', _⟩ | ⟨k, hk', _⟩
            · exact hrn _ (List.mem_of_getElem? hk')
            · exact hp _ (List.mem_of_getElem? hk')
          · intro i j row v x1 x2
            simp only [G', Gh.new, if_true]
            have hjs : ∀ (hh : row.length = G.sz g), j < G.sz g := fun hh => by have := (List.getElem?_eq_some_iff.1 x2).1; omega
            rcases hB5 i row x1 with ⟨k, hk', e⟩ | ⟨k, hk', e, hkk⟩
            · obtain ⟨v', y1, y2⟩ := Ln.2 _ v (flat_get (fun x hx => (hrn x hx).1) hk' x2)
              refine ⟨v', ?_, y2.later L⟩
              rw [splice_getV hfit]
              have hkl : k < rows.length := (List.getElem?_eq_some_iff.1 hk').1
              have hj := hjs (hrn _ (List.mem_of_getElem? hk')).1
              have := hmul (k + 1) rows.length (by omega)
              rw [Nat.succ_mul] at this
              rw [if_pos (by omega), ← y1]
              congr 1; omega
            · obtain ⟨v', y1, y2⟩ := hcs k j row v hk' x2
              refine ⟨v', ?_, y2.later L⟩
              rw [splice_getV hfit]
              have hj := hjs (hp _ (List.mem_of_getElem? hk')).1
              have e2 : B + (i * G.sz g + j) = G.base g + (k * G.sz g + j) := by omega
              rw [if_neg, e2]
              · exact y1
              · intro hh
                rcases hkk with hkk | hkk
                · have := hmul (k + 1) (off + len) (by omega)
                  rw [Nat.succ_mul, Nat.add_mul] at this
                  omega
                · have := hmul (off + len + rows.length) k hkk
                  rw [Nat.add_mul, Nat.add_mul] at this
                  omega
      · refine .own _ _ _ _ _ _ hroom (by omega) (fun _ => ?_)
        simp only [G', Gh.new, if_true]
        refine ⟨ha.imp id (fun e => ?_), hB2, hB4⟩
        rw [e]; congr 1; exact hB1.symm
end
end Go.Abs

namespace Go.Abs
variable [Globs]
open Go

section
variable {P : Program} {Φ : Nat → Option FnF} {o : Oper} {a : Act} {G : Gh} {h : AH} {c : Nat} {w : World} {env : Env} {r : AV × AH × Nat}

theorem zszB_spec {t n} (h : zszB P t n = true) : ∃ i z, P.info? t = some i ∧ i.zero = some z ∧ z.cells.size = n := by
  unfold zszB at h
  cases hi : P.info? t with
  | none => simp [hi] at h
  | some i =>
    cases hz : i.zero with
    | none => simp [hi, hz] at h
    | some z => simp [hi, hz] at h; exact ⟨i, z, rfl, hz, h⟩
theorem sizeB_info {t n i} (h : sizeB P t n = true) (hi : P.info? t = some i) : i.size = n := by simpa [sizeB, hi] using h
theorem bytesB_info {t n i} (h : bytesB P t n = true) (hi : P.info? t = some i) : i.bytes = n := by simpa [bytesB, hi] using h

variable (W : WRel G h c w) (E : EnvRel G h c w env a)
include W E

theorem ok_app {args argTypes s' x' t u sz b nm s x e} (ho : o.op = .call { callee := .builtin .append, args := args, argTypes := argTypes }) (ha : args.toList = [s', x']) (hat : argTypes.toList = [t, u])
    (ht : elemB P t = some e) (hsz : sizeB P e sz = true) (hpos : 0 < sz) (hb : bytesB P e b = true) (hb0 : 0 < b) (hz : zszB P e sz = true) (hu : (elemB P u).isSome = true ∨ strB P u = true) (hx : xFit s' s = true) (hy : xFit x' x = true)
    (he : evOp Φ env h c (.app nm sz b s x) = some r) : OpOK P o a G h c w r := by
  simp only [evOp, Option.bind_eq_some_iff] at he
  obtain ⟨sv, hsv, xv, hxv, rows, hrows, he⟩ := he
  have rs := xFit_rel hx E hsv
  have rx := xFit_rel hy E hxv
  obtain rfl : args = #[s', x'] := by cases args; simp_all
  obtain rfl : argTypes = #[t, u] := by cases argTypes; simp_all
  obtain ⟨inf, z, hi, hzv, hzc⟩ := zszB_spec hz
  have his := sizeB_info hsz hi
  have hib := bytesB_info hb hi
  have htu := elemB_spec ht
  have hexec : ∀ v w', (Builtin.append_ #[t, u] o.type #[a.eval s', a.eval x']).run P w = .ok v w' → (execOp a.eval o).run P w = .ok (.value v) w' := by
    intro v w' hr
    simp only [execOp, ho, resolve, Sem.run_bind, Sem.run_pure, Result.andThen_ok, invoke, builtin]
    show ((Builtin.append_ #[t, u] o.type (Array.map a.eval #[s', x'])).run P w).andThen _ = _
    have : Array.map a.eval #[s', x'] = #[a.eval s', a.eval x'] := by simp
    rw [this, hr]; rfl
  have hsrc : (∀ row ∈ rows, row.length = sz ∧ row.all AV.plain = true) ∧ ∃ news, Src P sz u (a.eval x') rows.length news w ∧ LRel G h c w rows.flatten news := by
    rcases hu with hu | hu
    · obtain ⟨e', he'⟩ := Option.isSome_iff_exists.1 hu
      have hue := elemB_spec he'
      by_cases hstr : ∃ s, xv = .str s
      · -- a string where a slice is expected: the machine's lenOf takes it all the same
        obtain ⟨st, rfl⟩ := hstr
        simp only [srcRows] at hrows
        split at hrows
        · next h1 =>
          subst h1
          obtain rfl := Option.some.inj hrows
          generalize a.eval x' = cx at rx
          cases rx
          refine ⟨byteRows_rows _, byteCells st, ?_, byteRows_LRel _⟩
          have e1 : (byteRows st.data.toList).length = st.size := by simp only [byteRows, List.length_map, Array.length_toList]; rfl
          rw [e1]
          exact ⟨.inl ⟨e', hue⟩, fun _ => rfl, firstCells_string st w, firstCells_string st w.drew, by rw [byteCells_length, Nat.mul_one], fun u hu => by
            obtain ⟨_, _, rfl⟩ := List.mem_map.1 hu
            rfl⟩
        · cases hrows
      · exact srcRows_run W rx hrows (.inl ⟨e', hue⟩) (fun s e => absurd ⟨s, e⟩ hstr) (fun _ => ⟨e', hue⟩)
    · have hue := strB_spec hu
      by_cases hstr : ∃ s, xv = .str s
      · exact srcRows_run W rx hrows (.inr hue) (fun s e => hue) (fun hn => by obtain ⟨s, e⟩ := hstr; exact absurd e (hn s))
      · have H : RowsRel G h c w sz rows (a.eval x') := by
          refine rowsOf_run (v := xv) W rx ?_
          unfold srcRows at hrows
          split at hrows
          · next st => exact absurd ⟨st, rfl⟩ hstr
          · exact hrows
        obtain ⟨news, S, L⟩ : ∃ news, Src P sz u (a.eval x') rows.length news w ∧ LRel G h c w rows.flatten news := by
          rcases H.hcell with ⟨cap, e1, rfl⟩ | ⟨ad, cap, e1, hc, hn | hn⟩
          · rw [e1]; exact ⟨[], ⟨.inr hue, fun _ => rfl, run_firstCells_none w sz 0 0 cap, run_firstCells_none w.drew sz 0 0 cap, by simp, fun _ h => by cases h⟩, .nil⟩
          · subst hn; rw [e1]
            exact ⟨[], ⟨.inr hue, fun _ => rfl, run_firstCells_some w sz 0 ad _ cap [] (by simp) (by simp), run_firstCells_some w.drew sz 0 ad _ cap [] (by simp) (by simp), by simp, by simp⟩, .nil⟩
          · obtain ⟨vs, L, hv⟩ := hn.vals
            have hl : vs.length = rows.length * sz := by rw [L.1, flat_len (fun x hx => (H.hrow x hx).1)]
            rw [e1]
            exact ⟨vs, ⟨.inr hue, fun _ => rfl, run_firstCells_some w sz _ ad _ cap vs hl hv, run_firstCells_some w.drew sz _ ad _ cap vs hl (by simpa using hv), hl, L.cellb (all_cellb_of_plain H.flatAll)⟩, L⟩
        exact ⟨H.hrow, news, S, L⟩
  obtain ⟨hrn, news, hs, Ln⟩ := hsrc
  have hm63 : ∀ n : Nat, n * b ≤ maxBytes → n ≤ maxBytes := fun n hn => Nat.le_trans (Nat.le_mul_of_pos_right n hb0) hn
  generalize hcs : a.eval s' = cs at rs hexec
  generalize hcx : a.eval x' = cx at rx hexec hs
  unfold aappend at he
  split at he
  · -- nil
    cases rs
    split at he
    · obtain rfl := Option.some.inj he
      have := run_append_nothing w t u o.type e inf htu hi none 0 0 (by omega) cx (by rw [his]; simpa [Ln.nil_inv] using hs)
      exact .quiet W (hexec _ _ this) .nilS
    · next row rs' =>
      split at he
      · next hle =>
        obtain rfl := Option.some.inj he
        obtain ⟨G', w', v, h1, h2, h3, h4⟩ := append_new (nm := nm) W htu hi hzv his hzc hpos (base := none) (sLen := 0) (sCap := 0) (olds := []) (by rw [his]; exact run_firstCells_none _ sz 0 0 0) (orows := []) LRel.nil rfl hs Ln (by simp) hrn (by simp) (by rw [hib]; simpa using hle) (by simpa using hm63 _ hle)
        have e0 : 0 + (row :: rs').length = rs'.length + 1 := by simp
        rw [e0] at h4
        exact ⟨_, w', G', hexec _ _ h1, h2, h3, .inl ⟨v, rfl, h4⟩⟩
      · cases he
  · -- emp
    split at he
    · obtain rfl := Option.some.inj he
      cases rs with
      | emp ad =>
        have := run_append_nothing w t u o.type e inf htu hi (some ad) 0 0 (by omega) cx (by rw [his]; simpa [Ln.nil_inv] using hs)
        exact .quiet W (hexec _ _ this) (.emp ad)
    · next row rs' =>
      split at he
      · next hle =>
        obtain rfl := Option.some.inj he
        cases rs with
        | emp ad =>
          obtain ⟨G', w', v, h1, h2, h3, h4⟩ := append_new (nm := nm) W htu hi hzv his hzc hpos (base := some ad) (sLen := 0) (sCap := 0) (olds := []) (by rw [his]; exact run_firstCells_some _ sz 0 ad 0 0 [] (by simp) (by simp)) (orows := []) LRel.nil rfl hs Ln (by simp) hrn (by simp) (by rw [hib]; simpa using hle) (by simpa using hm63 _ hle)
          have e0 : 0 + (row :: rs').length = rs'.length + 1 := by simp
          rw [e0] at h4
          exact ⟨_, w', G', hexec _ _ h1, h2, h3, .inl ⟨v, rfl, h4⟩⟩
      · cases he
  · next n g off len =>
    split at he
    · next zz old hbk =>
      split at he
      · next hcond =>
        obtain ⟨rfl, hle, hby⟩ := hcond
        obtain ⟨ad, cap, rfl, hcap, olds, hold, hol, Lo⟩ := own_olds W rs hbk hle
        have hlen : ((old.drop off).take len).length = len := by simp; omega
        have hold' : (Builtin.firstCells inf.size len (.slice (some ad) len cap)).run P w.drew = .ok olds.toArray w.drew :=
          run_firstCells_some w.drew inf.size len ad len cap olds (by rw [his]; exact hol) (by simpa using hold)
        have hro : ∀ row ∈ (old.drop off).take len, row.length = zz ∧ row.all AV.plain = true := by
          intro row hrow
          cases W.blk _ _ _ hbk with
          | arr _ _ _ _ _ _ _ hs' _ _ _ _ _ _ _ hp _ => rw [← hs']; exact hp row (List.mem_of_mem_drop (List.mem_of_mem_take hrow))
        split at he
        · next hfit =>
          obtain rfl := Option.some.inj he
          have hroom : len + rows.length ≤ cap := by
            cases rs with
            | own _ _ _ _ _ _ _ _ hl =>
              have := (hl ⟨_, hbk⟩).2.1
              cases W.blk _ _ _ hbk with
              | arr _ _ _ _ _ _ _ _ _ _ _ hln _ _ _ _ _ => omega
          obtain ⟨G', w', v, h1, h2, h3, h4⟩ := append_room W htu hi his rs hbk hle hs Ln hrn hroom off _ (.inl ⟨rfl, hfit, rfl⟩)
          exact ⟨_, w', G', hexec _ _ h1, h2, h3, .inl ⟨v, rfl, h4⟩⟩
        · next hnfit =>
          obtain rfl := Option.some.inj he
          by_cases hroom : len + rows.length ≤ cap
          · obtain ⟨G', w', v, h1, h2, h3, h4⟩ := append_room W htu hi his rs hbk hle hs Ln hrn hroom 0 _ (.inr ⟨rfl, by omega, rfl⟩)
            exact ⟨_, w', G', hexec _ _ h1, h2, h3, .inl ⟨v, rfl, h4⟩⟩
          · obtain ⟨G', w', v, h1, h2, h3, h4⟩ := append_new (nm := n) W htu hi hzv his hzc hpos hold' (orows := (old.drop off).take len) Lo hlen hs Ln hro hrn (by omega) (by rw [hib]; exact hby) (hm63 _ hby)
            exact ⟨_, w', G', hexec _ _ h1, h2, h3, .inl ⟨v, rfl, h4⟩⟩
      · cases he
    · cases he
  · cases he
end
end Go.Abs

namespace Go.Abs
variable [Globs]
open Go

section
variable {P : Program} {Φ : Nat → Option FnF} {o : Oper} {a : Act} {G : Gh} {h : AH} {c : Nat} {w : World} {env : Env} {r : AV × AH × Nat}

theorem toBytes_flat : ∀ {rows : List (List AV)} {l : List UInt8}, toBytes rows = some l → ∃ ns : List Int, rows.flatten = ns.map (AV.int .u8) ∧ l = ns.map (fun n => UInt8.ofNat n.toNat) ∧ rows.length = ns.length
  | [], l, h => by simp [toBytes] at h; subst h; exact ⟨[], rfl, rfl, rfl⟩
  | row :: rows, l, h => by
    unfold toBytes at h
    split at h
    · next e => cases e
    · next n r e =>
      simp only [List.cons.injEq] at e
      obtain ⟨rfl, rfl⟩ := e
      simp only [Option.map_eq_some_iff] at h
      obtain ⟨l', h1, rfl⟩ := h
      obtain ⟨ns, e1, e2, e3⟩ := toBytes_flat h1
      exact ⟨n :: ns, by simp [e1], by simp [e2], by simp [e3]⟩
    · cases h

theorem LRel.ints {ns : List Int} {vs} (L : LRel G h c w (ns.map (AV.int .u8)) vs) : vs = ns.map (Value.int .u8) := by
  induction ns generalizing vs with
  | nil => exact L.nil_inv
  | cons n ns ih =>
    obtain ⟨v', vs', rfl, h1, h2⟩ := L.cons_inv
    cases h1
    rw [ih h2]; rfl

theorem foldl_push (ns : List Int) : ∀ s : ByteArray, ns.foldl (fun r n => r.push (UInt8.ofNat n.toNat)) s = ⟨(s.data.toList ++ ns.map fun n => UInt8.ofNat n.toNat).toArray⟩ := by
  induction ns with
  | nil => intro s; cases s; simp
  | cons n ns ih =>
    intro s
    simp only [List.foldl_cons, ih]
    congr 1
    simp [ByteArray.push]

variable (W : WRel G h c w) (E : EnvRel G h c w env a)
include W E

theorem ok_b2s {s d x y e} (ho : o.op = .convert s d x) (hs : elemB P s = some e) (hd : strB P d = true) (hi : intB P e = some .u8) (hx : xFit x y = true)
    (he : evOp Φ env h c (.b2s y) = some r) : OpOK P o a G h c w r := by
  simp only [evOp, Option.bind_eq_some_iff, Option.map_eq_some_iff] at he
  obtain ⟨v, hv, rows, hrows, l, hl, rfl⟩ := he
  have rx := xFit_rel hx E hv
  have H := rowsOf_run W rx hrows
  generalize hcx : a.eval x = cx at rx H
  obtain ⟨ns, e1, e2, e3⟩ := toBytes_flat hl
  refine .quiet W ?_ (.str _)
  have key : (convert s d cx).run P w = .ok (.string ⟨l.toArray⟩) w := by
    rcases H.hcell with ⟨cap, rfl, rfl⟩ | ⟨ad, cap, rfl, hc, hn⟩
    · rw [run_convert_bytes_string w s d e none 0 cap (elemB_spec hs) (intB_spec hi) (strB_spec hd)]
      simp [toBytes] at hl; subst hl
      rfl
    · rw [run_convert_bytes_string w s d e (some ad) _ cap (elemB_spec hs) (intB_spec hi) (strB_spec hd)]
      have hload : (loadCells ad rows.length).run P w = .ok (ns.map (Value.int .u8)).toArray w := by
        rcases hn with hn | hn
        · subst hn
          have : ns = [] := by apply List.eq_nil_of_length_eq_zero; simpa using e3.symm
          subst this; rfl
        · obtain ⟨vs, h1, L⟩ := run_loadCells_rel (P := P) hn
          rw [e1] at L h1
          rw [LRel.ints L] at h1
          rw [List.length_map] at h1
          rw [e3, h1]
      rw [run_bytesToString w ad rows.length cap ns hload, foldl_push]
      show Result.ok (Value.string ⟨([] ++ _).toArray⟩) w = _
      rw [e2, List.nil_append]
  simp only [execOp, ho, hcx, Sem.run_bind, key, Result.andThen_ok]; rfl

omit W E in
theorem push_modify {α} (xs : Array α) (x : α) (f : α → α) : (xs.push x).modify xs.size f = xs.push (f x) := by
  apply Array.ext_getElem?
  intro i
  rw [Array.getElem?_modify, Array.getElem?_push, Array.getElem?_push]
  by_cases h : xs.size = i
  · subst h; simp
  · rw [if_neg h, if_neg (fun e => h e.symm), if_neg (fun e => h e.symm)]

theorem ok_s2b {s d x y e nm} (ho : o.op = .convert s d x) (hs : strB P s = true) (hd : elemB P d = some e) (hi : intB P e = some .u8) (hx : xFit x y = true)
    (he : evOp Φ env h c (.s2b nm y) = some r) : OpOK P o a G h c w r := by
  simp only [evOp, Option.bind_eq_some_iff] at he
  obtain ⟨v, hv, hz⟩ := he
  have rx := xFit_rel hx E hv
  generalize hcx : a.eval x = cx at rx
  split at hz
  · next st =>
    obtain rfl := Option.some.inj hz
    cases rx
    let q : Question := .appendCap st.size 0 e
    let cap := q.cut (w.tape w.drawn q)
    have hcap : st.size ≤ cap := by show st.size ≤ q.cut _; simp only [q, Question.cut]; omega
    let vs : List Value := st.data.toList.map fun b => .int .u8 b.toNat
    let rest : List Value := List.replicate (cap - st.size) (.int .u8 0)
    have hvl : vs.length = st.size := by simp only [vs, List.length_map, Array.length_toList]; rfl
    have hN : (vs ++ rest).length = cap := by simp only [List.length_append, hvl, rest, List.length_replicate]; omega
    let w' : World := { w with drawn := w.drawn + 1, heap := w.heap.push (.cells ⟨vs ++ rest⟩ e (cap, cap + 1)) }
    have hbl : (byteRows st.data.toList).length = st.size := by simp only [byteRows, List.length_map, Array.length_toList]; rfl
    obtain ⟨G', S, W', R⟩ := new_arr (nm := nm) (rows := byteRows st.data.toList) (vs := vs) (rest := rest) (elem := e) (lo := cap) (hi := cap + 1) (w' := w') (sz := 1) W rfl (by unfold UnfzS; rw [hN]; omega) rfl rfl rfl (by omega)
      (byteRows_rows _) (byteRows_LRel _) cap (by rw [hbl]; exact hcap) (by rw [hN]; omega) st.size hcap
    refine ⟨_, w', G', ?_, S, W', .inl ⟨_, rfl, R⟩⟩
    have harr : (st.data.map fun b => Value.int .u8 b.toNat) ++ Array.replicate (cap - st.size) (.int .u8 0) = ⟨vs ++ rest⟩ := by
      apply Array.ext'; simp [vs, rest]
    have hconv : (Conv.stringToBytes e st).run P w = .ok (.slice (some ⟨w.heap.size, 0, none⟩) st.size cap) w' := by
      simp only [Conv.stringToBytes, Sem.run_bind, run_choose, Question.forced, Bool.false_eq_true, if_false, Result.andThen_ok]
      simp only [newRow, Sem.run_bind, run_newObj, Result.andThen_ok, Sem.run_pure]
      have e1 : (Question.appendCap st.size 0 e).cut (w.tape w.drawn (.appendCap st.size 0 e)) = cap := rfl
      simp only [e1, harr]
      simp only [markStringish, Sem.run_bind, run_shape, Result.andThen_ok, World.shape?]
      have e2 : (w.heap.push (.cells ⟨vs ++ rest⟩ e))[w.heap.size]? = some (.cells ⟨vs ++ rest⟩ e) := by simp
      simp only [e2, run_freeze, Result.andThen_ok, World.freeze, Nat.one_ne_zero, if_false]
      rw [push_modify]
      have e4 : (⟨vs ++ rest⟩ : Array Value).size = cap := hN
      simp only [e4]
      rfl
    simp only [execOp, ho, hcx, convert, Sem.run_bind, run_underlying (strB_spec hs), run_underlying (elemB_spec hd), run_underlying (intB_spec hi), Result.andThen_ok, hconv]; rfl
  · cases hz

omit W E in
theorem made_rows {e sz : Nat} {z : List AV} {zv : Value} (hz : LRel G h c w z zv.cells.toList) (hsz : z.length = sz) (hpos : 0 < sz) (q : Nat) :
    LRel G h c w (List.replicate q z).flatten (madeCells zv.cells (q * sz)).toList := by
  have hzs : zv.cells.size = sz := by have := hz.1; simp at this; omega
  have hl : (List.replicate q z).flatten.length = q * sz := by rw [flat_len (sz := sz) (fun x hx => by rw [List.eq_of_mem_replicate hx]; exact hsz)]; simp
  refine ⟨by simp [madeCells, hl], fun k v hk => ?_⟩
  obtain ⟨i, j, row, h1, h2, rfl⟩ := flat_inv (sz := sz) (fun x hx => by rw [List.eq_of_mem_replicate hx]; exact hsz) hk
  have hrow : row = z := List.eq_of_mem_replicate (List.mem_of_getElem? h1)
  subst hrow
  obtain ⟨v', y1, y2⟩ := hz.2 j v h2
  have hj : j < sz := by rw [← hsz]; exact (List.getElem?_eq_some_iff.1 h2).1
  have hi : i < q := by have := (List.getElem?_eq_some_iff.1 h1).1; simpa using this
  have hlt : i * sz + j < q * sz := by
    have : (i + 1) * sz ≤ q * sz := Nat.mul_le_mul_right _ (by omega)
    rw [Nat.succ_mul] at this; omega
  refine ⟨v', ?_, y2⟩
  have hm : (i * sz + j) % sz = j := by rw [Nat.add_comm, Nat.add_mul_mod_self_right]; exact Nat.mod_eq_of_lt hj
  have hy : zv.cells[j]? = some v' := by simpa using y1
  simp [madeCells, hlt, hzs, hm]
  rw [getElem!_def, hy]
end
end Go.Abs

namespace Go.Abs
variable [Globs]
open Go

section
variable {P : Program} {Φ : Nat → Option FnF} {o : Oper} {a : Act} {G : Gh} {h : AH} {c : Nat} {w : World} {env : Env} {r : AV × AH × Nat}

theorem zFit_info {t z} (h : zFit P t z = true) : ∃ i v, P.info? t = some i ∧ i.zero = some v ∧ (∀ G hh c w, LRel G hh c w z v.cells.toList) ∧ z.all AV.plain = true := by
  unfold zFit at h
  cases hi : P.info? t with
  | none => simp [hi] at h
  | some i =>
    rw [hi] at h
    cases hz : i.zero with
    | none => simp [hz] at h
    | some v =>
      simp only [hz, Bool.and_eq_true] at h
      exact ⟨i, v, rfl, hz, fun _ _ _ _ => vFitL_rel h.1, h.2⟩

variable (W : WRel G h c w) (E : EnvRel G h c w env a)
include W E

theorem ok_mks {t l q nm sz b z l' q' e} (ho : o.op = .makeSlice t l q) (ht : elemB P t = some e) (hz : zFit P e z = true) (hsz : sizeB P e sz = true) (hb : bytesB P e b = true) (hpos : 0 < sz) (hl : xFit l l' = true) (hq : xFit q q' = true)
    (he : evOp Φ env h c (.mks nm sz b z l' q') = some r) : OpOK P o a G h c w r := by
  simp only [evOp, Option.bind_eq_some_iff] at he
  obtain ⟨lv, hlv, qv, hqv, he⟩ := he
  have rl := xFit_rel hl E hlv
  have rq := xFit_rel hq E hqv
  split at he
  · next ln qn h1 h2 =>
    split at he
    · next hcond =>
      obtain ⟨hle, hby, hq63, hzl⟩ := hcond
      obtain rfl := Option.some.inj he
      obtain ⟨k1, i1, e1, p1, q1⟩ := asNat_inv h1 rl
      obtain ⟨k2, i2, e2, p2, q2⟩ := asNat_inv h2 rq
      obtain ⟨inf, zv, hi, hzv, hzr, hzp⟩ := zFit_info hz
      have his := sizeB_info hsz hi
      have hib := bytesB_info hb hi
      unfold maxBytes at hby hq63
      have hcast : (inf.bytes : Int) * i2 ≤ 281474976710656 := by
        have e3 : i2 = (qn : Int) := by omega
        rw [e3, hib]
        have : ((b * qn : Nat) : Int) ≤ 281474976710656 := by rw [Nat.mul_comm]; omega
        rwa [Int.natCast_mul] at this
      have hrun := run_make (P := P) w t e inf zv (elemB_spec ht) hi hzv k1 k2 i1 i2 p1 (by omega) hcast (by omega)
      rw [q1, q2, his] at hrun
      have hrows : ∀ row ∈ List.replicate qn z, row.length = sz ∧ row.all AV.plain = true := by
        intro row hrow
        rw [List.eq_of_mem_replicate hrow]; exact ⟨hzl, hzp⟩
      obtain ⟨G', S, W', R⟩ := new_arr (nm := nm) (rows := List.replicate qn z) (vs := (madeCells zv.cells (qn * sz)).toList) (rest := []) (elem := e) (lo := 0) (hi := 0) (sz := sz)
        (w' := w.alloc (.cells (madeCells zv.cells (qn * sz)) e)) W (by rw [List.append_nil]; rfl) (.inl rfl) rfl rfl rfl hpos hrows (made_rows (e := 0) (hzr G h c w) hzl hpos qn) qn (by simp) (by simp [size_madeCells]) ln hle
      refine ⟨_, _, G', ?_, S, W', .inl ⟨_, rfl, R⟩⟩
      simp only [execOp, ho, e1, e2, Sem.run_bind, hrun, Result.andThen_ok]; rfl
    · cases he
  · cases he

omit W E in
theorem flat_set {α} : ∀ {rows : List (List α)} {sz : Nat} (_ : ∀ row ∈ rows, row.length = sz) {i : Nat} {p : List α}, i < rows.length → p.length = sz →
    (rows.set i p).flatten = rows.flatten.take (i * sz) ++ (p ++ rows.flatten.drop (i * sz + sz))
  | [], sz, H, i, p, h1, h2 => by simp at h1
  | r0 :: rows, sz, H, 0, p, h1, h2 => by
    have hr : r0.length = sz := H r0 (by simp)
    simp only [List.set_cons_zero, List.flatten_cons, Nat.zero_mul, List.take_zero, List.nil_append, Nat.zero_add]
    rw [List.drop_append, hr]; simp [← hr]
  | r0 :: rows, sz, H, i + 1, p, h1, h2 => by
    have hr : r0.length = sz := H r0 (by simp)
    simp only [List.set_cons_succ, List.flatten_cons]
    rw [flat_set (fun x hx => H x (by simp [hx])) (by simpa using h1) h2]
    have e1 : (i + 1) * sz = sz + i * sz := by rw [Nat.succ_mul]; omega
    have t1 : (r0 ++ rows.flatten).take (sz + i * sz) = r0 ++ rows.flatten.take (i * sz) := by
      rw [List.take_append, List.take_of_length_le (by omega), hr, show sz + i * sz - sz = i * sz by omega]
    have t2 : (r0 ++ rows.flatten).drop (sz + i * sz + sz) = rows.flatten.drop (i * sz + sz) := by
      rw [List.drop_append, List.drop_eq_nil_of_le (by omega), hr, show sz + i * sz + sz - sz = i * sz + sz by omega, List.nil_append]
    rw [e1, t1, t2, List.append_assoc]

omit W E in
theorem fillRows_run {sz : Nat} : ∀ {ps : List (Nat × Operand)} {qs : List (Nat × X)} {rows rows' : List (List AV)} {us : List Value} {G h h'}, WRel G h c w → EnvRel G h c w env a → rowsFit ps qs = true →
    LRel G h c w rows.flatten us → (∀ row ∈ rows, row.length = sz ∧ row.all AV.plain = true) → fillRows env h rows qs = some (rows', h') →
    ∃ G' us', Instr.fill (fun i => some (i * sz, sz)) ⟨us⟩ (ps.map fun p => (p.1, a.eval p.2)) = some ⟨us'⟩ ∧ Stp G G' h h' c c w w ∧ WRel G' h' c w ∧ LRel G' h' c w rows'.flatten us' ∧ (∀ row ∈ rows', row.length = sz ∧ row.all AV.plain = true) ∧ rows'.length = rows.length
  | [], [], rows, rows', us, G, h, h', W, E, _, L, H, hv => by
    simp only [fillRows, Option.some.injEq, Prod.mk.injEq] at hv
    obtain ⟨rfl, rfl⟩ := hv
    exact ⟨G, us, rfl, .refl _ _ _ _, W, L, H, rfl⟩
  | (i, x) :: ps, (j, y) :: qs, rows, rows', us, G, h, h', W, E, hf, L, H, hv => by
    simp only [rowsFit, Bool.and_eq_true, beq_iff_eq] at hf
    obtain ⟨⟨rfl, hx⟩, hf⟩ := hf
    simp only [fillRows, Option.bind_eq_some_iff] at hv
    obtain ⟨v, hv1, p, hp, hv2⟩ := hv
    have rv := xFit_rel hx E hv1
    obtain ⟨G1, S1, W1, L1, hpl⟩ := freezeL_ok (vs' := p.1) (h' := p.2) W hp rv.cells
    split at hv2
    · next row hrow =>
      split at hv2
      · next hlen =>
        have hil : i < rows.length := (List.getElem?_eq_some_iff.1 hrow).1
        have hrl : row.length = sz := (H row (List.mem_of_getElem? hrow)).1
        have hpl' : p.1.length = sz := by omega
        have hus : us.length = rows.length * sz := by rw [L.1, flat_len (fun x hx => (H x hx).1)]
        have hcs : (a.eval x).cells.size = sz := by have := L1.1; simp at this; omega
        have hmul : (i + 1) * sz ≤ rows.length * sz := Nat.mul_le_mul_right _ (by omega)
        rw [Nat.succ_mul] at hmul
        have L2 : LRel G1 p.2 c w (rows.set i p.1).flatten (us.take (i * sz) ++ ((a.eval x).cells.toList ++ us.drop (i * sz + (a.eval x).cells.toList.length))) := by
          rw [flat_set (fun x hx => (H x hx).1) hil hpl']
          have := (L.later S1.toLater).splice L1 (i * sz)
          unfold splice at this
          rw [hpl'] at this
          exact this
        have H2 : ∀ row ∈ rows.set i p.1, row.length = sz ∧ row.all AV.plain = true := by
          intro r hr
          rcases List.mem_or_eq_of_mem_set hr with hm | rfl
          · exact H _ hm
          · exact ⟨hpl', hpl⟩
        obtain ⟨G', us', f1, S2, W2, L3, H3, e3⟩ := fillRows_run W1 (E.later S1.toLater) hf L2 H2 hv2
        refine ⟨G', us', ?_, S1.trans S2, W2, L3, H3, by rw [e3]; simp⟩
        simp only [List.map_cons, Instr.fill]
        rw [if_neg (by simp [hcs, hus]; omega), ← f1]
        congr 1
        exact foldl_arr (i * sz) (a.eval x).cells.toList us (by simp [hcs, hus]; omega)
      · cases hv2
    · cases hv2
  | [], _ :: _, _, _, _, _, _, _, _, _, hf, _, _, _ => by simp [rowsFit] at hf
  | _ :: _, [], _, _, _, _, _, _, _, _, hf, _, _, _ => by simp [rowsFit] at hf

theorem ok_bslice {t len ps nm sz z qs e} (ho : o.op = .buildSlice t len ps) (ht : elemB P t = some e) (hz : zFit P e z = true) (hsz : sizeB P e sz = true) (hzl : z.length = sz) (hpos : 0 < sz) (hlim : len * sz ≤ 2 ^ 24) (hlp : 0 < len)
    (hf : rowsFit ps.toList qs = true) (he : evOp Φ env h c (.bslice nm sz z len qs) = some r) : OpOK P o a G h c w r := by
  simp only [evOp, Option.map_eq_some_iff] at he
  obtain ⟨p, hp, rfl⟩ := he
  obtain ⟨inf, zv, hi, hzv, hzr, hzp⟩ := zFit_info hz
  have his := sizeB_info hsz hi
  have hrows : ∀ row ∈ List.replicate len z, row.length = sz ∧ row.all AV.plain = true := by
    intro row hrow
    rw [List.eq_of_mem_replicate hrow]; exact ⟨hzl, hzp⟩
  obtain ⟨G1, us', f1, S1, W1, L1, H1, e1⟩ := fillRows_run (h' := p.2) (rows' := p.1) W E hf (made_rows (e := 0) (hzr G h c w) hzl hpos len) hrows hp
  rw [List.length_replicate] at e1
  have hul : us'.length = len * sz := by rw [L1.1, flat_len (fun x hx => (H1 x hx).1), e1]
  obtain ⟨G2, S2, W2, R⟩ := new_arr (nm := nm) (rows := p.1) (vs := us') (rest := []) (elem := e) (lo := 0) (hi := 0) (sz := sz) (w' := w.alloc (.cells ⟨us'⟩ e)) W1 (by rw [List.append_nil]; rfl) (.inl rfl) rfl rfl rfl hpos H1 L1 len (by omega) (by simp [hul]) len (Nat.le_refl _)
  refine ⟨_, _, G2, ?_, S1.trans S2, W2, .inl ⟨_, rfl, R⟩⟩
  have hps : (ps.map fun (p : Nat × Operand) => (p.1, a.eval p.2)).toList = ps.toList.map fun p => (p.1, a.eval p.2) := by simp
  have hne : ¬ (len * sz = 0) := by have := Nat.mul_pos hlp hpos; omega
  have hzval : (zeroValue e).run P w = .ok zv w := by simp [zeroValue, run_typeInfo hi, hzv]
  have hmade : (⟨(madeCells zv.cells (len * sz)).toList⟩ : Array Value) = madeCells zv.cells (len * sz) := by simp
  have f2 : Instr.fill (fun i => some (i * sz, sz)) (madeCells zv.cells (len * sz)) (ps.toList.map fun p => (p.1, a.eval p.2)) = some ⟨us'⟩ := by rw [← hmade]; exact f1
  simp only [execOp, ho, Instr.buildSlice, Sem.run_bind, run_underlying (elemB_spec ht), run_sizeOf hsz, Result.andThen_ok]
  rw [if_neg (by simpa using hlim)]
  simp only [Sem.run_pure, Result.andThen_ok]
  rw [if_neg hne]
  simp only [Sem.run_bind, hzval, Result.andThen_ok, Sem.run_pure, hps]
  have f3 : Instr.fill (fun i => some (i * sz, sz)) (Array.map (fun x => zv.cells[x % zv.cells.size]!) (Array.range (len * sz))) (ps.toList.map fun p => (p.1, a.eval p.2)) = some ⟨us'⟩ := f2
  simp only [f3, newRow, Sem.run_bind, run_newObj, Result.andThen_ok, Sem.run_pure]
  rfl
end
end Go.Abs

namespace Go.Abs
variable [Globs]
open Go

section
variable {P : Program} {Φ : Nat → Option FnF} {o : Oper} {a : Act} {G : Gh} {h : AH} {c : Nat} {w : World} {env : Env} {r : AV × AH × Nat}

theorem splice_set {cs : List AV} {i : Nat} {v : AV} (hi : i < cs.length) : splice cs i [v] = cs.set i v := by
  unfold splice
  rw [List.set_eq_take_append_cons_drop, if_pos hi]
  rfl
theorem cellb_cells {v : AV} (h : v.cellb = true) : v.cells = [v] := by cases v <;> first | rfl | (simp [AV.cellb] at h)

theorem fillCells_run (E : EnvRel G h c w env a) : ∀ {ps : List (Nat × Operand)} {qs : List (Nat × X)} {cs cs' : List AV} {us : List Value}, rowsFit ps qs = true →
    LRel G h c w cs us → cs.all AV.cellb = true → fillCells env cs qs = some cs' →
    ∃ us', Instr.fill (fun i => some (i * 1, 1)) ⟨us⟩ (ps.map fun p => (p.1, a.eval p.2)) = some ⟨us'⟩ ∧ LRel G h c w cs' us' ∧ cs'.all AV.cellb = true ∧ cs'.length = cs.length
  | [], [], cs, cs', us, _, L, H, hv => by
    simp only [fillCells, Option.some.injEq] at hv
    subst hv
    exact ⟨us, rfl, L, H, rfl⟩
  | (i, x) :: ps, (j, y) :: qs, cs, cs', us, hf, L, H, hv => by
    simp only [rowsFit, Bool.and_eq_true, beq_iff_eq] at hf
    obtain ⟨⟨rfl, hx⟩, hf⟩ := hf
    simp only [fillCells, Option.bind_eq_some_iff] at hv
    obtain ⟨v, hv1, hv2⟩ := hv
    have rv := xFit_rel hx E hv1
    split at hv2
    · next hc =>
      obtain ⟨hcb, hil⟩ := hc
      have Lv := rv.cells
      rw [cellb_cells hcb] at Lv
      have hcs : (a.eval x).cells.size = 1 := by have := Lv.1; simp at this; omega
      have hus : us.length = cs.length := L.1
      have L2 := L.splice Lv i
      rw [splice_set hil] at L2
      have H2 : (cs.set i v).all AV.cellb = true := by
        rw [List.all_eq_true] at H ⊢
        intro z hz
        rcases List.mem_or_eq_of_mem_set hz with hm | rfl
        · exact H _ hm
        · exact hcb
      obtain ⟨us', f1, L3, H3, e3⟩ := fillCells_run E hf L2 H2 hv2
      refine ⟨us', ?_, L3, H3, by rw [e3]; simp⟩
      simp only [List.map_cons, Instr.fill]
      rw [if_neg (by simp [hcs, hus]; omega), ← f1]
      congr 1
      rw [Nat.mul_one]
      exact foldl_arr i (a.eval x).cells.toList us (by simp [hcs, hus]; omega)
    · cases hv2
  | [], _ :: _, _, _, _, hf, _, _, _ => by simp [rowsFit] at hf
  | _ :: _, [], _, _, _, hf, _, _, _ => by simp [rowsFit] at hf

variable (W : WRel G h c w) (E : EnvRel G h c w env a)
include W E

theorem ok_bslv {t len ps nm z qs e} (ho : o.op = .buildSlice t len ps) (ht : elemB P t = some e) (hz : zFit P e [z] = true) (hsz : sizeB P e 1 = true) (hlim : len ≤ 2 ^ 24) (hlp : 0 < len)
    (hf : rowsFit ps.toList qs = true) (he : evOp Φ env h c (.bslv nm z len qs) = some r) : OpOK P o a G h c w r := by
  simp only [evOp, Option.map_eq_some_iff] at he
  obtain ⟨p, hp, rfl⟩ := he
  obtain ⟨inf, zv, hi, hzv, hzr, hzp⟩ := zFit_info hz
  have hzp1 : z.plain = true := by simpa using hzp
  have hzcb : z.cellb = true := by cases z <;> first | rfl | (simp [AV.plain] at hzp1)
  have hrows : ∀ row ∈ List.replicate len [z], row.length = 1 ∧ row.all AV.plain = true := by
    intro row hrow
    rw [List.eq_of_mem_replicate hrow]; exact ⟨rfl, hzp⟩
  have L0 := made_rows (e := 0) (hzr G h c w) (sz := 1) rfl (by omega) len
  have hfl : (List.replicate len [z]).flatten = List.replicate len z := by
    simp
  rw [hfl] at L0
  obtain ⟨us', f1, L1, H1, e1⟩ := fillCells_run E hf L0 (by simp [hzcb]) hp
  rw [List.length_replicate] at e1
  have hul : us'.length = len := by rw [L1.1, e1]
  obtain ⟨S2, W2⟩ := new_block (nm := nm) (b := .var p) (w' := w.alloc (.cells ⟨us'⟩ e)) 1 p.length W (by rfl) rfl rfl rfl (fun L => by
    refine .var p us' e 0 0 ?_ (.inl rfl) (by simp [Gh.new, hul, e1]) (by simp [Gh.new]) ?_ H1 (L1.later L)
    · simp only [Gh.new, if_true]; exact heap_push_last rfl
    · rw [Gh.new_R]
      simp only [Gh.new, if_true]
      intro x; have := W.old _ x; omega)
  refine ⟨_, _, _, ?_, S2, W2, .inl ⟨.slice (some ⟨w.heap.size, 0, none⟩) len len, rfl, .vsl _ _ _ _ _ _ (Nat.le_refl _) (Nat.lt_succ_self c) (fun _ => ⟨.inr (by simp [Gh.new]), by simp [Gh.new, e1]⟩)⟩⟩
  have hps : (ps.map fun (p : Nat × Operand) => (p.1, a.eval p.2)).toList = ps.toList.map fun p => (p.1, a.eval p.2) := by simp
  have hne : ¬ (len * 1 = 0) := by omega
  have hzval : (zeroValue e).run P w = .ok zv w := by simp [zeroValue, run_typeInfo hi, hzv]
  have hmade : (⟨(madeCells zv.cells (len * 1)).toList⟩ : Array Value) = madeCells zv.cells (len * 1) := by simp
  have f2 : Instr.fill (fun i => some (i * 1, 1)) (madeCells zv.cells (len * 1)) (ps.toList.map fun p => (p.1, a.eval p.2)) = some ⟨us'⟩ := by rw [← hmade]; exact f1
  simp only [execOp, ho, Instr.buildSlice, Sem.run_bind, run_underlying (elemB_spec ht), run_sizeOf hsz, Result.andThen_ok]
  rw [if_neg (by simpa using hlim)]
  simp only [Sem.run_pure, Result.andThen_ok]
  rw [if_neg hne]
  simp only [Sem.run_bind, hzval, Result.andThen_ok, Sem.run_pure, hps]
  have f3 : Instr.fill (fun i => some (i * 1, 1)) (Array.map (fun x => zv.cells[x % zv.cells.size]!) (Array.range (len * 1))) (ps.toList.map fun p => (p.1, a.eval p.2)) = some ⟨us'⟩ := f2
  simp only [f3, newRow, Sem.run_bind, run_newObj, Result.andThen_ok, Sem.run_pure]
  rfl
end
end Go.Abs

namespace Go.Abs
variable [Globs]
open Go

section
variable {P : Program} {Φ : Nat → Option FnF} {o : Oper} {a : Act} {G : Gh} {h : AH} {c : Nat} {w : World} {env : Env} {r : AV × AH × Nat}

theorem bound_some {y : Nat} {v : AV} {cv : Value} {d n : Nat} {code : BoundsCode} (hn : bound y (some v) d = some n) (R : VRel G h c w v cv) :
    n ≤ y ∧ (Instr.sliceBound cv y code).run P w = .ok n w := by
  cases v with
  | int k i =>
    simp only [bound] at hn
    split at hn
    · next hi =>
      obtain rfl := Option.some.inj hn
      cases R
      refine ⟨by omega, ?_⟩
      simp only [Instr.sliceBound, asIntOf, Sem.run_bind, Sem.run_pure, Result.andThen_ok]
      rw [if_pos hi]; rfl
    · cases hn
  | _ => cases hn
theorem bound_none {y d n : Nat} (hn : bound y none d = some n) : n = d := (Option.some.inj hn).symm

def OptRel (G : Gh) (h : AH) (c : Nat) (w : World) : Option AV → Option Value → Prop
  | none, none => True
  | some v, some cv => VRel G h c w v cv
  | _, _ => False

theorem xopt_rel {x : Option Operand} {y : Option X} {v} (E : EnvRel G h c w env a) (hf : xoFit x y = true) (hv : xopt env y = some v) : OptRel G h c w v (x.map a.eval) := by
  cases x with
  | none =>
    cases y with
    | none => simp only [xopt, Option.some.injEq] at hv; subst hv; trivial
    | some y => simp [xoFit] at hf
  | some x =>
    cases y with
    | none => simp [xoFit] at hf
    | some y =>
      simp only [xopt, Option.map_eq_some_iff] at hv
      obtain ⟨u, hu, rfl⟩ := hv
      exact xFit_rel hf E hu

/-- bounds, as the machine takes them -/
theorem bounds_run {isSl : Bool} {len cap : Nat} {lo hi : Option AV} {clo chi : Option Value} {l h' : Nat} (hlen : len ≤ cap) (hh : bound cap hi len = some h') (hl : bound h' lo 0 = some l) (Rh : OptRel G h c w hi chi) (Rl : OptRel G h c w lo clo) :
    h' ≤ cap ∧ l ≤ h' ∧ (Instr.sliceBounds isSl len cap clo chi none).run P w = .ok (l, h', cap) w := by
  cases chi with
  | none =>
    cases hi with
    | some _ => exact Rh.elim
    | none =>
      obtain rfl := bound_none hh
      cases clo with
      | none =>
        cases lo with
        | some _ => exact Rl.elim
        | none => obtain rfl := bound_none hl; exact ⟨hlen, by omega, by simp [Instr.sliceBounds]⟩
      | some v =>
        cases lo with
        | none => exact Rl.elim
        | some u => have e2 := bound_some (P := P) (code := .sliceB) hl Rl; exact ⟨hlen, e2.1, by simp [Instr.sliceBounds, e2.2]⟩
  | some v =>
    cases hi with
    | none => exact Rh.elim
    | some u =>
      have e1 := bound_some (P := P) (code := if isSl then .sliceAcap else .sliceAlen) hh Rh
      cases clo with
      | none =>
        cases lo with
        | some _ => exact Rl.elim
        | none => obtain rfl := bound_none hl; exact ⟨e1.1, by omega, by simp [Instr.sliceBounds, e1.2]⟩
      | some v =>
        cases lo with
        | none => exact Rl.elim
        | some u => have e2 := bound_some (P := P) (code := .sliceB) hl Rl; exact ⟨e1.1, e2.1, by simp [Instr.sliceBounds, e1.2, e2.2]⟩

/-- a larger bound gives the same -/
theorem bound_le {y y' : Nat} {v d n} (hn : bound y v d = some n) (hy : y ≤ y') : bound y' v d = some n := by
  cases v with
  | none => exact hn
  | some v =>
    cases v <;> first | exact hn | skip
    simp only [bound] at hn ⊢
    split at hn
    · rw [if_pos (by omega)]; exact hn
    · cases hn

theorem aslice_run (W : WRel G h c w) {sz v lo hi r cv clo chi t e} (hu : P.underlying t = some (.slice e)) (hsz : sizeB P e sz = true) (hpos : 0 < sz) (rv : VRel G h c w v cv) (hr : aslice h sz v lo hi = some r) (Rl : OptRel G h c w lo clo) (Rh : OptRel G h c w hi chi) :
    ∃ cr, (Instr.slice t cv clo chi none).run P w = .ok cr w ∧ VRel G h c w r cr := by
  have key : ∀ (ad : Option Addr) (len cap l h' : Nat), len ≤ cap → bound cap hi len = some h' → bound h' lo 0 = some l →
      (Instr.slice t (.slice ad len cap) clo chi none).run P w = .ok (.slice (if cap = l then ad else ad.map (·.add (l * sz))) (h' - l) (cap - l)) w := by
    intro ad len cap l h' hlc h1 h2
    obtain ⟨_, _, hb⟩ := bounds_run (P := P) (isSl := true) hlc h1 h2 Rh Rl
    simp only [Instr.slice, Sem.run_bind, run_underlying hu, Result.andThen_ok, hb, run_sizeOf hsz]
    rfl
  unfold aslice at hr
  split at hr
  · -- nil
    simp only [Option.bind_eq_some_iff, Option.map_eq_some_iff] at hr
    obtain ⟨h', h1, l, h2, rfl⟩ := hr
    cases rv
    have b1 : h' = 0 := by have := (bounds_run (P := P) (w := w) (isSl := true) (Nat.le_refl 0) h1 h2 Rh Rl).1; omega
    have b2 : l = 0 := by have := (bounds_run (P := P) (w := w) (isSl := true) (Nat.le_refl 0) h1 h2 Rh Rl).2.1; omega
    subst b1; subst b2
    exact ⟨_, key none 0 0 0 0 (by omega) h1 h2, by simpa using .nilS⟩
  · simp only [Option.bind_eq_some_iff, Option.map_eq_some_iff] at hr
    obtain ⟨h', h1, l, h2, rfl⟩ := hr
    cases rv with
    | emp ad =>
      have b1 : h' = 0 := by have := (bounds_run (P := P) (w := w) (isSl := true) (Nat.le_refl 0) h1 h2 Rh Rl).1; omega
      have b2 : l = 0 := by have := (bounds_run (P := P) (w := w) (isSl := true) (Nat.le_refl 0) h1 h2 Rh Rl).2.1; omega
      subst b1; subst b2
      exact ⟨_, key (some ad) 0 0 0 0 (by omega) h1 h2, by simpa using .emp ad⟩
  · next tt s rows =>
    split at hr
    · next hs =>
      subst hs
      simp only [Option.bind_eq_some_iff, Option.map_eq_some_iff] at hr
      obtain ⟨h', h1, l, h2, rfl⟩ := hr
      cases rv with
      | ro _ _ _ ad cap cv hc hrr hp hcell hv =>
        have h1' := bound_le h1 hc
        obtain ⟨hb1, hb2, _⟩ := bounds_run (P := P) (w := w) (isSl := true) (Nat.le_refl rows.length) h1 h2 Rh Rl
        refine ⟨_, key (some ad) rows.length cap l h' hc h1' h2, ?_⟩
        have hlen : ((rows.take h').drop l).length = h' - l := by simp; omega
        have hres : ∃ ad', (if cap = l then some ad else Option.map (fun x => x.add (l * s)) (some ad)) = some ad' ∧ ((rows.take h').drop l ≠ [] → ad.spot = none ∧ ad' = ⟨ad.block, ad.off + l * s, none⟩) := by
          split
          · next hcl =>
            refine ⟨ad, rfl, fun hne => ?_⟩
            exact absurd (List.eq_nil_of_length_eq_zero (by rw [hlen]; omega)) hne
          · refine ⟨_, rfl, fun hne => ?_⟩
            have hrne : rows ≠ [] := by intro e; subst e; simp at hne
            exact ⟨(hrr hrne).2.1, add_spot (hrr hrne).2.1 _⟩
        obtain ⟨ad', e1, e2⟩ := hres
        rw [e1]
        have hne : (rows.take h').drop l ≠ [] → rows ≠ [] := fun x e => x (by simp [e])
        have hget : ∀ (i : Nat) row, ((rows.take h').drop l)[i]? = some row → rows[l + i]? = some row := by
          intro i row hi
          rw [List.getElem?_drop, List.getElem?_take] at hi
          split at hi
          · exact hi
          · cases hi
        have := VRel.ro (G := G) (h := h) (c := c) (w := w) tt s ((rows.take h').drop l) ad' (cap - l) (fun i j => cv (l + i) j) (by rw [hlen]; omega) (fun x => by
            obtain ⟨_, e3⟩ := e2 x
            rw [e3]; exact ⟨(hrr (hne x)).1, rfl, hpos⟩)
          (fun row hrow => hp row (List.mem_of_mem_take (List.mem_of_mem_drop hrow))) (fun i j row v x1 x2 => by
            have x1' := hget i row x1
            have hx : (rows.take h').drop l ≠ [] := by intro e; rw [e] at x1; simp at x1
            obtain ⟨_, e3⟩ := e2 hx
            rw [e3, ← hcell (l + i) j row v x1' x2]
            congr 1
            show (⟨ad.block, ad.off + l * s + (i * s + j), none⟩ : Addr) = _
            congr 1
            rw [Nat.add_mul]; omega)
          (fun i j row v x1 x2 => hv (l + i) j row v (hget i row x1) x2)
        rw [hlen] at this
        exact this
    · cases hr
  · next nm g off len =>
    split at hr
    · next s rows fz hb =>
      split at hr
      · next hs =>
        subst hs
        simp only [Option.bind_eq_some_iff] at hr
        obtain ⟨h', h1, l, h2, hr⟩ := hr
        split at hr
        · next hle =>
          obtain rfl := Option.some.inj hr
          cases rv with
          | own _ _ _ _ ad cap hc hg hl =>
            obtain ⟨ha, hk, ht⟩ := hl ⟨_, hb⟩
            cases W.blk _ _ _ hb with
            | arr _ _ _ us elem lo' hi' hsz' hb1 hf htot hln hz hin hR hp hcs =>
              have h1' : bound cap hi len = some h' := bound_le h1 (by omega)
              obtain ⟨hb1', hb2, _⟩ := bounds_run (P := P) (w := w) (isSl := true) hc h1' h2 Rh Rl
              refine ⟨_, key (some ad) len cap l h' hc h1' h2, ?_⟩
              by_cases hcl : cap = l
              · rw [if_pos hcl]
                exact .own _ _ _ _ _ _ (by omega) hg (fun _ => ⟨.inl (by omega), by omega, by rw [show off + l + (cap - l) = off + cap by omega]; exact ht⟩)
              · rw [if_neg hcl]
                refine .own _ _ _ _ _ _ (by omega) hg (fun _ => ⟨.inr ?_, by omega, by rw [show off + l + (cap - l) = off + cap by omega]; exact ht⟩)
                rcases ha with ha | ha
                · omega
                · show ad.add (l * s) = _
                  rw [ha, add_spot rfl, hsz']
                  congr 1
                  show G.base g + off * s + l * s = _
                  rw [Nat.add_mul]; omega
        · cases hr
      · cases hr
    · cases hr
  · next nm g off len =>
    split at hr
    · next cs hb =>
      split at hr
      · next hs =>
        subst hs
        simp only [Option.bind_eq_some_iff] at hr
        obtain ⟨h', h1, l, h2, hr⟩ := hr
        split at hr
        · next hle =>
          obtain rfl := Option.some.inj hr
          cases rv with
          | vsl _ _ _ _ ad cap hc hg hl =>
            obtain ⟨ha, hk⟩ := hl ⟨_, hb⟩
            have hln : cs.length = G.ln g := by
              cases W.blk _ _ _ hb with
              | var _ _ _ _ _ _ _ _ hln _ _ _ => exact hln
            have h1' : bound cap hi len = some h' := bound_le h1 (by omega)
            obtain ⟨hb1', hb2, _⟩ := bounds_run (P := P) (w := w) (isSl := true) hc h1' h2 Rh Rl
            refine ⟨_, key (some ad) len cap l h' hc h1' h2, ?_⟩
            by_cases hcl : cap = l
            · rw [if_pos hcl]
              exact .vsl _ _ _ _ _ _ (by omega) hg (fun _ => ⟨.inl (by omega), by omega⟩)
            · rw [if_neg hcl]
              refine .vsl _ _ _ _ _ _ (by omega) hg (fun _ => ⟨.inr ?_, by omega⟩)
              rcases ha with ha | ha
              · omega
              · show ad.add (l * 1) = _
                rw [ha, add_spot rfl]; simp
        · cases hr
      · cases hr
    · cases hr
  · cases hr

variable (W : WRel G h c w) (E : EnvRel G h c w env a)
include W E

theorem ok_slcS {t x lo hi y lo' hi'} (ho : o.op = .slice t x lo hi none) (hu : strB P t = true) (hx : xFit x y = true) (hl : xoFit lo lo' = true) (hh : xoFit hi hi' = true)
    (he : evOp Φ env h c (.slcS y lo' hi') = some r) : OpOK P o a G h c w r := by
  simp only [evOp, Option.bind_eq_some_iff] at he
  obtain ⟨v, hv, l0, hl0, h0, hh0, he⟩ := he
  have rx := xFit_rel hx E hv
  have Rl := xopt_rel E hl hl0
  have Rh := xopt_rel E hh hh0
  split at he
  · simp only [Option.map_eq_some_iff, Option.bind_eq_some_iff] at he
    obtain ⟨h', h1, l, h2, rfl⟩ := he
    generalize hcx : a.eval x = cx at rx
    cases rx
    obtain ⟨_, _, hb⟩ := bounds_run (P := P) (isSl := false) (Nat.le_refl _) h1 h2 Rh Rl
    refine .quiet W ?_ (.str _)
    simp only [execOp, ho, hcx, Instr.sliceAt, Instr.slice, Sem.run_bind, run_underlying (strB_spec hu), Result.andThen_ok, Option.map_none, Option.isSome_none, Bool.false_eq_true, if_false, Sem.run_pure, hb]
  · cases he

theorem ok_slc {t x lo hi y lo' hi' sz e} (ho : o.op = .slice t x lo hi none) (hu : elemB P t = some e) (hsz : sizeB P e sz = true) (hpos : 0 < sz) (hx : xFit x y = true) (hl : xoFit lo lo' = true) (hh : xoFit hi hi' = true)
    (he : evOp Φ env h c (.slc sz y lo' hi' none) = some r) : OpOK P o a G h c w r := by
  simp only [evOp, Option.bind_eq_some_iff] at he
  obtain ⟨v, hv, l0, hl0, h0, hh0, m0, hm0, he⟩ := he
  obtain rfl : none = m0 := by simpa [xopt] using hm0
  have rx := xFit_rel hx E hv
  have Rl := xopt_rel E hl hl0
  have Rh := xopt_rel E hh hh0
  simp only [Option.map_eq_some_iff] at he
  obtain ⟨v', hr, rfl⟩ := he
  obtain ⟨cr, h1, h2⟩ := aslice_run W (elemB_spec hu) hsz hpos rx hr Rl Rh
  refine .quiet W ?_ h2
  simp only [execOp, ho, Instr.sliceAt, Sem.run_bind, run_underlying (elemB_spec hu), Result.andThen_ok, Option.map_none, h1]
  rfl
end
end Go.Abs

namespace Go.Abs
variable [Globs]
open Go

section
variable {P : Program} {Φ : Nat → Option FnF} {o : Oper} {a : Act} {G : Gh} {h : AH} {c : Nat} {w : World} {env : Env} {r : AV × AH × Nat}
variable (W : WRel G h c w) (E : EnvRel G h c w env a)
include W E

theorem ok_cut00 {t x lo hi mx y lo' hi' mx' sz e} (ho : o.op = .slice t x lo hi (some mx)) (hu : elemB P t = some e) (hsz : sizeB P e sz = true) (hx : xFit x y = true) (hl : xoFit lo lo' = true) (hh : xoFit hi hi' = true) (hm : xFit mx mx' = true)
    (he : evOp Φ env h c (.slc sz y lo' hi' (some mx')) = some r) : OpOK P o a G h c w r := by
  simp only [evOp, Option.bind_eq_some_iff] at he
  obtain ⟨v, hv, l0, hl0, h0, hh0, m0, hm0, he⟩ := he
  simp only [xopt, Option.map_eq_some_iff] at hm0
  obtain ⟨mv, hmv, rfl⟩ := hm0
  have rx := xFit_rel hx E hv
  have Rl := xopt_rel E hl hl0
  have Rh := xopt_rel E hh hh0
  have Rm := xFit_rel hm E hmv
  simp only [Option.map_eq_some_iff] at he
  obtain ⟨v', hr, rfl⟩ := he
  unfold acut00 at hr
  split at hr
  · next k i k' i' e1 =>
    simp only [Option.some.injEq] at e1
    subst e1
    split at hr
    · next hz =>
      obtain ⟨rfl, rfl⟩ := hz
      generalize hcx : a.eval x = cx at rx
      generalize hcm : a.eval mx = cm at Rm
      cases Rm
      cases hi with
      | none => exact Rh.elim
      | some hi =>
        cases lo with
        | some lo => exact Rl.elim
        | none =>
          simp only [Option.map_some, OptRel] at Rh
          generalize hch : a.eval hi = ch at Rh
          cases Rh
          have key : ∀ ad len cap, cx = .slice ad len cap → (execOp a.eval o).run P w = .ok (.value (.slice ad 0 0)) w := by
            intro ad len cap e2
            have hb : ∀ isSl, (Instr.sliceBounds isSl len cap none (some (.int k 0)) (some (.int k' 0))).run P w = .ok (0, 0, 0) w := by
              intro isSl
              simp [Instr.sliceBounds, Instr.sliceBound, asIntOf]
            simp only [execOp, ho, hcx, hcm, hch, e2, Instr.sliceAt, Instr.slice, Sem.run_bind, run_underlying (elemB_spec hu), Result.andThen_ok, Option.map_none, Option.map_some, hb, run_sizeOf hsz]
            rfl
          split at hr
          · obtain rfl := Option.some.inj hr
            cases rx
            exact .quiet W (key none 0 0 rfl) .nilS
          all_goals first | (cases hr; done) | skip
          all_goals
            obtain rfl := Option.some.inj hr
            cases rx
            exact .quiet W (key _ _ _ rfl) (.emp _)
    · cases hr
  · cases hr

theorem ok_slca {t x lo hi n y lo' hi' e} (ho : o.op = .slice t x lo hi none) (hu : P.underlying t = some (.array n e) ∨ ∃ u, P.underlying t = some (.pointer u) ∧ P.underlying u = some (.array n e)) (hsz : sizeB P e 1 = true) (hx : xFit x y = true) (hl : xoFit lo lo' = true) (hh : xoFit hi hi' = true)
    (he : evOp Φ env h c (.slca n y lo' hi') = some r) : OpOK P o a G h c w r := by
  simp only [evOp, Option.bind_eq_some_iff] at he
  obtain ⟨v, hv, l0, hl0, h0, hh0, he⟩ := he
  have rx := xFit_rel hx E hv
  have Rl := xopt_rel E hl hl0
  have Rh := xopt_rel E hh hh0
  split at he
  · next nm g off =>
    split at he
    · next cs hb =>
      split at he
      · next hcs =>
        simp only [Option.map_eq_some_iff] at he
        obtain ⟨v', hr, rfl⟩ := he
        have hn : cs.length - off = n := by omega
        simp only [aslice, hb, if_true, hn, Option.bind_eq_some_iff] at hr
        obtain ⟨h', h1, l, h2, hr⟩ := hr
        split at hr
        · next hle =>
          obtain rfl := Option.some.inj hr
          generalize hcx : a.eval x = cx at rx
          cases rx with
          | ptr _ _ _ ad hg hlv =>
            have had := hlv ⟨_, hb⟩
            have hln : cs.length = G.ln g := by
              cases W.blk _ _ _ hb with
              | var _ _ _ _ _ _ _ _ hln _ _ _ => exact hln
            have hbd := fun isSl => bounds_run (P := P) (isSl := isSl) (Nat.le_refl n) h1 h2 Rh Rl
            have key : (execOp a.eval o).run P w = .ok (.value (.slice (some (if n = l then ad else ad.add (l * 1))) (h' - l) (n - l))) w := by
              rcases hu with hu | ⟨u, hu, hu'⟩
              · simp only [execOp, ho, hcx, Instr.sliceAt, Sem.run_bind, run_underlying hu, Result.andThen_ok, Instr.sureAddr, Sem.run_pure, Option.map_none, (hbd _).2.2, run_sizeOf hsz]
              · simp only [execOp, ho, hcx, Instr.sliceAt, Instr.slice, Sem.run_bind, run_underlying hu, run_underlying hu', Result.andThen_ok, asAddr, Sem.run_pure, Option.map_none, (hbd _).2.2, run_sizeOf hsz]
            refine .quiet W key ?_
            have hb1 := (hbd true).1
            have hb2 := (hbd true).2.1
            refine .vsl _ _ _ _ _ _ (by omega) hg (fun _ => ⟨?_, by omega⟩)
            by_cases hcl : n = l
            · exact .inl (by omega)
            · right
              rw [if_neg hcl, had, add_spot rfl]; simp
        · cases hr
      · cases he
    · cases he
  · cases he

theorem ok_cpy {args argTypes d' s' t u sz d s e} (ho : o.op = .call { callee := .builtin .copy, args := args, argTypes := argTypes }) (ha : args.toList = [d', s']) (hat : argTypes.toList = [t, u])
    (ht : elemB P t = some e) (hsz : sizeB P e sz = true) (hpos : 0 < sz) (hx : xFit d' d = true) (hy : xFit s' s = true)
    (he : evOp Φ env h c (.cpy sz d s) = some r) : OpOK P o a G h c w r := by
  simp only [evOp, Option.bind_eq_some_iff, Option.map_eq_some_iff] at he
  obtain ⟨dv, hdv, sv, hsv, rows, hrows, q, hq, rfl⟩ := he
  have rd := xFit_rel hx E hdv
  have rs := xFit_rel hy E hsv
  obtain rfl : args = #[d', s'] := by cases args; simp_all
  obtain rfl : argTypes = #[t, u] := by cases argTypes; simp_all
  generalize hcd : a.eval d' = cd at rd
  generalize hcs : a.eval s' = cs at rs
  -- the source
  have hsrc : (∀ row ∈ rows, row.length = sz ∧ row.all AV.plain = true) ∧ (Builtin.lenOf cs).run P w = .ok rows.length w ∧
      ∀ n, n ≤ rows.length → ∃ us, (Builtin.firstCells sz n cs).run P w = .ok ⟨us⟩ w ∧ LRel G h c w (rows.take n).flatten us := by
    unfold srcRows at hrows
    split at hrows
    · next st =>
      split at hrows
      · next h1 =>
        subst h1
        obtain rfl := Option.some.inj hrows
        cases rs
        have hbl : (byteRows st.data.toList).length = st.size := by simp only [byteRows, List.length_map, Array.length_toList]; rfl
        refine ⟨byteRows_rows _, by rw [hbl]; rfl, fun n hn => ⟨((st.data.toList.take n).map fun b => Value.int .u8 b.toNat), ?_, ?_⟩⟩
        · simp only [Builtin.firstCells, Sem.run_pure]
          congr 1
          apply Array.ext'
          simp
        · have : (byteRows st.data.toList).take n = byteRows (st.data.toList.take n) := by simp [byteRows, List.map_take]
          rw [this]
          exact byteRows_LRel _
      · cases hrows
    · next hns =>
      have H := rowsOf_run W rs hrows
      have hrow' : ∀ n, ∀ row ∈ rows.take n, row.length = sz := fun n row hr => (H.hrow row (List.mem_of_mem_take hr)).1
      rcases H.hcell with ⟨cap, rfl, rfl⟩ | ⟨ad, cap, rfl, hc, hn⟩
      · exact ⟨by simp, rfl, fun n hn => ⟨[], by simp [Builtin.firstCells], by simp; exact .nil⟩⟩
      · refine ⟨H.hrow, rfl, fun n hnl => ?_⟩
        rcases hn with hn | hn
        · subst hn
          have : n = 0 := by simpa using hnl
          subst this
          refine ⟨[], ?_, by simp; exact .nil⟩
          simp [Builtin.firstCells, loadCells, loadCellsFrom]
        · have hfl : (rows.take n).flatten = rows.flatten.take (n * sz) := by
            have hl : (rows.take n).flatten.length = n * sz := by rw [flat_len (hrow' n), List.length_take, Nat.min_eq_left hnl]
            have : rows.flatten = (rows.take n).flatten ++ (rows.drop n).flatten := by rw [← List.flatten_append, List.take_append_drop]
            rw [this, ← hl, List.take_left]
          have hl : (rows.take n).flatten.length = n * sz := by rw [flat_len (hrow' n), List.length_take, Nat.min_eq_left hnl]
          have Hn := hn.take (n * sz)
          rw [← hfl] at Hn
          obtain ⟨us, h1, L⟩ := run_loadCells_rel (P := P) Hn
          rw [hl] at h1
          exact ⟨us, by simp only [Builtin.firstCells]; exact h1, L⟩
  obtain ⟨hrn, hlen, hfirst⟩ := hsrc
  have key : ∀ base dLen dCap w' us n, cd = .slice base dLen dCap → n = min rows.length dLen → (Builtin.firstCells sz n cs).run P w = .ok ⟨us⟩ w →
      (match base with | some ad => (storeCells ad us).run P w | none => .ok () w) = .ok () w' → (execOp a.eval o).run P w = .ok (.value (.int .i64 n)) w' := by
    intro base dLen dCap w' us n e1 e2 e3 e4
    simp only [execOp, ho, resolve, Sem.run_bind, Sem.run_pure, Result.andThen_ok, invoke, builtin]
    have : Array.map a.eval #[d', s'] = #[cd, cs] := by simp [hcd, hcs]
    rw [this, e1]
    have e5 : Nat.min rows.length dLen = n := e2.symm
    have hrun : (Builtin.copy_ #[t, u] o.type #[.slice base dLen dCap, cs]).run P w = .ok (.int .i64 n) w' := by
      cases base with
      | none => simp only at e4; obtain ⟨_, rfl⟩ := Result.ok.inj e4; simp [Builtin.copy_, run_underlying (elemB_spec ht), hlen, run_sizeOf hsz, e5, e3, goInt]
      | some ad => simp only at e4; simp [Builtin.copy_, run_underlying (elemB_spec ht), hlen, run_sizeOf hsz, e5, e3, e4, goInt]
    show ((Builtin.copy_ #[t, u] o.type #[.slice base dLen dCap, cs]).run P w).andThen _ = _
    rw [hrun]; rfl

  unfold acopy at hq
  split at hq
  · obtain rfl := Option.some.inj hq
    cases rd
    obtain ⟨us, h1, _⟩ := hfirst 0 (by omega)
    have h1' : (Builtin.firstCells sz 0 cs).run P w = .ok ⟨us⟩ w := h1
    exact .quiet W (key none 0 0 w us 0 rfl (by simp) h1' rfl) (.int _ _)
  · obtain rfl := Option.some.inj hq
    cases rd with
    | emp ad =>
      obtain ⟨us, h1, L⟩ := hfirst 0 (by omega)
      have : us = [] := by simpa using L.nil_inv
      subst this
      exact .quiet W (key (some ad) 0 0 w [] 0 rfl (by simp) h1 rfl) (.int _ _)
  · next nm g off len =>
    split at hq
    · next z old hb =>
      split at hq
      · next hcond =>
        obtain ⟨rfl, hle⟩ := hcond
        obtain rfl := Option.some.inj hq
        obtain ⟨us, h1, L⟩ := hfirst (min rows.length len) (by omega)
        generalize hN : min rows.length len = N at *
        have hrt : ∀ row ∈ rows.take N, row.length = z ∧ row.all AV.plain = true := fun row hr => hrn row (List.mem_of_mem_take hr)
        have htl : (rows.take N).length = N := by simp; omega
        have hul : us.length = N * z := by rw [L.1, flat_len (fun x hx => (hrt x hx).1), htl]
        cases rd with
        | own _ _ _ _ ad cap hc hg hl =>
          obtain ⟨had, hk, ht'⟩ := hl ⟨_, hb⟩
          cases W.blk _ _ _ hb with
          | arr _ _ _ vs elem lo hi hsz' hb1 hf htot hln hz hin hR hp hcs' =>
            subst hsz'
            have hR' : ¬ G.R true (G.blk g) := by simpa using hR
            have hmul : ∀ x y : Nat, x ≤ y → x * G.sz g ≤ y * G.sz g := fun x y hxy => Nat.mul_le_mul_right _ hxy
            have hm1 := hmul (off + N) old.length (by omega)
            rw [Nat.add_mul] at hm1
            let o' := G.base g + off * G.sz g
            have ho'' : o' = G.base g + off * G.sz g := rfl
            have hrows' : (old.take off ++ (rows.take N ++ old.drop (off + N))).length = old.length := by simp; omega
            obtain ⟨w', hw', S, W'⟩ := store_block (b' := .arr (G.sz g) (old.take off ++ (rows.take N ++ old.drop (off + N))) false) (off := o') (vs := us) W ⟨_, hb, by simp⟩ hb1 (by omega) (fun w' hw' Lt => by
              have hlen2 : (vs.take o' ++ (us ++ vs.drop (o' + us.length))).length = vs.length := by simp; omega
              refine .arr _ _ false _ elem lo hi rfl hw' (by rw [hlen2]; exact hf) (by rw [hlen2]; exact htot) (by rw [hrows']; exact hln) hz (by rw [hlen2, hrows']; exact hin) (by simpa using hR') ?_ ?_
              · intro row hrow
                simp only [List.mem_append] at hrow
                rcases hrow with x | x | x
                · exact hp _ (List.mem_of_mem_take x)
                · exact hrt _ x
                · exact hp _ (List.mem_of_mem_drop x)
              · intro i j row v x1 x2
                rw [splice_getV (by omega)]
                rw [List.getElem?_append] at x1
                simp only [List.length_take] at x1
                rw [show min off old.length = off by omega] at x1
                have hj : ∀ hh : row.length = G.sz g, j < G.sz g := fun hh => by have := (List.getElem?_eq_some_iff.1 x2).1; omega
                split at x1
                · next hlt =>
                  rw [List.getElem?_take, if_pos hlt] at x1
                  obtain ⟨v', y1, y2⟩ := hcs' i j row v x1 x2
                  have := hj (hp _ (List.mem_of_getElem? x1)).1
                  have hm := hmul (i + 1) off (by omega)
                  rw [Nat.succ_mul] at hm
                  rw [if_neg (by omega)]
                  exact ⟨v', y1, y2.later Lt⟩
                · next hge =>
                  rw [List.getElem?_append] at x1
                  split at x1
                  · next hlt2 =>
                    rw [htl] at hlt2
                    obtain ⟨v', y1, y2⟩ := L.2 _ v (flat_get (fun x hx => (hrt x hx).1) x1 x2)
                    have := hj (hrt _ (List.mem_of_getElem? x1)).1
                    have e : i = off + (i - off) := by omega
                    have e2 : i * G.sz g = off * G.sz g + (i - off) * G.sz g := by conv => lhs; rw [e, Nat.add_mul]
                    have hm := hmul (i - off + 1) N (by omega)
                    rw [Nat.succ_mul] at hm
                    rw [if_pos (by omega)]
                    refine ⟨v', ?_, y2.later Lt⟩
                    rw [← y1]; congr 1; omega
                  · next hge2 =>
                    rw [htl] at hge2 x1
                    rw [List.getElem?_drop, show off + N + (i - off - N) = i by omega] at x1
                    obtain ⟨v', y1, y2⟩ := hcs' i j row v x1 x2
                    have hm := hmul (off + N) i (by omega)
                    rw [Nat.add_mul] at hm
                    rw [if_neg (by omega)]
                    exact ⟨v', y1, y2.later Lt⟩) hR'
            refine ⟨_, w', G, key (some ad) len cap w' us N rfl hN.symm h1 ?_, S, W', .inl ⟨_, rfl, .int _ _⟩⟩
            subst hw'
            by_cases hN0 : N = 0
            · subst hN0
              have : us = [] := by apply List.eq_nil_of_length_eq_zero; simpa using hul
              subst this; rfl
            · rcases had with had | had
              · omega
              · subst had
                exact run_store_block hb1 hf.unfz (by omega) (L.cellb (all_cellb_of_plain (by
                  rw [List.all_eq_true]
                  intro x hx
                  obtain ⟨row, hrow, hx⟩ := List.mem_flatten.1 hx
                  have := (hrt row hrow).2
                  rw [List.all_eq_true] at this
                  exact this x hx)))
      · cases hq
    · cases hq
  · next nm g off len =>
    split at hq
    · next cells hb =>
      split at hq
      · next hcond =>
        obtain ⟨rfl, hle⟩ := hcond
        obtain rfl := Option.some.inj hq
        obtain ⟨us, h1, L⟩ := hfirst (min rows.length len) (by omega)
        generalize hN : min rows.length len = N at *
        have hrt : ∀ row ∈ rows.take N, row.length = 1 ∧ row.all AV.plain = true := fun row hr => hrn row (List.mem_of_mem_take hr)
        have htl : (rows.take N).length = N := by simp; omega
        have hfl : (rows.take N).flatten.length = N := by rw [flat_len (fun x hx => (hrt x hx).1), htl]; omega
        have hul : us.length = N := by rw [L.1, hfl]
        have hpl : (rows.take N).flatten.all AV.plain = true := by
          rw [List.all_eq_true]
          intro x hx
          obtain ⟨row, hrow, hx⟩ := List.mem_flatten.1 hx
          have := (hrt row hrow).2
          rw [List.all_eq_true] at this
          exact this x hx
        cases rd with
        | vsl _ _ _ _ ad cap hc hg hl =>
          obtain ⟨had, hk⟩ := hl ⟨_, hb⟩
          cases W.blk _ _ _ hb with
          | var _ vs elem lo hi hb1 hf htot hln hR hcb hcs' =>
            have e2 := hcs'.1
            obtain ⟨w', hw', S, W'⟩ := store_block (b' := .var (splice cells off (rows.take N).flatten)) (off := off) (vs := us) W ⟨_, hb, by simp⟩ hb1 (by omega) (fun w' hw' Lt => by
              have hlen2 : (vs.take off ++ (us ++ vs.drop (off + us.length))).length = vs.length := by simp; omega
              refine .var _ _ elem lo hi hw' (by rw [hlen2]; exact hf) (by rw [hlen2]; exact htot) (by rw [splice_len (by omega)]; exact hln) hR (all_splice hcb (all_cellb_of_plain hpl)) ?_
              exact (hcs'.later Lt).splice (L.later Lt) off) hR
            refine ⟨_, w', G, key (some ad) len cap w' us N rfl hN.symm h1 ?_, S, W', .inl ⟨_, rfl, .int _ _⟩⟩
            subst hw'
            by_cases hN0 : N = 0
            · subst hN0
              have : us = [] := by apply List.eq_nil_of_length_eq_zero; simpa using hul
              subst this; rfl
            · rcases had with had | had
              · omega
              · subst had
                exact run_store_block hb1 hf (by omega) (L.cellb (all_cellb_of_plain hpl))
      · cases hq
    · cases hq
  · cases hq
end
end Go.Abs
