/- The abstract machine: values, heap, operations, code, and the compiler from the program's text to it (definitions alone). -/
import Derived.Orders
import Derived.KernelRfl
import Derived.Below
import Derived.Laws.BytesArg
namespace Go.Proofs.Yteelkalenpbmmaa.Ab

/-- A value of one cell. -/
def oneCell : Value → Bool
  | .agg _ | .tuple _ => false
  | _ => true

/-- Abstract values. 'ubool': true or false; 'e0': a slice of length and capacity 0, nil or not; 'vsl': a slice of frozen memory, by its elements; 'rsl': a slice into a block of the abstract heap; 'fptr': a pointer into frozen memory, by the cells from there on; 'ifg g v': 'v' if 'g', else nothing was written. 'pin x v': the very value 'x', that is a 'v' too. -/
inductive AV where
  | any
  | bool (b : Bool)
  | int (k : IntKind) (n : Int)
  | str (s : ByteArray)
  | nilp
  | ref (id off : Nat)
  | fptr (cs : List AV)
  | nilsl
  | vsl (sz : Nat) (es : List AV)
  | rsl (sz id off len : Nat)
  | fn (f : FuncId) (first caps : List AV)
  | agg (cs : List AV)
  | tup (vs : List AV)
  | ifg (g : Bool) (v : AV)
  | con (v : Value)
  | ubool
  | e0
  | pin (x : Value) (v : AV)
  deriving Inhabited

def AV.cells : AV → List AV
  | .agg cs => cs
  | v => [v]

def AV.isCell : AV → Bool
  | .any | .agg _ | .tup _ | .ifg _ _ | .pin _ _ => false
  | .con v => oneCell v
  | _ => true

mutual
def AV.noref : AV → Bool
  | .ref _ _ | .rsl _ _ _ _ => false
  | .fptr cs | .agg cs | .tup cs => AV.norefs cs
  | .vsl _ es => AV.norefs es
  | .fn _ a b => AV.norefs a && AV.norefs b
  | .ifg _ v | .pin _ v => v.noref
  | _ => true
def AV.norefs : List AV → Bool
  | [] => true
  | v :: r => v.noref && AV.norefs r
end

/-- A block of the abstract heap: reserved, dead, or live. -/
inductive HB where
  | res
  | dead
  | live (cs : List AV)
  deriving Inhabited

abbrev Heap := List HB

def hget (H : Heap) (id : Nat) : Option (List AV) :=
  match H[id]? with
  | some (.live cs) => some cs
  | _ => none

/-! ### Operations on values: what comes out, and whether it may be -/

def abin (op : BinOp) : AV → AV → AV × Bool
  | .int k a, .int k' b =>
    match op with
    | .add => (.int k (k.wrap (a + b)), k == k')
    | .sub => (.int k (k.wrap (a - b)), k == k')
    | .mul => (.int k (k.wrap (a * b)), k == k')
    | .quo => (.int k (k.wrap (a.tdiv b)), k == k' && b != 0)
    | .rem => (.int k (a.tmod b), k == k' && b != 0)
    | .and => (.int k (k.wrap (BitVec.ofInt k.bits a &&& BitVec.ofInt k.bits b).toNat), k == k')
    | .or => (.int k (k.wrap (BitVec.ofInt k.bits a ||| BitVec.ofInt k.bits b).toNat), k == k')
    | .xor => (.int k (k.wrap (BitVec.ofInt k.bits a ^^^ BitVec.ofInt k.bits b).toNat), k == k')
    | .andNot => (.int k (k.wrap (BitVec.ofInt k.bits a &&& ~~~ BitVec.ofInt k.bits b).toNat), k == k')
    | .shl => (.int k (k.wrap (a * 2 ^ (min b.toNat k.bits))), decide (0 ≤ b))
    | .shr => (.int k (a.fdiv (2 ^ (min b.toNat k.bits))), decide (0 ≤ b))
    | .eql => (.bool (a == b), k == k')
    | .neq => (.bool (a != b), k == k')
    | .lss => (.bool (decide (a < b)), k == k')
    | .leq => (.bool (decide (a ≤ b)), k == k')
    | .gtr => (.bool (decide (a > b)), k == k')
    | .geq => (.bool (decide (a ≥ b)), k == k')
  | _, _ => (.any, false)

def aeqs : List AV → List AV → Bool × Bool
  | [], [] => (true, true)
  | .int k a :: xs, .int k' b :: ys => ((a == b) && (aeqs xs ys).1, k == k' && (aeqs xs ys).2)
  | _, _ => (false, false)

/-- '==' or '!=' of two structs of 'n' whole numbers. -/
def aaeq (neg : Bool) (n : Nat) : AV → AV → AV × Bool
  | .agg xs, .agg ys => (.bool (bif neg then !(aeqs xs ys).1 else (aeqs xs ys).1), (aeqs xs ys).2 && xs.length == n)
  | _, _ => (.any, false)

def abeq (neg : Bool) : AV → AV → AV × Bool
  | .bool a, .bool b => (.bool (bif neg then !(a == b) else a == b), true)
  | _, _ => (.any, false)

def asbin (op : BinOp) : AV → AV → AV × Bool
  | .str a, .str b =>
    match op with
    | .add => (.str (a ++ b), decide (((a.size + b.size : Nat) : Int) ≤ IntKind.i64.max))
    | .eql => (.bool (a.toList == b.toList), true)
    | .neq => (.bool (!(a.toList == b.toList)), true)
    | _ => (.any, false)
  | _, _ => (.any, false)

/-- '== nil' of a pointer. -/
def aisnil (neg : Bool) : AV → AV × Bool
  | .nilp => (.bool (!neg), true)
  | .ref _ _ | .fptr _ => (.bool neg, true)
  | _ => (.any, false)

/-- '== nil' of a slice. -/
def asnil (neg : Bool) : AV → AV × Bool
  | .nilsl => (.bool (!neg), true)
  | .vsl _ es => (if es.isEmpty then .ubool else .bool neg, true)
  | .rsl _ _ _ len => (if len = 0 then .ubool else .bool neg, true)
  | .e0 => (.ubool, true)
  | _ => (.any, false)

def aun (op : UnOp) : AV → AV × Bool
  | .int k n =>
    match op with
    | .neg => (.int k (k.wrap (0 - n)), true)
    | .xor => (.int k (k.wrap (BitVec.ofInt k.bits (if k.signed then -1 else k.max) ^^^ BitVec.ofInt k.bits n).toNat), true)
    | _ => (.any, false)
  | .bool b => match op with
    | .not => (.bool (!b), true)
    | _ => (.any, false)
  | .ubool => match op with
    | .not => (.ubool, true)
    | _ => (.any, false)
  | _ => (.any, false)

def acv (k : IntKind) : AV → AV × Bool
  | .int _ n => (.int k (k.wrap n), true)
  | _ => (.any, false)

def afa (off : Nat) : AV → AV × Bool
  | .ref id o => (.ref id (o + off), true)
  | .fptr cs => (.fptr (cs.drop off), true)
  | _ => (.any, false)

def aia (sz : Nat) : AV → AV → AV × Bool
  | .vsl sz' es, .int _ i => (.fptr (es.getD i.toNat .any).cells, sz == sz' && decide (0 ≤ i) && decide (i < es.length))
  | .rsl sz' id off len, .int _ i => (.ref id (off + i.toNat * sz), sz == sz' && decide (0 ≤ i) && decide (i < len))
  | _, _ => (.any, false)

def ald (H : Heap) (n : Option Nat) : AV → AV × Bool
  | .ref id off =>
    match hget H id with
    | some cs =>
      match n with
      | none => (cs.getD off .any, decide (off < cs.length))
      | some n => (.agg ((cs.drop off).take n), decide (off + n ≤ cs.length))
    | none => (.any, false)
  | .fptr cs =>
    match n with
    | none => (cs.getD 0 .any, decide (0 < cs.length))
    | some n => (.agg (cs.take n), decide (n ≤ cs.length))
  | _ => (.any, false)

/-- A bound: absent, or a number. -/
def abnd (d : Nat) : Option AV → Option Nat
  | none => some d
  | some (.int _ i) => if 0 ≤ i then some i.toNat else none
  | _ => none

def asl (sz : Nat) (x : AV) (lo hi mx : Option AV) : AV × Bool :=
  match x with
  | .vsl sz' es =>
    match abnd es.length hi, abnd 0 lo, abnd es.length mx with
    | some h, some l, some m => (if mx.isSome && m == l then .e0 else .vsl sz' ((es.take h).drop l), sz == sz' && decide (l ≤ h) && decide (h ≤ m) && decide (m ≤ es.length))
    | _, _, _ => (.any, false)
  | .rsl sz' id off len =>
    match abnd len hi, abnd 0 lo, abnd len mx with
    | some h, some l, some m => (.rsl sz' id (off + l * sz) (h - l), sz == sz' && decide (l ≤ h) && decide (h ≤ m) && decide (m ≤ len))
    | _, _, _ => (.any, false)
  | .nilsl =>
    match abnd 0 hi, abnd 0 lo, abnd 0 mx with
    | some h, some l, some m => (.nilsl, h == 0 && l == 0 && m == 0)
    | _, _, _ => (.any, false)
  | _ => (.any, false)

def assl (x : AV) (lo hi : Option AV) : AV × Bool :=
  match x with
  | .str s =>
    match abnd s.size hi, abnd 0 lo with
    | some h, some l => (.str (s.extract l h), decide (l ≤ h) && decide (h ≤ s.size))
    | _, _ => (.any, false)
  | _ => (.any, false)

def afd (off : Nat) (n : Option Nat) : AV → AV × Bool
  | .agg cs =>
    match n with
    | none => (cs.getD off .any, decide (off < cs.length))
    | some n => (.agg ((cs.drop off).take n), decide (off + n ≤ cs.length))
  | _ => (.any, false)

def aix : AV → AV → AV × Bool
  | .str s, .int _ i => (.int .u8 ((s.data.getD i.toNat 0).toNat : Int), decide (0 ≤ i) && decide (i < s.size))
  | _, _ => (.any, false)

def aex (i : Nat) : AV → AV × Bool
  | .tup vs => (vs.getD i .any, decide (i < vs.length))
  | _ => (.any, false)

def aln : AV → AV × Bool
  | .vsl _ es => (.int .i64 es.length, true)
  | .rsl _ _ _ len => (.int .i64 len, true)
  | .nilsl => (.int .i64 0, true)
  | .e0 => (.int .i64 0, true)
  | _ => (.any, false)
def alns : AV → AV × Bool
  | .str s => (.int .i64 s.size, true)
  | _ => (.any, false)

def amx2 (mx : Bool) : AV → AV → AV × Bool
  | .int k x, .int k' y => (.int k (bif mx then (if y > x then y else x) else (if y < x then y else x)), k == k')
  | _, _ => (.any, false)

def amxs (mx : Bool) : AV → List AV → AV × Bool
  | v, [] => (v, true)
  | v, x :: r => ((amxs mx (amx2 mx v x).1 r).1, (amx2 mx v x).2 && (amxs mx (amx2 mx v x).1 r).2)

def anc : AV → AV × Bool
  | .ref id off => (.ref id off, true)
  | .fptr cs => (.fptr cs, true)
  | .fn f a b => (.fn f a b, true)
  | _ => (.any, false)

/-- Cells written into cells from a place on. -/
def put (cs : List AV) (off : Nat) (vs : List AV) : List AV := cs.take off ++ vs ++ cs.drop (off + vs.length)

/-- Is it one whose cells are known, each? -/
def AV.whole : AV → Bool
  | .agg _ => true
  | v => v.isCell

def fillParts : List (Nat × Nat × AV) → List AV → List AV × Bool
  | [], cs => (cs, true)
  | (off, n, v) :: r, cs => ((fillParts r (put cs off v.cells)).1, v.whole && v.cells.length == n && decide (off + n ≤ cs.length) && (fillParts r (put cs off v.cells)).2)

/-- The cells of a slice that is read. -/
def slCells (H : Heap) (sz : Nat) : AV → List AV × Nat × Bool
  | .vsl sz' es => (es.flatMap AV.cells, es.length, sz == sz')
  | .nilsl => ([], 0, true)
  | .e0 => ([], 0, true)
  | .rsl sz' id off len =>
    match hget H id with
    | some cs => ((cs.drop off).take (len * sz), len, sz == sz' && decide (off + len * sz ≤ cs.length))
    | none => ([], 0, false)
  | _ => ([], 0, false)

def b2n : List AV → Option (List Int)
  | [] => some []
  | .int .u8 n :: r => (b2n r).map (n :: ·)
  | _ => none

/-! ### Operations with operands -/

inductive Opd where
  | t (n : Nat)
  | c (v : AV)
  deriving Inhabited

inductive AOp where
  | mv (x : Opd)
  | pk (c a b : Opd)
  | bin (op : BinOp) (x y : Opd)
  | aeq (neg : Bool) (n : Nat) (x y : Opd)
  | beq (neg : Bool) (x y : Opd)
  | sbin (op : BinOp) (x y : Opd)
  | isnil (neg : Bool) (x : Opd)
  | snil (neg : Bool) (x : Opd)
  | un (op : UnOp) (x : Opd)
  | cv (k : IntKind) (x : Opd)
  | fa (x : Opd) (off : Nat)
  | ia (x i : Opd) (sz : Nat)
  | ld (x : Opd) (n : Option Nat)
  | sl (x : Opd) (sz : Nat) (lo hi mx : Option Opd)
  | ssl (x : Opd) (lo hi : Option Opd)
  | fd (x : Opd) (off : Nat) (n : Option Nat)
  | ix (x i : Opd)
  | ex (x : Opd) (i : Nat)
  | bd (zero : List AV) (parts : List (Nat × Nat × Opd))
  | mf (f : FuncId) (first caps : List Opd)
  | ln (x : Opd)
  | lns (x : Opd)
  | mx (isMax : Bool) (x : Opd) (xs : List Opd)
  | nc (x : Opd)
  | b2s (x : Opd)
  | pc (f : FuncId) (args : List Opd)
  | dp (f : Opd) (args : List Opd)
  | ic (f : FuncId) (args : List Opd)
  | al (zero : List AV)
  | bx (n : Nat) (x : Opd)
  | bs (sz len : Nat) (zero : List AV) (parts : List (Nat × Opd))
  | ms (sz bytes : Nat) (zero : List AV) (l c : Opd)
  | st (n : Nat) (p v : Opd)
  | ap (sz bytes : Nat) (zero : List AV) (x y : Opd)
  | s2b (x : Opd)
  | ec (f : FuncId) (args : List Opd)
  | dc (f : Opd) (args : List Opd)
  deriving Inhabited

/-- An operation: its slot, its guard, its reserved place, whether it may part from the text's order. -/
structure AOper where
  d : Option Nat
  g : Option (Nat × Bool) := none
  at_ : Option Nat := none
  lo : Bool := false
  o : AOp
  deriving Inhabited

/-! Short forms, for printed code. -/
abbrev ki (n : Int) : Opd := .c (.int .i64 n)
abbrev kb (b : Bool) : Opd := .c (.bool b)
abbrev o (d : Nat) (a : AOp) : AOper := { d := some d, o := a }
abbrev os (a : AOp) : AOper := { d := none, o := a }
abbrev og (d t : Nat) (w : Bool) (a : AOp) : AOper := { d := some d, g := some (t, w), o := a }

structure Cfg where
  pcall : FuncId → List AV → Option AV
  icall : FuncId → List AV → Option AV
  ecall : FuncId → List AV → Heap → Option (AV × Heap)

structure RS where
  env : Nat → AV
  heap : Heap

def rd (env : Nat → AV) : Opd → AV
  | .t n => env n
  | .c v => v

/-- 'a' gives 'b'. -/
def gle (a b : Bool) : Bool := !a || b
/-- An operand where 'g' holds. -/
def ungd (g : Bool) : AV → AV × Bool
  | .ifg h v => (v, gle g h)
  | .pin _ v => (v, true)
  | v => (v, true)
def ov (g : Bool) (env : Nat → AV) (x : Opd) : AV × Bool := ungd g (rd env x)
def ovs (g : Bool) (env : Nat → AV) : List Opd → List AV × Bool
  | [] => ([], true)
  | x :: r => ((ov g env x).1 :: (ovs g env r).1, (ov g env x).2 && (ovs g env r).2)
def ovo (g : Bool) (env : Nat → AV) : Option Opd → Option AV × Bool
  | none => (none, true)
  | some x => (some (ov g env x).1, (ov g env x).2)

def ap1 (f : AV → AV × Bool) (x : AV × Bool) : AV × Bool := ((f x.1).1, x.2 && (f x.1).2)
def ap2 (f : AV → AV → AV × Bool) (x y : AV × Bool) : AV × Bool := ((f x.1 y.1).1, x.2 && y.2 && (f x.1 y.1).2)

def pickv (c : Bool) : AV → AV → AV
  | .bool p, .bool q => .bool (bif c then p else q)
  | .int k n, .int k' m => if k = k' then .int k (bif c then n else m) else (bif c then .int k n else .int k' m)
  | a, b => bif c then a else b
def apick (g : Bool) (env : Nat → AV) (c a b : Opd) : AV × Bool :=
  match ov g env c with
  | (.bool p, ok) => (pickv p (ov (g && p) env a).1 (ov (g && !p) env b).1, ok && (ov (g && p) env a).2 && (ov (g && !p) env b).2)
  | _ => (.any, false)

/-! ### Freezing: what a function hands back, its own blocks never to be written again -/

def AV.notAgg : AV → Bool
  | .agg _ => false
  | _ => true

/-- Cells as elements. -/
def chunk (sz len : Nat) (l : List AV) : List AV :=
  if sz = 1 then l else (List.range len).map fun i => .agg ((l.drop (i * sz)).take sz)

def frzL (f : AV → Option AV) : List AV → Option (List AV)
  | [] => some []
  | v :: r => (f v).bind fun a => (frzL f r).map (a :: ·)
def frz : Nat → Heap → AV → Option AV
  | 0, _, _ => none
  | n + 1, H, v => match v with
    | .ref id off => (hget H id).bind fun cs => (frzL (frz n H) (cs.drop off)).map .fptr
    | .rsl sz id off len =>
      if len = 0 then some (.vsl sz []) else
      (hget H id).bind fun cs => if off + len * sz ≤ cs.length ∧ len ≤ 140737488355328 then
        (frzL (frz n H) ((cs.drop off).take (len * sz))).bind fun l => if sz != 1 || l.all AV.notAgg then some (.vsl sz (chunk sz len l)) else none
      else none
    | .agg cs => (frzL (frz n H) cs).map .agg
    | .tup cs => (frzL (frz n H) cs).map .tup
    | .ifg g v => (frz n H v).map (.ifg g)
    | .fn f a b => (frzL (frz n H) a).bind fun a' => (frzL (frz n H) b).map fun b' => .fn f a' b'
    | v => if v.noref then some v else none

mutual
def AV.scalar : AV → Bool
  | .bool _ | .int _ _ | .str _ | .nilp => true
  | .tup l => AV.scalars l
  | _ => false
def AV.scalars : List AV → Bool
  | [] => true
  | v :: r => v.scalar && AV.scalars r
end
/-- A call of a function that turns nothing: by what its arguments read as, where they refer to the heap. -/
def pcallX (K : Cfg) (lo : Bool) (H : Heap) (f : FuncId) (avs : List AV × Bool) : AV × Bool :=
  match AV.norefs avs.1 with
  | true => match K.pcall f avs.1 with
    | some r => (r, avs.2)
    | none => (.any, false)
  | false => match lo with
    | true => (.any, false)
    | false => match frzL (frz 20 H) avs.1 with
      | some as => match K.pcall f as with
        | some r => (r, avs.2 && r.scalar)
        | none => (.any, false)
      | none => (.any, false)

/-- Operations that leave the heap alone. 'old': loads are of blocks below 'base'. -/
def vop (K : Cfg) (base : Nat) (lo g : Bool) (env : Nat → AV) (H : Heap) : AOp → AV × Bool
  | .mv x => ov g env x
  | .pk c a b => apick g env c a b
  | .bin op x y => ap2 (abin op) (ov g env x) (ov g env y)
  | .aeq neg n x y => ap2 (aaeq neg n) (ov g env x) (ov g env y)
  | .beq neg x y => ap2 (abeq neg) (ov g env x) (ov g env y)
  | .sbin op x y => ap2 (asbin op) (ov g env x) (ov g env y)
  | .isnil neg x => ap1 (aisnil neg) (ov g env x)
  | .snil neg x => ap1 (asnil neg) (ov g env x)
  | .un op x => ap1 (aun op) (ov g env x)
  | .cv k x => ap1 (acv k) (ov g env x)
  | .fa x off => ap1 (afa off) (ov g env x)
  | .ia x i sz => ap2 (aia sz) (ov g env x) (ov g env i)
  | .ld x n =>
    match lo with
    | false => ap1 (ald H n) (ov g env x)
    | true => ap1 (ald (H.take base) n) (ov g env x)
  | .sl x sz l h m => (asl sz (ov g env x).1 (ovo g env l).1 (ovo g env h).1 (ovo g env m).1) |> fun r => (r.1, (ov g env x).2 && (ovo g env l).2 && (ovo g env h).2 && (ovo g env m).2 && r.2)
  | .ssl x l h => (assl (ov g env x).1 (ovo g env l).1 (ovo g env h).1) |> fun r => (r.1, (ov g env x).2 && (ovo g env l).2 && (ovo g env h).2 && r.2)
  | .fd x off n => ap1 (afd off n) (ov g env x)
  | .ix x i => ap2 aix (ov g env x) (ov g env i)
  | .ex x i => ap1 (aex i) (ov g env x)
  | .bd zero parts =>
    (.agg (fillParts (parts.map fun p => (p.1, p.2.1, (ov g env p.2.2).1)) zero).1, (parts.all fun p => (ov g env p.2.2).2) && (fillParts (parts.map fun p => (p.1, p.2.1, (ov g env p.2.2).1)) zero).2)
  | .mf f first caps => (.fn f (ovs g env first).1 (ovs g env caps).1, (ovs g env first).2 && (ovs g env caps).2)
  | .ln x => ap1 aln (ov g env x)
  | .lns x => ap1 alns (ov g env x)
  | .mx m x xs => (amxs m (ov g env x).1 (ovs g env xs).1) |> fun r => (r.1, (ov g env x).2 && (ovs g env xs).2 && r.2)
  | .nc x => ap1 anc (ov g env x)
  | .b2s x =>
    match b2n (slCells H 1 (ov g env x).1).1 with
    | some l => (.str (strOfNums l), (ov g env x).2 && (slCells H 1 (ov g env x).1).2.2)
    | none => (.any, false)
  | .pc f args => pcallX K lo H f (ovs g env args)
  | .dp f args =>
    match ov g env f with
    | (.fn f' a b, ok) => pcallX K lo H f' (a ++ (ovs g env args).1 ++ b, ok && (ovs g env args).2)
    | _ => (.any, false)
  | .ic f args =>
    match K.icall f (ovs g env args).1 with
    | some r => (r, (ovs g env args).2)
    | none => (.any, false)
  | _ => (.any, false)

def AOp.eff : AOp → Bool
  | .al _ | .bx _ _ | .bs _ _ _ _ | .ms _ _ _ _ _ | .st _ _ _ | .ap _ _ _ _ _ | .s2b _ | .ec _ _ | .dc _ _ => true
  | _ => false

/-- A new block: at the end of the heap, or where one was reserved. -/
def newAt (base : Nat) (H : Heap) (at_ : Option Nat) (cs : List AV) : Nat × Heap × Bool :=
  match at_ with
  | none => (H.length, H ++ [.live cs], true)
  | some k => (base + k, H.set (base + k) (.live cs), match H[base + k]? with | some .res => true | _ => false)

def asInt? : AV → Option Int
  | .int _ n => some n
  | _ => none

/-- Operations that change the heap. -/
def eop (K : Cfg) (base : Nat) (at_ : Option Nat) (lo : Bool) (env : Nat → AV) (H : Heap) : AOp → (AV × Heap) × Bool
  | .al zero => let r := newAt base H at_ zero; ((.ref r.1 0, r.2.1), r.2.2)
  | .bx n x => let r := newAt base H at_ (ov true env x).1.cells; ((.ref r.1 0, r.2.1), (ov true env x).2 && (ov true env x).1.whole && (ov true env x).1.cells.length == n && (ov true env x).1.cells.all AV.isCell && r.2.2)
  | .bs sz len zero parts =>
    let p := fillParts (parts.map fun p => (p.1 * sz, sz, (ov true env p.2).1)) (List.replicate len zero).flatten
    let r := newAt base H at_ p.1
    ((.rsl sz r.1 0 len, r.2.1), (parts.all fun p => (ov true env p.2).2) && p.2 && zero.length == sz && p.1.all AV.isCell && r.2.2)
  | .ms sz bytes zero l c =>
    match asInt? (ov true env l).1, asInt? (ov true env c).1 with
    | some l', some c' =>
      let r := newAt base H at_ (List.replicate l'.toNat zero).flatten
      ((.rsl sz r.1 0 l'.toNat, r.2.1), (ov true env l).2 && (ov true env c).2 && decide (0 ≤ l') && decide (l' ≤ c') && decide (c' * bytes ≤ 140737488355328) && decide (c' ≤ 140737488355328) && zero.length == sz && zero.all AV.isCell && r.2.2)
    | _, _ => ((.any, H), false)
  | .st n p v =>
    match (ov true env p).1 with
    | .ref id off =>
      match hget H id with
      | some cs =>
        ((.any, H.set id (.live (put cs off (ov true env v).1.cells))),
          (ov true env p).2 && (ov true env v).2 && (ov true env v).1.whole && (ov true env v).1.cells.length == n && decide (off + n ≤ cs.length) && (ov true env v).1.cells.all AV.isCell && (!lo || decide (base ≤ id)))
      | none => ((.any, H), false)
    | _ => ((.any, H), false)
  | .ap sz bytes zero x y =>
    let yc := slCells H sz (ov true env y).1
    match (ov true env x).1 with
    | .nilsl =>
      let r := newAt base H at_ yc.1
      ((.rsl sz r.1 0 yc.2.1, r.2.1), (ov true env x).2 && (ov true env y).2 && yc.2.2 && yc.1.all AV.isCell && zero.length == sz && zero.all AV.isCell && decide (yc.2.1 * bytes ≤ 140737488355328) && decide (yc.2.1 ≤ 140737488355328) && r.2.2)
    | .e0 =>
      let r := newAt base H at_ yc.1
      ((.rsl sz r.1 0 yc.2.1, r.2.1), (ov true env x).2 && (ov true env y).2 && yc.2.2 && yc.1.all AV.isCell && zero.length == sz && zero.all AV.isCell && decide (yc.2.1 * bytes ≤ 140737488355328) && decide (yc.2.1 ≤ 140737488355328) && r.2.2)
    | .rsl sz' id off len =>
      match hget H id with
      | some cs =>
        let r := newAt base (H.set id .dead) at_ (cs.take (len * sz) ++ yc.1)
        ((.rsl sz r.1 0 (len + yc.2.1), r.2.1),
          (ov true env x).2 && (ov true env y).2 && yc.2.2 && sz == sz' && off == 0 && decide (len * sz ≤ cs.length) && yc.1.all AV.isCell && zero.length == sz && zero.all AV.isCell && decide ((len + yc.2.1) * bytes ≤ 140737488355328) && decide (len + yc.2.1 ≤ 140737488355328) && (!lo || decide (base ≤ id)) && r.2.2)
      | none => ((.any, H), false)
    | _ => ((.any, H), false)
  | .s2b x =>
    match (ov true env x).1 with
    | .str s =>
      let r := newAt base H at_ (s.data.toList.map fun b => .int .u8 b.toNat)
      ((.rsl 1 r.1 0 s.size, r.2.1), (ov true env x).2 && r.2.2)
    | _ => ((.any, H), false)
  | .ec f args =>
    match K.ecall f (ovs true env args).1 H with
    | some r => (r, (ovs true env args).2)
    | none => ((.any, H), false)
  | .dc f args =>
    match (ov true env f).1 with
    | .fn f' a b =>
      match K.ecall f' (a ++ (ovs true env args).1 ++ b) H with
      | some r => (r, (ov true env f).2 && (ovs true env args).2)
      | none => ((.any, H), false)
    | _ => ((.any, H), false)
  | _ => ((.any, H), false)

def upd (env : Nat → AV) (d : Option Nat) (v : AV) : Nat → AV :=
  match d with
  | none => env
  | some d => fun t => if t = d then v else env t

/-- A guard: whether it lets pass. -/
def gcond (v : AV) (want : Bool) : Bool × Bool :=
  match v with
  | .bool b => (b == want, true)
  | .ifg g (.bool b) => (g && b == want, true)
  | _ => (false, false)

def xop (K : Cfg) (base : Nat) (o : AOper) (s : RS) : RS × Bool :=
  match o.g with
  | none =>
    match o.o.eff with
    | false => (⟨upd s.env o.d (vop K base o.lo true s.env s.heap o.o).1, s.heap⟩, (vop K base o.lo true s.env s.heap o.o).2)
    | true => let r := eop K base o.at_ o.lo s.env s.heap o.o; (⟨upd s.env o.d r.1.1, r.1.2⟩, r.2)
  | some (t, want) =>
    match o.o.eff with
    | false =>
      let g := gcond (s.env t) want
      let r := vop K base o.lo g.1 s.env s.heap o.o
      (⟨upd s.env o.d (.ifg g.1 r.1), s.heap⟩, g.2 && gle g.1 r.2)
    | true =>
      bif (gcond (s.env t) want).1 then
        let r := eop K base o.at_ o.lo s.env s.heap o.o; (⟨upd s.env o.d r.1.1, r.1.2⟩, (gcond (s.env t) want).2 && r.2)
      else (⟨upd s.env o.d (.ifg false .any), s.heap⟩, (gcond (s.env t) want).2)

def xops (K : Cfg) (base : Nat) : List AOper → RS → RS × Bool
  | [], s => (s, true)
  | o :: r, s => ((xops K base r (xop K base o s).1).1, (xop K base o s).2 && (xops K base r (xop K base o s).1).2)

/-- A state between regions: the slots that are kept (in the order of 'V'), and the heap. -/
structure St where
  vals : List AV
  heap : Heap

def look : List Nat → List AV → Nat → AV
  | v :: V, x :: xs, t => if t = v then x else look V xs t
  | _, _, _ => .any

inductive AC where
  | skip
  | reg (res : Nat) (ops : List AOper)
  | seq (a b : AC)
  | cond (c : Opd) (a b : AC)
  | block (id : Nat) (a : AC)
  | loop (a : AC)
  | exit (id : Nat)
  | ret
  deriving Inhabited

def xreg (K : Cfg) (V : List Nat) (res : Nat) (ops : List AOper) (s : St) : St × Bool :=
  let r := xops K s.heap.length ops ⟨look V s.vals, s.heap ++ List.replicate res .res⟩
  (⟨V.map r.1.env, r.1.heap⟩, r.2)

/-- Where a function's results lie. -/
inductive RV where
  | tmp (t : Nat)
  | cell (t : Nat) (n : Option Nat)
def rvGet (env : Nat → AV) (H : Heap) : RV → AV × Bool
  | .tmp t => (env t, true)
  | .cell t n => match env t with
    | .ref id off => ald H n (.ref id off)
    | _ => (.any, false)
def retv (env : Nat → AV) (H : Heap) : List RV → AV × Bool
  | [r] => rvGet env H r
  | l => (.tup (l.map fun r => (rvGet env H r).1), l.all fun r => (rvGet env H r).2)

inductive Ex where
  | normal
  | exit (id : Nat)
  | ret
  deriving DecidableEq

/-! ### Running -/

def xcode (K : Cfg) (V : List Nat) : Nat → AC → St → Option (Ex × St)
  | 0, _, _ => none
  | n + 1, c, s => match c with
    | .skip => some (.normal, s)
    | .reg res ops => match xreg K V res ops s with
      | (s', true) => some (.normal, s')
      | _ => none
    | .seq a b => match xcode K V n a s with
      | some (.normal, s') => xcode K V n b s'
      | r => r
    | .cond c a b => match rd (look V s.vals) c with
      | .bool true => xcode K V n a s
      | .bool false => xcode K V n b s
      | _ => none
    | .block id a => match xcode K V n a s with
      | some (.exit id', s') => if id' = id then some (.normal, s') else some (.exit id', s')
      | r => r
    | .loop a => match xcode K V n a s with
      | some (.normal, s') => xcode K V n (.loop a) s'
      | r => r
    | .exit id => some (.exit id, s)
    | .ret => some (.ret, s)

/-- A function's code, the slots that it keeps, its results, how many slots it has. -/
structure AFn where
  c : AC
  V : List Nat
  rs : List RV
  N : Nat

def runF (K : Cfg) (n : Nat) (fn : AFn) (avs : List AV) (H : Heap) : Option (AV × Heap) :=
  if avs.length ≤ fn.N then
    match xcode K fn.V n fn.c ⟨fn.V.map fun t => avs.getD t .any, H⟩ with
    | some (.normal, s) | some (.ret, s) => match retv (look fn.V s.vals) s.heap fn.rs with
      | (r, true) => some (r, s.heap)
      | _ => none
    | _ => none
  else none

/-- Functions run by their code, calls in calls so many deep. -/
def calls (prog : FuncId → Option AFn) : Nat → Cfg
  | 0 => { pcall := fun _ _ => none, icall := fun _ _ => none, ecall := fun _ _ _ => none }
  | n + 1 => { icall := fun _ _ => none, pcall := fun f avs => (prog f).bind fun fn => (runF (calls prog n) 1000000 fn avs []).bind fun r => frz 20 r.2 r.1, ecall := fun f avs H => (prog f).bind fun fn => runF (calls prog n) 1000000 fn avs H }

/-- Contracts, one beside the other. -/
def Cfg.none : Cfg := { pcall := fun _ _ => Option.none, icall := fun _ _ => Option.none, ecall := fun _ _ _ => Option.none }
def Cfg.addP (K : Cfg) (f : FuncId) (g : List AV → Option AV) : Cfg := { K with pcall := fun f' => if f' = f then g else K.pcall f' }
def Cfg.addI (K : Cfg) (f : FuncId) (g : List AV → Option AV) : Cfg := { K with icall := fun f' => if f' = f then g else K.icall f' }
def Cfg.addE (K : Cfg) (f : FuncId) (S : List AV → Heap → Option (AV × Heap)) : Cfg := { K with ecall := fun f' => if f' = f then S else K.ecall f' }

/-- A function that turns nothing, its arguments read out of the heap. -/
def liftE (g : List AV → Option AV) : List AV → Heap → Option (AV × Heap) := fun avs H =>
  (frzL (frz 20 H) avs).bind fun as => (g as).bind fun r => if r.scalar then some (r, H) else none

/-! ### The compiler -/

def avCell : Value → AV
  | .bool b => .bool b
  | .int k n => .int k n
  | .string s => .str s
  | .pointer none => .nilp
  | .slice none 0 0 => .nilsl
  | v => .con v
def avOf : Value → Option AV
  | .agg cs => if cs.all oneCell then some (.agg (cs.toList.map avCell)) else none
  | .tuple _ => none
  | v => some (avCell v)

def opd (N : Nat) : Operand → Option Opd
  | .tmp t => if t < N then some (.t t) else none
  | .const v => (avOf v).map .c
  | .func f => some (.c (.fn f [] []))
  | .global _ => none
def opds (N : Nat) : List Operand → Option (List Opd)
  | [] => some []
  | x :: r => (opd N x).bind fun a => (opds N r).map (a :: ·)
def opdo (N : Nat) : Option Operand → Option (Option Opd)
  | none => some none
  | some x => (opd N x).map some

def szOf (P : Program) (t : TypeId) : Option Nat := (P.info? t).map (·.size)
def zeroOf (P : Program) (t : TypeId) : Option (List AV) :=
  match (P.info? t).bind (·.zero) with
  | some z => if z.cells.all oneCell then some (z.cells.toList.map avCell) else none
  | none => none
/-- 'some n': a struct (or array) of n cells; 'none': one cell. -/
def shOf (P : Program) (t : TypeId) : Option (Option Nat) :=
  match P.underlying t with
  | some (.struct _) | some (.array _ _) => (szOf P t).map some
  | some _ => some none
  | none => none
def isInt (P : Program) (t : TypeId) : Bool := match P.underlying t with | some (.int _) => true | _ => false
/-- A struct of whole numbers alone, one behind the other. -/
def intFields (P : Program) : List Field → Nat → Bool
  | [], _ => true
  | f :: r, n => f.offset == n && isInt P f.type && f.name != "_" && intFields P r (n + 1)

def callable (P : Program) (f : FuncId) : Bool :=
  match P.funcs[f]? with
  | some fn => fn.name != "runtime.NumGoroutine" && fn.body.isSome
  | none => false

def compBin (P : Program) (N : Nat) (op : BinOp) (t : TypeId) (x y : Operand) : Option AOp :=
  (opd N x).bind fun a => (opd N y).bind fun b =>
  match P.underlying t with
  | some (.int _) => some (.bin op a b)
  | some .bool => match op with
    | .eql => some (.beq false a b)
    | .neq => some (.beq true a b)
    | _ => none
  | some .string => some (.sbin op a b)
  | some (.struct fs) =>
    if intFields P fs.toList 0 && !P.stoodInHeld t && (szOf P t == some fs.size) && !P.eqGuardType P.depth t then match op with
      | .eql => some (.aeq false fs.size a b)
      | .neq => some (.aeq true fs.size a b)
      | _ => none
    else none
  | some (.pointer _) => match y, op with
    | .const (.pointer none), .eql => some (.isnil false a)
    | .const (.pointer none), .neq => some (.isnil true a)
    | _, _ => none
  | some (.slice _) => match y, op with
    | .const (.slice none 0 0), .eql => some (.snil false a)
    | .const (.slice none 0 0), .neq => some (.snil true a)
    | _, _ => none
  | _ => none

def compConv (P : Program) (N : Nat) (src dst : TypeId) (x : Operand) : Option AOp :=
  (opd N x).bind fun a =>
  match P.underlying src, P.underlying dst with
  | some (.int _), some (.int k) => some (.cv k a)
  | some (.slice e), some .string => match P.underlying e with
    | some (.int .u8) => some (.b2s a)
    | _ => none
  | some .string, some (.slice e) => match P.underlying e with
    | some (.int .u8) => some (.s2b a)
    | _ => none
  | _, _ => none

def compParts (P : Program) (N : Nat) (fs : Array Field) : List (Nat × Operand) → Option (List (Nat × Nat × Opd))
  | [] => some []
  | (i, x) :: r => (fs[i]?).bind fun f => (szOf P f.type).bind fun n => (opd N x).bind fun a => (compParts P N fs r).map ((f.offset, n, a) :: ·)
def compSParts (N : Nat) : List (Nat × Operand) → Option (List (Nat × Opd))
  | [] => some []
  | (i, x) :: r => (opd N x).bind fun a => (compSParts N r).map ((i, a) :: ·)

def compCall (P : Program) (hn : AOp) (N : Nat) (c : Call) : Option AOp :=
  (opds N c.args.toList).bind fun args =>
  match c.callee with
  | .builtin .len => match c.argTypes.toList.map P.underlying, args with
    | [some (.slice _)], [x] => some (.ln x)
    | [some .string], [x] => some (.lns x)
    | _, _ => none
  | .builtin .max => match args with
    | x :: r => some (.mx true x r)
    | _ => none
  | .builtin .min => match args with
    | x :: r => some (.mx false x r)
    | _ => none
  | .builtin .append => match c.argTypes.toList, args with
    | [t, u], [x, y] => match P.underlying t, P.underlying u with
      | some (.slice e), some (.slice _) => (P.info? e).bind fun i => (zeroOf P e).map fun z => .ap i.size i.bytes z x y
      | _, _ => none
    | _, _ => none
  | .value (.func f) => if callable P f then some (match hn with | .pc _ _ => .pc f args | .ic _ _ => .ic f args | _ => .ec f args) else none
  | .value (.tmp t) => (opd N (.tmp t)).map fun f => match hn with | .dp _ _ => .dp f args | _ => .dc f args
  | _ => none

def compOp (P : Program) (hn : AOp) (N : Nat) : Op → Option AOp
  | .move x | .assign x => (opd N x).map .mv
  | .pick c a b => (opd N c).bind fun c => (opd N a).bind fun a => (opd N b).map fun b => .pk c a b
  | .alloc t => (zeroOf P t).map .al
  | .box t x => (szOf P t).bind fun n => (opd N x).map fun a => .bx n a
  | .build t parts => match P.underlying t with
    | some (.struct fs) => if fs.toList.all fun f => (szOf P f.type).isSome then (zeroOf P t).bind fun z => (compParts P N fs parts.toList).map fun ps => .bd z ps else none
    | _ => none
  | .buildSlice t len parts => match P.underlying t with
    | some (.slice e) => (szOf P e).bind fun sz => (zeroOf P e).bind fun z => (compSParts N parts.toList).bind fun ps => if 0 < sz && len * sz ≤ 2 ^ 24 then some (.bs sz len z ps) else none
    | _ => none
  | .load t a => (shOf P t).bind fun n => (opd N a).map fun a => .ld a n
  | .store t a v => (szOf P t).bind fun n => (opd N a).bind fun a => (opd N v).map fun v => .st n a v
  | .binOp op t x y _ => compBin P N op t x y
  | .unOp op _ x => (opd N x).map (.un op)
  | .convert s d x => compConv P N s d x
  | .makeFunc (.func f) first caps => if callable P f then (opds N first.toList).bind fun a => (opds N caps.toList).map fun b => .mf f a b else none
  | .makeSlice t l c => match P.underlying t with
    | some (.slice e) => (P.info? e).bind fun i => (zeroOf P e).bind fun z => (opd N l).bind fun l => (opd N c).map fun c => .ms i.size i.bytes z l c
    | _ => none
  | .slice t x lo hi mx => (opd N x).bind fun x => (opdo N lo).bind fun lo => (opdo N hi).bind fun hi => (opdo N mx).bind fun mx =>
    match P.underlying t with
    | some (.slice e) => if mx.isNone || hi.isSome then (szOf P e).map fun sz => .sl x sz lo hi mx else none
    | some .string => match mx with
      | none => some (.ssl x lo hi)
      | _ => none
    | _ => none
  | .fieldAddr s x f => match P.underlying s with
    | some (.struct fs) => (fs[f]?).bind fun fl => (szOf P fl.type).bind fun n => if n = 0 then none else (opd N x).map fun x => .fa x fl.offset
    | _ => none
  | .field s x f => match P.underlying s with
    | some (.struct fs) => (fs[f]?).bind fun fl => (shOf P fl.type).bind fun n => (opd N x).map fun x => .fd x fl.offset n
    | _ => none
  | .indexAddr t x i => match P.underlying t with
    | some (.slice e) => (szOf P e).bind fun sz => (opd N x).bind fun x => (opd N i).map fun i => .ia x i sz
    | _ => none
  | .index t x i => match P.underlying t with
    | some .string => (opd N x).bind fun x => (opd N i).map fun i => .ix x i
    | _ => none
  | .extract x i => (opd N x).map fun x => .ex x i
  | .nilCheck x => (opd N x).map .nc
  | .call c => compCall P hn N c
  | _ => none

/-- Kinds of operations, for orders that are drawn. -/
inductive Cls where
  | L | R | A | S | G | P | E
  deriving DecidableEq
def AOp.cls : AOp → Cls
  | .ld _ _ => .R
  | .b2s _ => .E
  | .pc _ _ | .dp _ _ => .P
  | .al _ | .bx _ _ | .bs _ _ _ _ | .ms _ _ _ _ _ => .A
  | .st _ _ _ => .S
  | .ap _ _ _ _ _ => .G
  | .s2b _ => .A
  | .ec _ _ | .dc _ _ => .E
  | _ => .L

def Opd.tmps : Opd → List Nat
  | .t n => [n]
  | .c _ => []
def otmps : Option Opd → List Nat
  | some x => x.tmps
  | none => []
def AOp.reads : AOp → List Nat
  | .mv x | .isnil _ x | .snil _ x | .un _ x | .cv _ x | .fa x _ | .ld x _ | .fd x _ _ | .ex x _ | .ln x | .lns x | .nc x | .b2s x | .bx _ x | .s2b x => x.tmps
  | .pk c a b => c.tmps ++ a.tmps ++ b.tmps
  | .bin _ x y | .aeq _ _ x y | .beq _ x y | .sbin _ x y | .ia x y _ | .ix x y | .ms _ _ _ x y | .st _ x y | .ap _ _ _ x y => x.tmps ++ y.tmps
  | .sl x _ l h m => x.tmps ++ otmps l ++ otmps h ++ otmps m
  | .ssl x l h => x.tmps ++ otmps l ++ otmps h
  | .bd _ ps => ps.flatMap fun p => p.2.2.tmps
  | .mf _ a b => a.flatMap Opd.tmps ++ b.flatMap Opd.tmps
  | .mx _ x xs => x.tmps ++ xs.flatMap Opd.tmps
  | .pc _ as | .ec _ as => as.flatMap Opd.tmps
  | .al _ => []
  | .bs _ _ _ ps => ps.flatMap fun p => p.2.tmps
  | .ic _ as => as.flatMap Opd.tmps
  | .dc f as | .dp f as => f.tmps ++ as.flatMap Opd.tmps
def AOper.reads (o : AOper) : List Nat := (match o.g with | some (t, _) => [t] | none => []) ++ o.o.reads

def clsSwap (x y : AOper) : Bool :=
  (!x.o.eff && !y.o.eff) ||
  match x.o.cls, y.o.cls with
  | .L, _ | _, .L => true
  | .P, _ => x.lo
  | _, .P => y.lo
  | .R, .A => x.lo && y.at_.isSome
  | .A, .R => y.lo && x.at_.isSome
  | .A, .A => match x.at_, y.at_ with
    | some a, some b => a != b
    | _, _ => false
  | .R, .S | .R, .G => x.lo && y.lo && (y.o.cls == .S || y.at_.isSome)
  | .S, .R | .G, .R => x.lo && y.lo && (x.o.cls == .S || x.at_.isSome)
  | _, _ => false
/-- Two operations whose order may turn. -/
def swapOk (x y : AOper) : Bool :=
  (match x.d with
   | some d => !(y.reads.contains d) && y.d != some d
   | none => true) &&
  (match y.d with
   | some d => !(x.reads.contains d)
   | none => true) && clsSwap x y

def compGuard (ops : Array Oper) (N : Nat) : Option (Nat × Bool) → Option (Option (Nat × Bool))
  | none => some none
  | some (j, w) => ((ops[j]?).bind (·.dst)).bind fun t => if t < N then some (some (t, w)) else none

def dstOk (N : Nat) : Option Nat → Bool
  | some d => decide (d < N)
  | none => true

/-- Is a given abstract operation that of an operation? The reserved place and the mark 'lo' are its own choice. -/
def compOper (P : Program) (N : Nat) (ops : Array Oper) (o : Oper) (at_ : Option Nat) (lo : Bool) (hn : AOp) : Option AOper :=
  (compOp P hn N o.op).bind fun a => (compGuard ops N o.guard).bind fun g =>
    if dstOk N o.dst then some { d := o.dst, g := g, at_ := at_, lo := lo, o := a } else none

def compOpers (P : Program) (N : Nat) (ops : Array Oper) : List Oper → List AOper → Option (List AOper)
  | [], [] => some []
  | o :: r, h :: hs => (compOper P N ops o h.at_ h.lo h.o).bind fun a => (compOpers P N ops r hs).map (a :: ·)
  | _, _ => none

/-- What an operation waits for, directly or through others, by bits. -/
def maskOf (acc : List Nat) (o : Oper) : Nat := o.after.toList.foldl (fun s e => if Region.binds .any e then s ||| 2 ^ e.on ||| acc.getD e.on 0 else s) 0
def bef (acc : List Nat) : List Oper → List Nat
  | [] => acc
  | o :: r => bef (acc ++ [maskOf acc o]) r

/-- Every two operations that the edges leave open may turn. -/
def drawOk (ops : List Oper) (l : List AOper) : Bool :=
  let b := bef [] ops
  (ops.zipIdx.all fun (o, i) => o.after.toList.all fun e => !(Region.binds .any e) || decide (e.on < i)) &&
  l.zipIdx.all fun (y, j) => (l.take j).zipIdx.all fun (x, i) => (b.getD j 0).testBit i || swapOk x y

def compRes (P : Program) : List ResultVar → Option (List RV)
  | [] => some []
  | .tmp t :: r => (compRes P r).map (.tmp t :: ·)
  | .cell a t :: r => (shOf P t).bind fun n => (compRes P r).map (.cell a n :: ·)

/-- The code of a program's code: 'h' gives the choices (reserved places, marks), all else is computed. -/
def compC (P : Program) (N : Nat) : Code → AC → Option AC
  | .skip, .skip => some .skip
  | .region _ ops draw, .reg res hs =>
    (compOpers P N ops ops.toList hs).bind fun l =>
      if draw then (if drawOk ops.toList l then some (.reg res l) else none) else some (.reg res l)
  | .seq a b, .seq x y => (compC P N a x).bind fun x => (compC P N b y).map fun y => .seq x y
  | .cond c a b, .cond _ x y => (opd N c).bind fun c => (compC P N a x).bind fun x => (compC P N b y).map fun y => .cond c x y
  | .block id a, .block _ x => (compC P N a x).map (.block id)
  | .loop a, .loop x => (compC P N a x).map .loop
  | .exit id, .exit _ => some (.exit id)
  | .ret, .ret => some .ret
  | _, _ => none

end Go.Proofs.Yteelkalenpbmmaa.Ab
