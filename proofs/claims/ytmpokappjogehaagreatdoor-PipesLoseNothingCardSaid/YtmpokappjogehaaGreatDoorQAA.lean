/- Steps of the proof of LawPipesLoseNothing: contracts of the functions that the law reaches, for every world that holds what each of them asks. -/
import Derived.WalkKit
set_option linter.unusedVariables false
set_option linter.unusedSimpArgs false
namespace Go.Proofs.YtmpokappjogehaaGreatDoor
namespace Ev
open Go

/-! ### Strings as numbers -/
structure Str where
  len : Nat
  num : Nat
  deriving Repr, DecidableEq
def bytesN : Nat → Nat → List UInt8
  | 0, _ => []
  | n + 1, x => bytesN n (x / 256) ++ [UInt8.ofNat x]
def Str.ba (s : Str) : ByteArray := ⟨(bytesN s.len s.num).toArray⟩
def Str.cat (a b : Str) : Str := ⟨a.len + b.len, a.num * 256 ^ b.len + b.num % 256 ^ b.len⟩
def Str.sub (s : Str) (i j : Nat) : Str := ⟨j - i, s.num / 256 ^ (s.len - j) % 256 ^ (j - i)⟩
def Str.at (s : Str) (i : Nat) : Nat := s.num / 256 ^ (s.len - 1 - i) % 256
def Str.beq (a b : Str) : Bool := match Nat.beq a.len b.len with | true => Nat.beq (a.num % 256 ^ a.len) (b.num % 256 ^ b.len) | false => false
def ofBytes : List UInt8 → Nat → Nat → Str
  | [], l, n => ⟨l, n⟩
  | b :: r, l, n => ofBytes r (l + 1) (n * 256 + b.toNat)

/-! ### A map with natural keys -/
inductive Tr (α : Type) where
  | nil
  | node (l : Tr α) (v : Option α) (r : Tr α)
  deriving Repr
def Tr.get {α : Type} : Tr α → Nat → Option α
  | .nil, _ => none
  | .node l v r, n => match n with
    | 0 => v
    | m + 1 => match m % 2 with
      | 0 => l.get (m / 2)
      | _ => r.get (m / 2)
def Tr.set {α : Type} : Nat → Tr α → Nat → α → Tr α
  | 0, _, _, _ => .nil
  | f + 1, t, n, x => match t with
    | .nil => match n with
      | 0 => .node .nil (some x) .nil
      | m + 1 => match m % 2 with
        | 0 => .node (Tr.set f .nil (m / 2) x) none .nil
        | _ => .node .nil none (Tr.set f .nil (m / 2) x)
    | .node l v r => match n with
      | 0 => .node l (some x) r
      | m + 1 => match m % 2 with
        | 0 => .node (Tr.set f l (m / 2) x) v r
        | _ => .node l v (Tr.set f r (m / 2) x)
abbrev Tr.put {α : Type} (t : Tr α) (n : Nat) (x : α) : Tr α := Tr.set 40 t n x

/-! ### Values -/
inductive EV where
  | bool (b : Bool) | int (k : IntKind) (n : Int) | str (s : Str)
  | ptr (id off : Nat) | nilp
  | slc (id off len sz : Nat) | nils
  /-- all of an array -/
  | asl (id base len sz : Nat)
  | map (id : Nat) | nilm
  | fn (f : Nat) (first cap : List EV) | nilf
  | agg (cs : List EV) | tup (vs : List EV)
  | sint (k : IntKind) (i : Nat) (lo hi : Int)
  | sstr (i lo hi : Nat) | slen (i lo hi : Nat)
  /-- a value that is not known -/
  | any
  deriving Repr
instance : Inhabited EV := ⟨.nilp⟩
def EV.cells : EV → List EV
  | .agg cs => cs
  | e => [e]
/-- A value of one cell. -/
def EV.one : EV → Bool
  | .agg _ | .tup _ | .any => false
  | _ => true
def ofCell : Value → Option EV
  | .bool b => some (.bool b)
  | .int k n => some (.int k n)
  | .string s => some (.str (ofBytes s.data.toList 0 0))
  | .pointer none => some .nilp
  | .slice none 0 0 => some .nils
  | .map none => some .nilm
  | .nilFunc => some .nilf
  | _ => none
def allO {α : Type} : List (Option α) → Option (List α)
  | [] => some []
  | none :: _ => none
  | some a :: l => match allO l with
    | some r => some (a :: r)
    | none => none
def ofValue : Value → Option EV
  | .agg cs => (allO (cs.toList.map ofCell)).map .agg
  | .tuple cs => (allO (cs.toList.map ofCell)).map .tup
  | v => ofCell v

/-! ### Memory -/
inductive LObj (X : Type) where
  | cells (t : TypeId) (cs : List EV)
  | row (t sz : Nat) (cs : List EV)
  | brow (s : Str)
  | ext (x : X)
  | dead
  deriving Repr
structure Mem (X : Type) where
  h : Tr (LObj X)
  nx : Nat
  deriving Repr
def Mem.new {X : Type} (m : Mem X) (o : LObj X) : Mem X := ⟨m.h.put m.nx o, m.nx + 1⟩
def Mem.upd {X : Type} (m : Mem X) (i : Nat) (o : LObj X) : Mem X := ⟨m.h.put i o, m.nx⟩

/-! ### Types -/
def aggOf (P : Program) (t : TypeId) : Bool := match P.underlying t with
  | some (.struct _) | some (.array _ _) => true
  | _ => false
def szOf (P : Program) (t : TypeId) : Option Nat := match P.underlying t with
  | some _ => (P.info? t).map (·.size)
  | none => none
def zeroOf (P : Program) (t : TypeId) : Option EV := match P.info? t with
  | some i => match i.zero with
    | some v => ofValue v
    | none => none
  | none => none
/-- offset, size, whether it is a struct or an array -/
def fldOf (P : Program) (t : TypeId) (i : Nat) : Option (Nat × Nat × Bool) := match P.underlying t with
  | some (.struct fs) => match fs.toList[i]? with
    | some f => match szOf P f.type with
      | some s => some (f.offset, s, aggOf P f.type)
      | none => none
    | none => none
  | _ => none
/-- length, size of an element, whether it is a struct or an array -/
def arrOf (P : Program) (t : TypeId) : Option (Nat × Nat × Bool) := match P.underlying t with
  | some (.array n e) => match szOf P e with
    | some s => some (n, s, aggOf P e)
    | none => none
  | _ => none
def slcOf (P : Program) (t : TypeId) : Option (TypeId × Nat) := match P.underlying t with
  | some (.slice e) => match szOf P e with
    | some s => some (e, s)
    | none => none
  | _ => none

def placeOf (P : Program) (t : TypeId) : Option (Nat → Option (Nat × Nat)) := match P.underlying t with
  | some (.struct fs) => match fs.toList.mapM (fun f => (P.info? f.type).map fun i => (f.offset, i.size)) with
    | some l => some fun i => l[i]?
    | none => none
  | some (.array _ e) => match szOf P e with
    | some s => some fun i => some (i * s, s)
    | none => none
  | _ => none

/-! ### Lists of cells -/
def setCells (cs : List EV) : Nat → List EV → Option (List EV)
  | 0, [] => some cs
  | 0, v :: vs => match cs with
    | [] => none
    | _ :: r => match setCells r 0 vs with
      | some l => some (v :: l)
      | none => none
  | n + 1, vs => match cs with
    | [] => none
    | c :: r => match setCells r n vs with
      | some l => some (c :: l)
      | none => none
def takeN {α : Type} : Nat → List α → Option (List α)
  | 0, _ => some []
  | _ + 1, [] => none
  | n + 1, a :: l => match takeN n l with
    | some r => some (a :: r)
    | none => none
def partOf (agg : Bool) (sz off : Nat) (cs : List EV) : Option EV := match agg with
  | true => (takeN sz (cs.drop off)).map .agg
  | false => cs[off]?

/-! ### Operations -/
def rangeOk (k : IntKind) (n : Int) : Bool := match k, n with
  | .i64, .ofNat n => Nat.ble n 9223372036854775807
  | .i64, .negSucc n => Nat.ble n 9223372036854775807
  | .u8, .ofNat n => Nat.ble n 255
  | .u32, .ofNat n => Nat.ble n 4294967295
  | .u64, .ofNat n => Nat.ble n 18446744073709551615
  | _, _ => false
def wrapF (k : IntKind) (n : Int) : Int := match rangeOk k n with
  | true => n
  | false => k.wrap n
def ltF : Int → Int → Bool
  | .ofNat a, .ofNat b => Nat.blt a b
  | .negSucc _, .ofNat _ => true
  | .ofNat _, .negSucc _ => false
  | .negSucc a, .negSucc b => Nat.blt b a
def eqF : Int → Int → Bool
  | .ofNat a, .ofNat b => Nat.beq a b
  | .negSucc a, .negSucc b => Nat.beq a b
  | _, _ => false
def leF (a b : Int) : Bool := !ltF b a
def natOp (op : BinOp) (a b : Nat) : Option Nat := match op with
  | .and => some (a &&& b)
  | .or => some (a ||| b)
  | .xor => some (a ^^^ b)
  | _ => none
/-- A number's least and greatest value. -/
def bounds : EV → Option (IntKind × Int × Int)
  | .int k n => some (k, n, n)
  | .sint k _ lo hi => some (k, lo, hi)
  | .slen _ lo hi => some (.i64, .ofNat lo, .ofNat hi)
  | _ => none
def cmpB (op : BinOp) (al ah bl bh : Int) : Option Bool := match op with
  | .lss => bif ltF ah bl then some true else bif leF bh al then some false else none
  | .geq => bif ltF ah bl then some false else bif leF bh al then some true else none
  | .gtr => bif ltF bh al then some true else bif leF ah bl then some false else none
  | .leq => bif ltF bh al then some false else bif leF ah bl then some true else none
  | .eql => bif ltF ah bl || ltF bh al then some false else bif eqF al ah && eqF bl bh && eqF al bl then some true else none
  | .neq => bif ltF ah bl || ltF bh al then some true else bif eqF al ah && eqF bl bh && eqF al bl then some false else none
  | _ => none
def intOp (op : BinOp) (k : IntKind) (a b : Int) : Option EV := match op with
  | .add => some (.int k (wrapF k (a + b)))
  | .sub => some (.int k (wrapF k (a - b)))
  | .mul => some (.int k (wrapF k (a * b)))
  | .quo => match a, b with
    | .ofNat x, .ofNat (y + 1) => some (.int k (wrapF k (.ofNat (x / (y + 1)))))
    | _, _ => none
  | .rem => match a, b with
    | .ofNat x, .ofNat (y + 1) => some (.int k (.ofNat (x % (y + 1))))
    | _, _ => none
  | .and | .or | .xor => match a, b with
    | .ofNat x, .ofNat y => match rangeOk k a && rangeOk k b with
      | true => (natOp op x y).map fun n => .int k (.ofNat n)
      | false => none
    | _, _ => none
  | .eql => some (.bool (eqF a b))
  | .neq => some (.bool (!eqF a b))
  | .lss => some (.bool (ltF a b))
  | .leq => some (.bool (leF a b))
  | .gtr => some (.bool (ltF b a))
  | .geq => some (.bool (leF b a))
  | _ => none
def shOp (op : BinOp) (k : IntKind) (a b : Int) : Option EV := match a, b with
  | .ofNat x, .ofNat y => match Nat.ble y k.bits with
    | true => match op with
      | .shl => some (.int k (wrapF k (.ofNat (x * 2 ^ y))))
      | .shr => some (.int k (.ofNat (x / 2 ^ y)))
      | _ => none
    | false => none
  | _, _ => none
def strOp (op : BinOp) (a b : Str) : Option EV := match op with
  | .add => match Nat.ble (a.len + b.len) 9223372036854775807 with
    | true => some (.str (a.cat b))
    | false => none
  | .eql => some (.bool (a.beq b))
  | .neq => some (.bool (!a.beq b))
  | .lss => some (.bool (Op.bytesLess (bytesN a.len a.num) (bytesN b.len b.num)))
  | .leq => some (.bool (Op.bytesLess (bytesN a.len a.num) (bytesN b.len b.num) || a.beq b))
  | .gtr => some (.bool (!(Op.bytesLess (bytesN a.len a.num) (bytesN b.len b.num) || a.beq b)))
  | .geq => some (.bool (!Op.bytesLess (bytesN a.len a.num) (bytesN b.len b.num)))
  | _ => none
/-- A string that is not known, beside one that is: they differ if their lengths do. -/
def symEq (lo hi len : Nat) : Option Bool := bif Nat.blt len lo || Nat.blt hi len then some false else none
mutual
def eqIn (P : Program) : Nat → TypeId → EV → EV → Option Bool
  | 0, _, _, _ => none
  | d + 1, t, x, y => match P.underlying t with
    | some .bool => match x, y with
      | .bool a, .bool b => some (a == b)
      | _, _ => none
    | some (.int _) => match x, y with
      | .int k a, .int k' b => if k = k' then some (eqF a b) else none
      | _, _ => none
    | some .string => match x, y with
      | .str a, .str b => some (a.beq b)
      | .str a, .sstr _ lo hi | .sstr _ lo hi, .str a => symEq lo hi a.len
      | _, _ => none
    | some (.pointer _) => match x, y with
      | .nilp, .nilp => some true
      | .nilp, .ptr _ _ | .ptr _ _, .nilp => some false
      | _, _ => none
    | some (.slice _) => match x, y with
      | .nils, .nils => some true
      | .nils, .slc .. | .slc .., .nils => some false
      | _, _ => none
    | some (.map _ _) => match x, y with
      | .nilm, .nilm => some true
      | .nilm, .map _ | .map _, .nilm => some false
      | _, _ => none
    | some (.func _ _ _) => match x, y with
      | .nilf, .nilf => some true
      | .nilf, .fn .. | .fn .., .nilf => some false
      | _, _ => none
    | some (.struct fs) => match x, y with
      | .agg xs, .agg ys => match P.stoodInHeld t with
        | false => eqFs P d fs.toList xs ys
        | true => none
      | _, _ => none
    | _ => none
def eqFs (P : Program) : Nat → List Field → List EV → List EV → Option Bool
  | 0, _, _, _ => none
  | _ + 1, [], _, _ => some true
  | d + 1, f :: fs, xs, ys => match f.name == "_" with
    | true => none
    | false => match szOf P f.type with
      | none => none
      | some s => match partOf (aggOf P f.type) s f.offset xs, partOf (aggOf P f.type) s f.offset ys with
        | some a, some b => match eqIn P d f.type a b with
          | some true => eqFs P d fs xs ys
          | r => r
        | _, _ => none
end
def guardOk (P : Program) (t : TypeId) : EV → EV → Bool
  | .agg _, .agg _ => !P.eqGuardType P.depth t
  | _, _ => true
def eqOp (P : Program) (op : BinOp) (t : TypeId) (x y : EV) : Option EV := bif !guardOk P t x y then none else match op with
  | .eql => (eqIn P 30 t x y).map .bool
  | .neq => (eqIn P 30 t x y).map fun b => .bool (!b)
  | _ => none
def binEv (P : Program) (op : BinOp) (t : TypeId) (x y : EV) : Option EV := match x, y with
  | .int k a, .int k' b => match op with
    | .shl | .shr => shOp op k a b
    | _ => if k = k' then intOp op k a b else none
  | .str a, .str b => strOp op a b
  | .sstr .., _ | _, .sstr .. => eqOp P op t x y
  | .sint .., _ | _, .sint .. | .slen .., _ | _, .slen .. => match bounds x, bounds y with
    | some (k, al, ah), some (k', bl, bh) => if k = k' then (cmpB op al ah bl bh).map .bool else none
    | _, _ => none
  | _, _ => eqOp P op t x y
def unEv (op : UnOp) (x : EV) : Option EV := match op, x with
  | .not, .bool b => some (.bool (!b))
  | .neg, .int k n => some (.int k (wrapF k (0 - n)))
  | _, _ => none
def convEv (P : Program) (src dst : TypeId) (x : EV) : Option EV := match P.underlying src with
  | none => none
  | some _ => match P.underlying dst, x with
    | some (.int k), .int _ n => some (.int k (wrapF k n))
    | some (.int k), .sint _ i lo hi => match rangeOk k lo && rangeOk k hi with
      | true => some (.sint k i lo hi)
      | false => none
    | some .string, .str s => some (.str s)
    | some .string, .sstr i lo hi => some (.sstr i lo hi)
    | _, _ => none
def idx (n : Int) (len : Nat) : Option Nat := match n with
  | .ofNat i => match Nat.blt i len with
    | true => some i
    | false => none
  | _ => none
def opd (fr : Tr EV) : Operand → Option EV
  | .tmp t => match fr.get t with
    | some .any => none
    | r => r
  | .const v => ofValue v
  | .global _ => none
  | .func f => some (.fn f [] [])
def opds (fr : Tr EV) (l : List Operand) : Option (List EV) := allO (l.map (opd fr))
def bnd (d : Nat) (len : Nat) : Option (Option EV) → Option Nat
  | none => some d
  | some (some (.int _ (.ofNat i))) => match Nat.ble i len with
    | true => some i
    | false => none
  | _ => none
def sliceEv (P : Program) (t : TypeId) (x : EV) (lo hi : Option (Option EV)) : Option EV := match P.underlying t, x with
  | some .string, .str s => match bnd s.len s.len hi with
    | some h => match bnd 0 h lo with
      | some l => some (.str (s.sub l h))
      | none => none
    | none => none
  | some (.slice e), .slc id off len sz => match szOf P e with
    | some s => match Nat.beq s sz, bnd len len hi with
      | true, some h => match bnd 0 h lo with
        | some 0 => some (.slc id off h sz)
        | some (l + 1) => match Nat.blt (l + 1) len with
          | true => some (.slc id (off + (l + 1)) (h - (l + 1)) sz)
          | false => some .any
        | none => none
      | _, _ => none
    | none => none
  | some (.slice e), .nils => match szOf P e, bnd 0 0 hi, bnd 0 0 lo with
    | some _, some 0, some 0 => some .nils
    | _, _, _ => none
  | _, _ => none
/-- The cells of an object that may be read. -/
def Mem.cells {X : Type} (m : Mem X) (id : Nat) : Option (List EV) := match m.h.get id with
  | some (.cells _ cs) => some cs
  | some (.row _ _ cs) => some cs
  | _ => none
def fillEv (place : Nat → Option (Nat × Nat)) (cs : List EV) : List (Nat × EV) → Option (List EV)
  | [] => some cs
  | (i, v) :: r => match place i with
    | none => none
    | some (off, size) => match Nat.beq v.cells.length size with
      | true => match setCells cs off v.cells with
        | some l => fillEv place l r
        | none => none
      | false => none
def partsEv (fr : Tr EV) (ps : List (Nat × Operand)) : Option (List (Nat × EV)) := allO (ps.map fun p => (opd fr p.2).map fun v => (p.1, v))
def repl {α : Type} (l : List α) : Nat → List α
  | 0 => []
  | n + 1 => l ++ repl l n
def byteSlc (P : Program) (t : TypeId) : Bool := match P.underlying t with
  | some (.slice e) => match P.underlying e with
    | some (.int .u8) => true
    | _ => false
  | _ => false
def lenEv (P : Program) (t : TypeId) (x : EV) : Option EV := match P.underlying t, x with
  | some .string, .str s => some (.int .i64 (.ofNat s.len))
  | some .string, .sstr i lo hi => some (.slen i lo hi)
  | some (.array n _), _ => some (.int .i64 (.ofNat n))
  | some (.slice _), .slc _ _ n _ => some (.int .i64 (.ofNat n))
  | some (.slice _), .nils => some (.int .i64 (.ofNat 0))
  | some (.slice _), .asl _ _ n _ => some (.int .i64 (.ofNat n))
  | _, _ => none
/-- Operations that leave memory as it is. -/
def stillEv {X : Type} (P : Program) (o : Oper) (fr : Tr EV) (m : Mem X) : Option EV := match o.op with
  | .move x | .assign x => opd fr x
  | .pick c a b => match opd fr c with
    | some (.bool true) => opd fr a
    | some (.bool false) => opd fr b
    | _ => none
  | .build t ps => match zeroOf P t, partsEv fr ps.toList, placeOf P t with
    | some z, some l, some pl => (fillEv pl z.cells l).map .agg
    | _, _, _ => none
  | .load t x => match opd fr x with
    | some (.ptr id off) => match m.cells id, szOf P t with
      | some cs, some s => partOf (aggOf P t) s off cs
      | _, _ => none
    | _ => none
  | .nilCheck x => match opd fr x with
    | some (.ptr id off) => some (.ptr id off)
    | some (.fn f a c) => some (.fn f a c)
    | _ => none
  | .binOp op t x y _ => match opd fr x, opd fr y with
    | some a, some b => binEv P op t a b
    | _, _ => none
  | .unOp op _ x => match opd fr x with
    | some a => unEv op a
    | none => none
  | .convert src dst x => match opd fr x with
    | some (.slc id 0 n 1) => match P.underlying dst, m.h.get id with
      | some .string, some (.brow s) => match Nat.beq s.len n, byteSlc P src with
        | true, true => some (.str s)
        | _, _ => none
      | _, _ => none
    | some a => convEv P src dst a
    | none => none
  | .makeFunc fn first cap => match fn with
    | .func f => match opds fr first.toList, opds fr cap.toList with
      | some a, some c => some (.fn f a c)
      | _, _ => none
    | _ => none
  | .slice t x lo hi mx => match mx with
    | none => match opd fr x with
      | some (.ptr id off) => match lo, hi, arrOf P t with
        | none, none, some (n, s, _) => some (.asl id off n s)
        | _, _, _ => none
      | some a => sliceEv P t a (lo.map (opd fr)) (hi.map (opd fr))
      | none => none
    | some _ => none
  | .fieldAddr t x i => match opd fr x, fldOf P t i with
    | some (.ptr id off), some (o, s, _) => match s with
      | 0 => none
      | _ + 1 => some (.ptr id (off + o))
    | _, _ => none
  | .field t x i => match opd fr x, fldOf P t i with
    | some (.agg cs), some (o, s, b) => partOf b s o cs
    | _, _ => none
  | .indexAddr t x i => match opd fr x, opd fr i with
    | some (.ptr id off), some (.int _ n) => match arrOf P t with
      | some (len, s, _) => (idx n len).map fun j => .ptr id (off + j * s)
      | none => none
    | some (.slc id off len sz), some (.int _ n) => match slcOf P t with
      | some (_, s) => match Nat.beq s sz with
        | true => (idx n len).map fun j => .ptr id (off * sz + j * s)
        | false => none
      | none => none
    | some (.asl id base len sz), some (.int _ n) => match slcOf P t with
      | some (_, s) => match Nat.beq s sz with
        | true => (idx n len).map fun j => .ptr id (base + j * s)
        | false => none
      | none => none
    | _, _ => none
  | .index t x i => match opd fr x, opd fr i with
    | some (.agg cs), some (.int _ n) => match arrOf P t with
      | some (len, s, b) => match idx n len with
        | some j => partOf b s (j * s) cs
        | none => none
      | none => none
    | some (.str a), some (.int _ n) => match P.underlying t with
      | some .string => (idx n a.len).map fun j => .int .u8 (.ofNat (a.at j))
      | _ => none
    | _, _ => none
  | .extract x i => match opd fr x with
    | some (.tup vs) => vs[i]?
    | _ => none
  | .call c => match c.callee with
    | .builtin .len => match c.argTypes.toList, opds fr c.args.toList with
      | [t], some [x] => lenEv P t x
      | _, _ => none
    | .builtin .min => match opds fr c.args.toList with
      | some [.int k a, .int k' b] => if k = k' then some (.int k (match ltF b a with | true => b | false => a)) else none
      | _ => none
    | _ => none
  | _ => none
/-- Operations that make an object (and turn none). -/
def makeEv {X : Type} (P : Program) (o : Oper) (fr : Tr EV) (id : Nat) : Option (EV × LObj X) := match o.op with
  | .alloc t => match zeroOf P t with
    | some z => some (.ptr id 0, .cells t z.cells)
    | none => none
  | .box t x => match opd fr x with
    | some v => some (.ptr id 0, .cells t v.cells)
    | none => none
  | .convert src dst x => match opd fr x, P.underlying src with
    | some (.str s), some _ => match byteSlc P dst with
      | true => some (.slc id 0 s.len 1, .brow s)
      | false => none
    | _, _ => none
  | .makeSlice t l c => match opd fr l, opd fr c with
    | some (.int _ (.ofNat n)), some (.int _ (.ofNat cap)) => match slcOf P t with
      | some (e, s) => match Nat.ble n cap && Nat.ble cap 9223372036854775807 && Nat.ble (P.bytesOf e * cap) 281474976710656 && Nat.blt 0 s, zeroOf P e with
        | true, some z => match Nat.beq z.cells.length s with
          | true => some (.slc id 0 n s, .row e s (repl z.cells n))
          | false => none
        | _, _ => none
      | none => none
    | _, _ => none
  | .buildSlice t len ps => match slcOf P t, partsEv fr ps.toList with
    | some (e, s), some l => match Nat.ble (len * s) 16777216, zeroOf P e with
      | true, some z => match Nat.blt 0 (len * s) && Nat.beq z.cells.length s, fillEv (fun i => some (i * s, s)) (repl z.cells len) l with
        | true, some cs => some (.slc id 0 len s, .row e s cs)
        | _, _ => none
      | _, _ => none
    | _, _ => none
  | _ => none
def okCells (cs : List EV) : Bool := cs.all EV.one
/-- Stores. -/
def storeEv {X : Type} (P : Program) (t : TypeId) (a v : EV) (m : Mem X) : Option (Mem X) := match a with
  | .ptr id off => match szOf P t with
    | some s => match Nat.beq v.cells.length s && okCells v.cells, m.h.get id with
      | true, some (.cells ty cs) => match setCells cs off v.cells with
        | some l => some (m.upd id (.cells ty l))
        | none => none
      | true, some (.row ty sz cs) => match setCells cs off v.cells with
        | some l => some (m.upd id (.row ty sz l))
        | none => none
      | _, _ => none
    | none => none
  | _ => none
/-- append(s, x..): the old row may not be used any more. -/
def appendEv {X : Type} (P : Program) (t0 t1 : TypeId) (s x : EV) (m : Mem X) : Option (EV × Mem X) := match Nat.beq t0 t1, slcOf P t0, x with
  | true, some (e, sz), .slc id off k sz' => match Nat.blt 0 sz && Nat.blt 0 k && Nat.beq sz sz', m.cells id, zeroOf P e with
    | true, some cs, some z => match takeN (k * sz) (cs.drop (off * sz)) with
      | some l => match okCells l && Nat.beq z.cells.length sz, s with
        | true, .nils => match Nat.ble (k * P.bytesOf e) 140737488355328 && Nat.ble k 9223372036854775807 with
          | true => some (.slc m.nx 0 k sz, m.new (.row e sz l))
          | false => none
        | true, .slc id0 0 len sz0 => match Nat.beq sz sz0 && Nat.ble ((len + k) * P.bytesOf e) 140737488355328 && Nat.ble (len + k) 9223372036854775807, m.h.get id0 with
          | true, some (.row e' sz'' old) => match Nat.beq e e' && Nat.beq sz sz'', takeN (len * sz) old with
            | true, some o => some (.slc m.nx 0 (len + k) sz, (m.upd id0 .dead).new (.row e sz (o ++ l)))
            | _, _ => none
          | _, _ => none
        | _, _ => none
      | none => none
    | _, _, _ => none
  | _, _, _ => none

/-! ### Code -/
structure Dfr where
  f : Nat
  args : List EV
  cap : List EV
structure St (X : Type) where
  fr : Tr EV
  n : Nat
  m : Mem X
  df : List Dfr
inductive Out where
  | normal | ret
  | exit (id : Nat)
structure Env (X : Type) where
  P : Program
  K : Nat → List EV → Mem X → Option (EV × Mem X)
  /-- functions without a body -/
  B : Nat → List EV → Option EV
  /-- what an iterator gives, one after the other -/
  R : Nat → List EV → List EV → Mem X → Option (List (List EV))

def undefE : EV := .tup []
def St.put {X : Type} (s : St X) (d : Option Tmp) (v : EV) (m : Mem X) : Option (St X) := match d with
  | none => some { s with m := m }
  | some t => match Nat.blt t s.n with
    | true => some { s with fr := s.fr.put t v, m := m }
    | false => none
/-- A call of a function of the program. -/
abbrev Caller (X : Type) := Nat → List EV → Mem X → Option (EV × Mem X)
/-- An operation that is neither still nor one that makes. -/
def turnEv {X : Type} (P : Program) (bl : Nat → List EV → Option EV) (call : Caller X) (o : Oper) (fr : Tr EV) (m : Mem X) : Option (EV × Mem X) := match o.op with
  | .store t a x => match opd fr a, opd fr x with
    | some p, some v => (storeEv P t p v m).map fun m' => (undefE, m')
    | _, _ => none
  | .call c => match c.callee with
    | .value f => match opd fr f, opds fr c.args.toList with
      | some (.fn g a cp), some as => match bl g (a ++ as ++ cp) with
        | some v => some (v, m)
        | none => call g (a ++ as ++ cp) m
      | _, _ => none
    | .builtin .append => match c.argTypes.toList, opds fr c.args.toList with
      | t0 :: t1 :: _, some [s, x] => appendEv P t0 t1 s x m
      | _, _ => none
    | _ => none
  | _ => none
def wantEv (all : List Oper) (fr : Tr EV) (o : Oper) : Option Bool := match o.guard with
  | none => some true
  | some (j, b) => match all[j]? with
    | some q => match q.dst with
      | some t => match fr.get t with
        | some (.bool c) => some (c == b)
        | some (.tup _) => some false
        | _ => none
      | none => none
    | none => none
/-- One operation (no defer). -/
def oneEv {X : Type} (P : Program) (bl : Nat → List EV → Option EV) (call : Caller X) (o : Oper) (fr : Tr EV) (m : Mem X) : Option (EV × Mem X) := match stillEv P o fr m with
  | some v => some (v, m)
  | none => match makeEv P o fr m.nx with
    | some (v, ob) => some (v, m.new ob)
    | none => turnEv P bl call o fr m
def dfrEv (o : Oper) (fr : Tr EV) : Option Dfr := match o.op with
  | .defer c => match c.callee with
    | .value f => match opd fr f, opds fr c.args.toList with
      | some (.fn g a cp), some as => some ⟨g, a ++ as, cp⟩
      | _, _ => none
    | _ => none
  | _ => none
/-- The operations of a region in the text's order. -/
def opsEv {X : Type} (P : Program) (bl : Nat → List EV → Option EV) (call : Caller X) (all : List Oper) : List Oper → St X → Option (St X)
  | [], s => some s
  | o :: l, s => match wantEv all s.fr o with
    | none => none
    | some false => match s.put o.dst undefE s.m with
      | some s' => opsEv P bl call all l s'
      | none => none
    | some true => match oneEv P bl call o s.fr s.m with
      | some (v, m) => match s.put o.dst v m with
        | some s' => opsEv P bl call all l s'
        | none => none
      | none => match dfrEv o s.fr with
        | some d => match s.put o.dst undefE s.m with
          | some s' => opsEv P bl call all l { s' with df := d :: s'.df }
          | none => none
        | none => none

def resEv {X : Type} (P : Program) (s : St X) : ResultVar → Option EV
  | .tmp t => match s.fr.get t with
    | some .any => none
    | r => r
  | .cell a t => match s.fr.get a with
    | some (.ptr id off) => match s.m.cells id, szOf P t with
      | some cs, some z => partOf (aggOf P t) z off cs
      | _, _ => none
    | _ => none
def resultsEv {X : Type} (P : Program) (fn : Func) (s : St X) : Option EV := match allO (fn.results.toList.map (resEv P s)) with
  | some [v] => some v
  | some vs => some (.tup vs)
  | none => none
def argsTr : List EV → Nat → Tr EV → Tr EV
  | [], _, t => t
  | v :: l, i, t => argsTr l (i + 1) (t.put i v)
/-- Deferred calls, the last one first. -/
def runDf {X : Type} (call : Caller X) : List Dfr → Mem X → Option (Mem X)
  | [], m => some m
  | d :: l, m => match call d.f (d.args ++ d.cap) m with
    | some (_, m') => runDf call l m'
    | none => none
/-- A call, with the way to run a body. -/
def bodyEv {X : Type} (E : Env X) (run : Code → St X → Option (Out × St X)) (call : Caller X) (f : Nat) (args : List EV) (m : Mem X) : Option (EV × Mem X) := match E.P.funcs[f]? with
  | none => none
  | some fn => match fn.body with
    | none => none
    | some c => match run c ⟨argsTr args 0 .nil, max args.length fn.ntmps, m, []⟩ with
      | some (.normal, s) | some (.ret, s) => match runDf call s.df s.m with
        | some m' => match resultsEv E.P fn { s with m := m' } with
          | some v => some (v, m')
          | none => none
        | none => none
      | _ => none
def callEv {X : Type} (E : Env X) (run : Code → St X → Option (Out × St X)) (f : Nat) (args : List EV) (m : Mem X) : Option (EV × Mem X) := match E.K f args m with
  | some r => some r
  | none => bodyEv E run (bodyEv E run (fun _ _ _ => none)) f args m
def putAll {X : Type} : List Tmp → List EV → St X → Option (St X)
  | [], [], s => some s
  | t :: ts, v :: vs, s => match s.put (some t) v s.m with
    | some s' => putAll ts vs s'
    | none => none
  | _, _, _ => none
/-- A loop over an iterator. -/
def rangeEv {X : Type} (run : Code → St X → Option (Out × St X)) (ps : List Tmp) (a b : Code) : List (List EV) → St X → Option (Out × St X)
  | [], s => some (.normal, s)
  | y :: ys, s => match putAll ps y s with
    | none => none
    | some s1 => match run a s1 with
      | some (.normal, s2) => match run b s2 with
        | some (.normal, s3) => rangeEv run ps a b ys s3
        | r => r
      | _ => none
/-- Code, with so many steps at most; the way to run a region that draws its order is given. -/
def ev {X : Type} (E : Env X) (dr : Caller X → List Oper → St X → Option (St X)) : Nat → Code → St X → Option (Out × St X)
  | 0, _, _ => none
  | n + 1, c, s => match c with
    | .skip | .label _ => some (.normal, s)
    | .ret => some (.ret, s)
    | .exit id => some (.exit id, s)
    | .seq a b => match ev E dr n a s with
      | some (.normal, s') => ev E dr n b s'
      | r => r
    | .cond x a b => match opd s.fr x with
      | some (.bool true) => ev E dr n a s
      | some (.bool false) => ev E dr n b s
      | _ => none
    | .block id a => match ev E dr n a s with
      | some (.exit j, s') => match Nat.beq j id with
        | true => some (.normal, s')
        | false => some (.exit j, s')
      | r => r
    | .loop a => match ev E dr n a s with
      | some (.normal, s') => ev E dr n (.loop a) s'
      | r => r
    | .scope a => ev E dr n a s
    | .region _ ops false => match opsEv E.P E.B (callEv E (ev E dr n)) ops.toList ops.toList s with
      | some s' => some (.normal, s')
      | none => none
    | .region _ ops true => match dr (callEv E (ev E dr n)) ops.toList s with
      | some s' => some (.normal, s')
      | none => none
    | .rangeFunc f ps a b => match opd s.fr f with
      | some (.fn g l c) => match E.R g l c s.m with
        | some ys => rangeEv (ev E dr n) ps.toList a b ys s
        | none => none
      | _ => none
    | _ => none
end Ev
end Go.Proofs.YtmpokappjogehaaGreatDoor
