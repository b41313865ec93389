/-
  AM, part 1: the abstract machine's values. Pure data by type codes ('Ty'), values without addresses ('AV'), blocks by small numbers ('AB').
-/
import GoSem.Core.Program
namespace Go.AM

abbrev Str := List UInt8

/-- A value of package api's Value: the one type of the program that is nested in itself. -/
inductive GVal where
  | mk (kind n : Int) (s : Str) (items : List GVal) (names : List Str)
deriving Inhabited
namespace GVal
def kind : GVal → Int | mk k _ _ _ _ => k
def n : GVal → Int | mk _ n _ _ _ => n
def s : GVal → Str | mk _ _ s _ _ => s
def items : GVal → List GVal | mk _ _ _ l _ => l
def names : GVal → List Str | mk _ _ _ _ l => l
end GVal

inductive Ty where
  | unit
  | int (k : IntKind)
  | bool
  | str
  | pair (a b : Ty)
  | sl (t : Ty)
  | val
deriving DecidableEq, Inhabited

@[reducible] def Ty.den : Ty → Type
  | .unit => Unit
  | .int _ => Int
  | .bool => Bool
  | .str => Str
  | .pair a b => a.den × b.den
  | .sl t => List t.den
  | .val => GVal

def Ty.sz : Ty → Nat
  | .unit => 0
  | .pair a b => a.sz + b.sz
  | .val => 5
  | _ => 1

/-- A value without addresses. -/
inductive AV where
  | junk
  | t
  | f
  | bool (b : Bool)
  | int (k : IntKind) (n : Int)
  | str (s : Str)
  | nilsl
  | sl (t : Ty) (l : List t.den) (full : Bool)
  | own (t : Ty) (b : Nat) (full : Bool)
  | ptr (b j : Nat)
  | eptr (t : Ty) (b i j : Nat)
  | iptr (t : Ty) (x : t.den) (j : Nat)
  | nilptr
  | agg (cs : List AV)
  | tup (vs : List AV)
  | fn (f : Fn) (first captured : List AV)
  | nilfn
  | iface (t : TypeId) (v : AV)
  | niliface
  | mptr (b : Nat)
  | fmap (k v : Ty) (l : List (k.den × v.den))
deriving Inhabited

/-- A block: a variable's cells; an array's elements ('free': they may still be written). -/
inductive AB where
  | hole
  | gone
  | var (cs : List AV)
  | arr (t : Ty) (l : List t.den) (free : Bool)
  | mp (k v : Ty) (l : List (k.den × v.den))
deriving Inhabited

def AV.cells : AV → List AV
  | .agg cs => cs
  | v => [v]

def cellsOf : (t : Ty) → t.den → List AV
  | .unit, _ => []
  | .int k, n => [.int k n]
  | .bool, b => [.bool b]
  | .str, s => [.str s]
  | .pair a b, x => cellsOf a x.1 ++ cellsOf b x.2
  | .sl t, l => [.sl t l false]
  | .val, v => [.int .i64 v.kind, .int .i64 v.n, .str v.s, .sl .val v.items false, .sl .str v.names false]

/-- The zero of a type. -/
def Ty.zero : (t : Ty) → t.den
  | .unit => ()
  | .int _ => 0
  | .bool => false
  | .str => []
  | .pair a b => (a.zero, b.zero)
  | .sl _ => []
  | .val => .mk 0 0 [] [] []

/-- The data that cells are, and the cells behind it. -/
def dec : (t : Ty) → List AV → Option (t.den × List AV)
  | .unit, cs => some ((), cs)
  | .int k, .int k' n :: r => if k' = k then some (n, r) else none
  | .bool, .t :: r => some (true, r)
  | .bool, .f :: r => some (false, r)
  | .bool, .bool b :: r => some (b, r)
  | .str, .str s :: r => some (s, r)
  | .sl t, .sl t' l _ :: r => if h : t' = t then some (h ▸ l, r) else none
  | .sl _, .nilsl :: r => some ([], r)
  | .pair a b, cs =>
    match dec a cs with
    | some (x, r) => match dec b r with
      | some (y, r') => some ((x, y), r')
      | none => none
    | none => none
  | .val, .int k1 k :: .int k2 n :: .str s :: i :: m :: r =>
    if k1 = .i64 ∧ k2 = .i64 then
      match (match i with | .sl .val l _ => some l | .nilsl => some [] | _ => none), (match m with | .sl .str l _ => some l | .nilsl => some [] | _ => none) with
      | some li, some lm => some (.mk k n s li lm, r)
      | _, _ => none
    else none
  | _, _ => none

def decAll (t : Ty) (cs : List AV) : Option t.den :=
  match dec t cs with
  | some (x, []) => some x
  | _ => none

/-- A type as the machine asks of it. -/
inductive UD where
  | int (k : IntKind)
  | bool
  | str
  | slice (e : TypeId)
  | array (n : Nat) (e : TypeId)
  | ptr (e : TypeId)
  | struct (fs : List (TypeId × Nat))
  | map (k v : TypeId)
  | other
deriving Inhabited

structure TI where
  size : Nat
  bytes : Nat
  ud : UD
  ty : Option Ty
  zero : List AV
/-- What is said of a type that the table lacks: nothing fits it. -/
instance : Inhabited TI := ⟨⟨1099511627776, 0, .other, none, []⟩⟩

def UD.isOther : UD → Bool
  | .other => true
  | _ => false
/-- Is it a type that the table has? -/
def TI.kn (ti : TI) : Bool := Nat.ble ti.size 1000000 || !ti.ud.isOther
def UD.isAgg : UD → Bool
  | .struct _ | .array _ _ => true
  | _ => false

/-- A plain datum: what a map's keys and elements are here. -/
def scal : (t : Ty) → AV → Option t.den
  | .int k, .int k' n => match decEq k' k with | isTrue _ => some n | isFalse _ => none
  | .str, .str s => some s
  | .bool, .t => some true
  | .bool, .f => some false
  | .bool, .bool b => some b
  | _, _ => none
def scalAV : (t : Ty) → t.den → AV
  | .int k, n => .int k n
  | .str, s => .str s
  | .bool, b => .bool b
  | _, _ => .junk
def isKey : Ty → Bool
  | .int _ | .str => true
  | _ => false
def isScal : Ty → Bool
  | .int _ | .str | .bool => true
  | _ => false
/-- What a map's elements are here: plain data, or some in a struct. -/
def isFlat : Ty → Bool
  | .int _ | .str | .bool => true
  | .pair a b => isFlat a && isFlat b
  | _ => false
def flat : (t : Ty) → List AV → Option (t.den × List AV)
  | .pair a b, cs => match flat a cs with
    | some (x, r) => match flat b r with
      | some (y, r') => some ((x, y), r')
      | none => none
    | none => none
  | t, cs => match cs with
    | v :: r => match scal t v with | some x => some (x, r) | none => none
    | [] => none
def elD : (t : Ty) → AV → Option t.den
  | .pair a b, v => match v with
    | .agg cs => match flat (.pair a b) cs with | some (x, []) => some x | _ => none
    | _ => none
  | t, v => scal t v
def flatAV : (t : Ty) → t.den → List AV
  | .pair a b, x => flatAV a x.1 ++ flatAV b x.2
  | t, x => [scalAV t x]
def elAV : (t : Ty) → t.den → AV
  | .pair a b, x => .agg (flatAV (.pair a b) x)
  | t, x => scalAV t x
def keyB : (t : Ty) → t.den → t.den → Bool
  | .int _, a, b => (a : Int) == b
  | .str, a, b => (a : Str) == b
  | _, _, _ => false
def mget (k v : Ty) (x : k.den) : List (k.den × v.den) → v.den
  | [] => v.zero
  | (a, b) :: r => match keyB k x a with | true => b | false => mget k v x r
def mhas (k v : Ty) (x : k.den) : List (k.den × v.den) → Bool
  | [] => false
  | (a, _) :: r => match keyB k x a with | true => true | false => mhas k v x r
def mset (k v : Ty) (x : k.den) (y : v.den) : List (k.den × v.den) → List (k.den × v.den)
  | [] => [(x, y)]
  | (a, b) :: r => match keyB k x a with | true => (a, y) :: r | false => (a, b) :: mset k v x y r

/-- A range over a map under way: the entry that it is at (is it at one?), those that are to come. -/
def itNew (k v : Ty) (l : List (k.den × v.den)) : List ((Bool × k.den) × v.den) := ((false, k.zero), v.zero) :: l.map fun x => ((false, x.1), x.2)
def itGet (k v : Ty) (l : List ((Bool × k.den) × v.den)) (j : Nat) : (Bool × k.den) × v.den := (l.tail[j]?).getD ((false, k.zero), v.zero)
def itPut (k v : Ty) (l : List ((Bool × k.den) × v.den)) (j : Nat) : List ((Bool × k.den) × v.den) := ((true, (itGet k v l j).1.2), (itGet k v l j).2) :: l.tail.eraseIdx j
end Go.AM
