/-
  AM, part 2: what an operation comes to over values without addresses ('fCore'): a plain function of its operands' values and of the blocks that they name.
-/
import Derived.Calls
import Derived.Test.YtfcigmcjgaipmaaDoorBMDom
namespace Go.AM

structure Env where
  P : Program
  tab : List TI
  raw : List FuncId
  eqs : List TypeId
  /-- Tables of numbers, by their variables. -/
  tabs : List (Nat × (IntKind × List Int)) := []
  /-- Is a text's row of bytes one's own? -/
  ob : Bool := false

def Env.ti (E : Env) (t : TypeId) : TI := E.tab.getD t default

abbrev Slots := List (Nat × AV)
abbrev Heap := List AB

def lkp (i : Nat) : List (Nat × AV) → AV
  | [] => .junk
  | (j, v) :: r => match Nat.beq i j with | true => v | false => lkp i r

def sput (s : Slots) (d : Option Nat) (v : AV) : Slots :=
  match d with
  | some d => (d, v) :: s
  | none => s
def hget (h : List AB) (b : Nat) : AB := h.getD b .hole
/-- A block is written (or laid: the blocks between are then gone). -/
def hput : List AB → Nat → AB → List AB
  | [], 0, v => [v]
  | [], b + 1, v => .hole :: hput [] b v
  | _ :: r, 0, v => v :: r
  | x :: r, b + 1, v => x :: hput r b v
def hputs (h : List AB) : List (Nat × AB) → List AB
  | [] => h
  | (b, v) :: r => hputs (hput h b v) r

/-- A constant, at a type. -/
def ofConst (ti : TI) : Value → AV
  | .bool true => .t
  | .bool false => .f
  | .int k n => .int k n
  | .string s => .str s.data.toList
  | .slice none 0 0 => match ti.ty with | some (.sl t) => .sl t [] true | _ => .nilsl
  | .pointer none => .nilptr
  | .nilFunc => .nilfn
  | .nilIface => .niliface
  | _ => .junk

def ev (E : Env) (s : Slots) (t : TypeId) : Operand → AV
  | .tmp i => lkp i s
  | .const v => ofConst (E.ti t) v
  | .func f => .fn (.func f) [] []
  | .global _ => .junk

/-- A condition that can be reckoned. -/
structure DP where
  p : Prop
  d : Decidable p
instance (p : Prop) [d : Decidable p] : CoeDep Prop p DP := ⟨⟨p, d⟩⟩
/-- What an operation hands on: the value, blocks that it writes, what must hold. -/
structure FR where
  v : AV
  ws : List (Nat × AB)
  cs : List DP

def chk (b : Bool) (r : Option FR) : Option FR := match b with | true => r | false => none

def andM : List DP → Prop → Prop
  | [], p => p
  | c :: r, p => c.p ∧ andM r p
/-- All of them, and that. (Without a step of its own where there are few: so a proof meets none.) -/
def andL (cs : List DP) (p : Prop) : Prop :=
  match cs with
  | [] => p
  | [a] => a.p ∧ p
  | [a, b] => a.p ∧ (b.p ∧ p)
  | [a, b, c] => a.p ∧ (b.p ∧ (c.p ∧ p))
  | [a, b, c, d] => a.p ∧ (b.p ∧ (c.p ∧ (d.p ∧ p)))
  | cs => andM cs p

def setAt (cs : List AV) (j : Nat) : List AV → List AV
  | [] => cs
  | v :: r => setAt (cs.set j v) (j + 1) r

/-- As one value at a type. -/
def asVal (ti : TI) (cs : List AV) : Option FR :=
  match ti.ud.isAgg with
  | true => some ⟨.agg cs, [], []⟩
  | false => match cs with | [v] => some ⟨v, [], []⟩ | _ => none

/-- Is it a value whose cells are told? -/
def plainA : AV → Bool
  | .junk => false
  | .tup _ => false
  | _ => true
/-- A cell that may be stored. -/
def oneA : AV → Bool
  | .junk => false
  | .tup _ => false
  | .agg _ => false
  | _ => true

/-- The blocks of slices that cells hold. -/
def ownsOf : List AV → List Nat
  | [] => []
  | .own _ b _ :: r => b :: ownsOf r
  | _ :: r => ownsOf r
def ownsOfVs : List AV → List Nat
  | [] => []
  | v :: r => ownsOf v.cells ++ ownsOfVs r

/-- The writes by which blocks may be written no more. -/
def frz (g : Nat → AB) : List Nat → List (Nat × AB)
  | [] => []
  | b :: r => match g b with
    | .arr t l _ => (b, .arr t l false) :: frz g r
    | _ => frz g r

/-- A cell, its slice's row as data. -/
def res1 (g : Nat → AB) : AV → AV
  | .own t b full =>
    match g b with
    | .arr t' l _ => if e : t' = t then .sl t (e ▸ l) full else .junk
    | _ => .junk
  | v => v
def res (g : Nat → AB) : AV → AV
  | .agg cs => .agg (cs.map (res1 g))
  | v => res1 g v

/-- An element. -/
@[irreducible] def elt (t : Ty) (l : List t.den) (i : Nat) : t.den := l.getD i t.zero
theorem elt_eq {t : Ty} {l : List t.den} {i : Nat} (h : i < l.length) : elt t l i = l[i] := by
  unfold elt
  simp [List.getD_eq_getElem?_getD, h]
def addC (cs : List DP) : Option FR → Option FR
  | some fr => some ⟨fr.v, fr.ws, cs ++ fr.cs⟩
  | none => none

/-- A row of numbers as an array's cells, and back. -/
def aggInts (k : IntKind) (l : List Int) (i : Nat) : Nat → List AV
  | 0 => []
  | n + 1 => .int k (elt (.int k) l i) :: aggInts k l (i + 1) n
def intsOf (k : IntKind) : List AV → Option (List Int)
  | [] => some []
  | .int k' n :: r => match decEq k' k with
    | isTrue _ => match intsOf k r with | some l => some (n :: l) | none => none
    | isFalse _ => none
  | _ => none
def loadA (ti : TI) (g : Nat → AB) (a : AV) : Option FR :=
  match a with
  | .ptr b j =>
    match g b with
    | .var cs => chk (Nat.ble (j + ti.size) cs.length) (asVal ti ((cs.drop j).take ti.size))
    | .arr (.int k) l _ => chk (Nat.beq j 0 && Nat.ble 1 ti.size && Nat.ble ti.size 1000000) (addC [ti.size ≤ (l : List Int).length] (asVal ti (aggInts k l 0 ti.size)))
    | _ => none
  | .eptr t b i j =>
    match g b with
    | .arr t' l _ =>
      if e : t' = t then chk (Nat.ble (j + ti.size) t.sz) (addC [i < (e ▸ l : List t.den).length] (asVal ti (((cellsOf t (elt t (e ▸ l) i)).drop j).take ti.size)))
      else none
    | _ => none
  | .iptr t x j => chk (Nat.ble (j + ti.size) t.sz) (asVal ti (((cellsOf t x).drop j).take ti.size))
  | _ => none

def storeA (ti : TI) (g : Nat → AB) (a v : AV) : Option FR :=
  match a with
  | .ptr b j =>
    match g b with
    | .var cs => chk (plainA v && v.cells.all oneA && Nat.beq v.cells.length ti.size && Nat.ble (j + ti.size) cs.length && Nat.ble ti.size 1000000) (some ⟨.junk, [(b, .var (setAt cs j v.cells))], []⟩)
    | .arr (.int k) l true => match intsOf k v.cells with
      | some l' => chk (plainA v && Nat.beq j 0 && Nat.ble 1 ti.size && Nat.beq v.cells.length ti.size && Nat.ble ti.size 1000000) (some ⟨.junk, [(b, .arr (.int k) l' true)], [(l : List Int).length = ti.size]⟩)
      | none => none
    | _ => none
  | .eptr t b i j =>
    match g b with
    | .arr t' l true =>
      if e : t' = t then
        match decAll t (setAt (cellsOf t (elt t (e ▸ l) i)) j (v.cells.map (res1 g))) with
        | some y => chk (plainA v && v.cells.all oneA && Nat.beq v.cells.length ti.size && Nat.ble (j + ti.size) t.sz && Nat.ble ti.size 1000000 && !(ownsOf v.cells).contains b) (some ⟨.junk, frz g (ownsOf v.cells) ++ [(b, .arr t ((e ▸ l : List t.den).set i y) true)], [i < (e ▸ l : List t.den).length]⟩)
        | none => none
      else none
    | _ => none
  | _ => none

def addPtr (a : AV) (n : Nat) : Option AV :=
  match a with
  | .ptr b j => some (.ptr b (j + n))
  | .eptr t b i j => some (.eptr t b i (j + n))
  | .iptr t x j => some (.iptr t x (j + n))
  | _ => none

/-- A literal's parts, laid over zeros. -/
def fillA (place : Nat → Option (Nat × Nat)) (cs : List AV) : List (Nat × AV) → Option (List AV)
  | [] => some cs
  | (i, v) :: r =>
    match place i with
    | none => none
    | some (off, size) =>
      match plainA v && Nat.beq v.cells.length size && Nat.ble (off + size) cs.length with
      | true => fillA place (setAt cs off v.cells) r
      | false => none

def structPlace (E : Env) (fs : List (TypeId × Nat)) (i : Nat) : Option (Nat × Nat) :=
  match fs[i]? with
  | some (t, off) => some (off, (E.ti t).size)
  | none => none
def fieldTy (ud : UD) (i : Nat) : TypeId :=
  match ud with
  | .struct fs => match fs[i]? with | some (t, _) => t | none => 0
  | .array _ e => e
  | .slice e => e
  | _ => 0

/-- Elements out of a literal's parts. -/
def setRow (t : Ty) (g : Nat → AB) (l : List t.den) : List (Nat × AV) → Option (List t.den)
  | [] => some l
  | (i, v) :: r =>
    match plainA v && Nat.blt i l.length, decAll t (v.cells.map (res1 g)) with
    | true, some x => setRow t g (l.set i x) r
    | _, _ => none

@[reducible] def sumOk (n bytes : Nat) : Prop := n * bytes ≤ 140737488355328 ∧ n ≤ 140737488355328

/-- What slices hold: as data. -/
def rowOf (g : Nat → AB) (t : Ty) : AV → Option (List t.den)
  | .sl t' l _ => if e : t' = t then some (e ▸ l) else none
  | .nilsl => some []
  | .own t' b _ =>
    match g b with
    | .arr u l _ => if e : t' = t ∧ u = t then some (e.2 ▸ l) else none
    | _ => none
  | _ => none

def appendA (ti : TI) (g : Nat → AB) (b0 : Nat) (bytes : Nat) (x y : AV) : Option FR :=
  match ti.ty with
  | some (.sl t) =>
    chk (Nat.ble 1 t.sz) (match rowOf g t y with
    | some ys =>
      match x with
      | .sl t' xs full =>
        if e : t' = t then
          some ⟨.own t b0 false, [(b0, .arr t ((e ▸ xs : List t.den) ++ ys) true)], [full = true, xs.length = 0 ∨ 0 < ys.length, sumOk (xs.length + ys.length) bytes]⟩
        else none
      | .nilsl => some ⟨.own t b0 false, [(b0, .arr t ys true)], [sumOk ys.length bytes]⟩
      | .own t' b _ =>
        match g b with
        | .arr u l fr => if e : t' = t ∧ u = t then
            some ⟨.own t b0 false, [(b, .gone), (b0, .arr t ((e.2 ▸ l : List t.den) ++ ys) fr)], [sumOk (l.length + ys.length) bytes]⟩
          else none
        | _ => none
      | _ => none
    | none => none)
  | _ => none

def lenA (ud : UD) (g : Nat → AB) (x : AV) : Option FR :=
  match ud, x with
  | .str, .str s => some ⟨.int .i64 (s.length : Int), [], []⟩
  | .slice _, .sl _ l _ => some ⟨.int .i64 (l.length : Int), [], []⟩
  | .slice _, .nilsl => some ⟨.int .i64 0, [], []⟩
  | .slice _, .own _ b _ => match g b with
    | .arr _ l _ => some ⟨.int .i64 (l.length : Int), [], []⟩
    | _ => none
  | _, _ => none

def bAnd : AV → Option Bool
  | .t => some true
  | .f => some false
  | .bool b => some b
  | _ => none

/-- '==' of a struct's cells, field by field (each of one cell). -/
def eqF (E : Env) : List (TypeId × Nat) → Nat → List AV → List AV → Option Bool
  | [], _, [], [] => some true
  | (t, o) :: fs, k, x :: r, y :: r' =>
    match Nat.beq o k && Nat.beq (E.ti t).size 1, (E.ti t).ud, x, y with
    | true, .int _, .int k1 a, .int k2 b => match decEq k1 k2 with
      | isTrue _ => match eqF E fs (k + 1) r r' with | some t => some (a == b && t) | none => none
      | isFalse _ => none
    | true, .str, .str a, .str b => match eqF E fs (k + 1) r r' with | some t => some (a == b && t) | none => none
    | true, .bool, x, y => match bAnd x, bAnd y, eqF E fs (k + 1) r r' with
      | some a, some b, some t => some (a == b && t)
      | _, _, _ => none
    | _, _, _, _ => none
  | _, _, _, _ => none
def eqT (E : Env) (ud : UD) (xs ys : List AV) : Option Bool :=
  match ud with
  | .struct fs => eqF E fs 0 xs ys
  | .array n e => match Nat.beq (E.ti e).size 1 with
    | true => eqF E ((List.range n).map fun i => (e, i)) 0 xs ys
    | false => none
  | _ => none

def iand (k : IntKind) (a b : Int) : Int := k.wrap ((BitVec.ofInt k.bits a &&& BitVec.ofInt k.bits b).toNat : Int)
def ior (k : IntKind) (a b : Int) : Int := k.wrap ((BitVec.ofInt k.bits a ||| BitVec.ofInt k.bits b).toNat : Int)
def ixor (k : IntKind) (a b : Int) : Int := k.wrap ((BitVec.ofInt k.bits a ^^^ BitVec.ofInt k.bits b).toNat : Int)
def iandn (k : IntKind) (a b : Int) : Int := k.wrap ((BitVec.ofInt k.bits a &&& ~~~ BitVec.ofInt k.bits b).toNat : Int)
def ishl (k : IntKind) (a b : Int) : Int := k.wrap (a * 2 ^ (min b.toNat k.bits))
def ishr (k : IntKind) (a b : Int) : Int := a.fdiv (2 ^ (min b.toNat k.bits))

def binA (E : Env) (ty : TypeId) (op : BinOp) (x y : AV) : Option FR :=
  match x, y with
  | .int k a, .int k' b =>
    match op with
    | .add => match decEq k k' with | isTrue _ => some ⟨.int k (k.wrap (a + b)), [], []⟩ | isFalse _ => none
    | .sub => match decEq k k' with | isTrue _ => some ⟨.int k (k.wrap (a - b)), [], []⟩ | isFalse _ => none
    | .mul => match decEq k k' with | isTrue _ => some ⟨.int k (k.wrap (a * b)), [], []⟩ | isFalse _ => none
    | .quo => match decEq k k' with | isTrue _ => some ⟨.int k (k.wrap (a.tdiv b)), [], [b ≠ 0]⟩ | isFalse _ => none
    | .rem => match decEq k k' with | isTrue _ => some ⟨.int k (a.tmod b), [], [b ≠ 0]⟩ | isFalse _ => none
    | .eql => match decEq k k' with | isTrue _ => some ⟨.bool (a == b), [], []⟩ | isFalse _ => none
    | .neq => match decEq k k' with | isTrue _ => some ⟨.bool (a != b), [], []⟩ | isFalse _ => none
    | .lss => match decEq k k' with | isTrue _ => some ⟨.bool (decide (a < b)), [], []⟩ | isFalse _ => none
    | .leq => match decEq k k' with | isTrue _ => some ⟨.bool (decide (a ≤ b)), [], []⟩ | isFalse _ => none
    | .gtr => match decEq k k' with | isTrue _ => some ⟨.bool (decide (a > b)), [], []⟩ | isFalse _ => none
    | .geq => match decEq k k' with | isTrue _ => some ⟨.bool (decide (a ≥ b)), [], []⟩ | isFalse _ => none
    | .and => match decEq k k' with | isTrue _ => some ⟨.int k (iand k a b), [], []⟩ | isFalse _ => none
    | .or => match decEq k k' with | isTrue _ => some ⟨.int k (ior k a b), [], []⟩ | isFalse _ => none
    | .xor => match decEq k k' with | isTrue _ => some ⟨.int k (ixor k a b), [], []⟩ | isFalse _ => none
    | .andNot => match decEq k k' with | isTrue _ => some ⟨.int k (iandn k a b), [], []⟩ | isFalse _ => none
    | .shl => some ⟨.int k (ishl k a b), [], [0 ≤ b]⟩
    | .shr => some ⟨.int k (ishr k a b), [], [0 ≤ b]⟩
  | .str a, .str b =>
    match op with
    | .add => some ⟨.str (a ++ b), [], [a.length + b.length ≤ 9223372036854775807]⟩
    | .eql => some ⟨.bool (a == b), [], []⟩
    | .neq => some ⟨.bool (a != b), [], []⟩
    | .lss => some ⟨.bool (Op.bytesLess a b), [], []⟩
    | .leq => some ⟨.bool (Op.bytesLess a b || a == b), [], []⟩
    | .gtr => some ⟨.bool (!(Op.bytesLess a b || a == b)), [], []⟩
    | .geq => some ⟨.bool (!(Op.bytesLess a b)), [], []⟩
    | _ => none
  | .agg xs, .agg ys =>
    chk (E.eqs.contains ty) (match op, eqT E (E.ti ty).ud xs ys with
    | .eql, some b => some ⟨.bool b, [], []⟩
    | .neq, some b => some ⟨.bool (!b), [], []⟩
    | _, _ => none)
  | x, y =>
    match (E.ti ty).ud, op, bAnd x, bAnd y with
    | .bool, .eql, some a, some b => some ⟨.bool (a == b), [], []⟩
    | .bool, .neq, some a, some b => some ⟨.bool (!(a == b)), [], []⟩
    | _, _, _, _ => none

def unA (op : UnOp) (x : AV) : Option FR :=
  match op, x with
  | .not, .t => some ⟨.f, [], []⟩
  | .not, .f => some ⟨.t, [], []⟩
  | .not, .bool b => some ⟨.bool (!b), [], []⟩
  | .neg, .int k n => some ⟨.int k (k.wrap (0 - n)), [], []⟩
  | .xor, .int k n => some ⟨.int k (ixor k (bif k.signed then -1 else k.max) n), [], []⟩
  | _, _ => none

def pickA (c a b : AV) : Option FR :=
  match c with
  | .t => some ⟨a, [], []⟩
  | .f => some ⟨b, [], []⟩
  | .bool t => match bAnd a, bAnd b with
    | some x, some y => some ⟨.bool (bif t then x else y), [], []⟩
    | _, _ => match a, b with
      | .int k x, .int k' y => match decEq k k' with | isTrue _ => some ⟨.int k (bif t then x else y), [], []⟩ | isFalse _ => none
      | .str x, .str y => some ⟨.str (bif t then x else y), [], []⟩
      | _, _ => none
  | _ => none

/-- s[lo:hi:max]. -/
def sliceA (ud : UD) (E : Env) (g : Nat → AB) (x : AV) (lo hi mx : Option AV) : Option FR :=
  match (match lo with | none => some (0 : Int) | some (.int _ n) => some n | _ => none) with
  | none => none
  | some l =>
    match ud, x with
    | .str, .str s =>
      match mx, (match hi with | none => some (s.length : Int) | some (.int _ n) => some n | _ => none) with
      | none, some h => some ⟨.str ((s.take h.toNat).drop l.toNat), [], [0 ≤ l, l ≤ h, h ≤ (s.length : Int)]⟩
      | _, _ => none
    | .slice e, .sl t s full =>
      chk (Nat.beq (E.ti e).size t.sz && Nat.ble (E.ti e).size 1000000) (match (match hi with | none => some (s.length : Int) | some (.int _ n) => some n | _ => none) with
      | none => none
      | some h =>
        match mx with
        | none => some ⟨.sl t ((s.take h.toNat).drop l.toNat) (full && decide (h = (s.length : Int))), [], [0 ≤ l, l ≤ h, h ≤ (s.length : Int)]⟩
        | some (.int _ m) => some ⟨.sl t ((s.take h.toNat).drop l.toNat) (decide (h = m)), [], [0 ≤ l, l ≤ h, h ≤ m, m ≤ (s.length : Int)]⟩
        | _ => none)
    | .slice e, .own t b full =>
      chk (Nat.beq (E.ti e).size t.sz && Nat.ble (E.ti e).size 1000000) (match g b with
      | .arr t' s _ =>
        if e : t' = t then
          match (match hi with | none => some (s.length : Int) | some (.int _ n) => some n | _ => none) with
          | none => none
          | some h =>
            match mx with
            | none => some ⟨.sl t (((e ▸ s : List t.den).take h.toNat).drop l.toNat) (full && decide (h = (s.length : Int))), [(b, .arr t (e ▸ s) false)], [0 ≤ l, l ≤ h, h ≤ (s.length : Int)]⟩
            | some (.int _ m) => some ⟨.sl t (((e ▸ s : List t.den).take h.toNat).drop l.toNat) (decide (h = m)), [(b, .arr t (e ▸ s) false)], [0 ≤ l, l ≤ h, h ≤ m, m ≤ (s.length : Int)]⟩
            | _ => none
        else none
      | _ => none)
    | _, _ => none

/-- A long array of numbers: its variable is a block of elements. -/
def bigA (E : Env) (n : Nat) (e : TypeId) : Option IntKind :=
  match Nat.blt 7 n with
  | true => match (E.ti e).ty with | some (.int k) => some k | _ => none
  | false => none
def bigU (E : Env) : UD → Option IntKind
  | .array n e => bigA E n e
  | _ => none
def zInts (k : IntKind) : List AV → Bool
  | [] => true
  | .int k' n :: r => decide (k' = k) && decide (n = 0) && zInts k r
  | _ => false
def tabOf : List (Nat × (IntKind × List Int)) → Nat → Option (IntKind × List Int)
  | [], _ => none
  | (g, x) :: r, q => match Nat.beq g q with | true => some x | false => tabOf r q
/-- A place of a package-level table. -/
def tabAddrA (E : Env) (ud : UD) (q : Nat) (i : AV) : Option FR :=
  match i, ud, tabOf E.tabs q with
  | .int _ i, .array n e, some (k, l) => match (E.ti e).ty with
    | some (.int k') => match decEq k' k with
      | isTrue _ => some ⟨.iptr (.int k) (elt (.int k) l i.toNat) 0, [], [0 ≤ i, i < (n : Int), i < (l.length : Int)]⟩
      | isFalse _ => none
    | _ => none
  | _, _, _ => none
def indexAddrA (E : Env) (ud : UD) (g : Nat → AB) (x i : AV) : Option FR :=
  match i with
  | .int _ i =>
    match ud with
    | .array n e =>
      match bigA E n e, x with
      | some k, .ptr b 0 => some ⟨.eptr (.int k) b i.toNat 0, [], [0 ≤ i, i < (n : Int)]⟩
      | _, x => chk (Nat.ble (E.ti e).size 1000000) (match addPtr x (i.toNat * (E.ti e).size) with
        | some p => some ⟨p, [], [0 ≤ i, i < (n : Int)]⟩
        | none => none)
    | .slice e =>
      match x with
      | .sl t l _ => chk (Nat.beq (E.ti e).size t.sz && Nat.ble (E.ti e).size 1000000) (some ⟨.iptr t (elt t l i.toNat) 0, [], [0 ≤ i, i < (l.length : Int)]⟩)
      | .own t b _ => chk (Nat.beq (E.ti e).size t.sz && Nat.ble (E.ti e).size 1000000) (match g b with
        | .arr _ l _ => some ⟨.eptr t b i.toNat 0, [], [0 ≤ i, i < (l.length : Int)]⟩
        | _ => none)
      | _ => none
    | _ => none
  | _ => none

def bt (s : Str) (i : Int) : Int := ((s.getD i.toNat 0).toNat : Int)

def indexA (E : Env) (ud : UD) (x i : AV) : Option FR :=
  match i with
  | .int _ i =>
    match ud, x with
    | .str, .str s => some ⟨.int .u8 (bt s i), [], [0 ≤ i, i < (s.length : Int)]⟩
    | .array n e, .agg cs => chk (decide (0 ≤ i) && decide (i < (n : Int)) && Nat.ble 1 (E.ti e).size && Nat.ble (E.ti e).size 1000000 && Nat.ble (i.toNat * (E.ti e).size + (E.ti e).size) cs.length) (asVal (E.ti e) ((cs.drop (i.toNat * (E.ti e).size)).take (E.ti e).size))
    | _, _ => none
  | _ => none

def convertA (src dst : TI) (x : AV) : Option FR :=
  match src.ud, dst.ud, x with
  | _, .int k, .int _ n => chk (Nat.ble src.size 1000000) (some ⟨.int k (k.wrap n), [], []⟩)
  | .str, .str, .str s => some ⟨.str s, [], []⟩
  | _, _, _ => none

/-- A text's bytes as numbers, and back. -/
def strBytes (s : Str) : List Int := s.map fun b => (b.toNat : Int)
def bytesStr (l : List Int) : Str := l.map fun n => UInt8.ofNat n.toNat
def isU8 (ti : TI) : Bool := match ti.ud with | .int .u8 => true | _ => false
/-- []byte(s), string(b). -/
def convB (E : Env) (su du : UD) (g : Nat → AB) (b0 : Nat) (x : AV) : Option FR :=
  match su, du, x with
  | .str, .slice e, .str s => chk (isU8 (E.ti e)) (match E.ob with | true => some ⟨.own (.int .u8) b0 false, [(b0, .arr (.int .u8) (strBytes s) true)], []⟩ | false => some ⟨.sl (.int .u8) (strBytes s) false, [], []⟩)
  | .slice e, .str, x => chk (isU8 (E.ti e)) (match rowOf g (.int .u8) x with | some l => some ⟨.str (bytesStr l), [], []⟩ | none => none)
  | _, _, _ => none
def convX (E : Env) (src dst : TI) (g : Nat → AB) (b0 : Nat) (x : AV) : Option FR :=
  match convertA src dst x with
  | some r => some r
  | none => convB E src.ud dst.ud g b0 x

def sameUD : UD → Ty → Bool
  | .int k, .int k' => decide (k = k')
  | .str, .str => true
  | _, _ => false
def tyIs (o : Option Ty) (t : Ty) : Bool := match o with
  | some u => decide (u = t)
  | none => false
def lookupA (E : Env) (ud : UD) (x : AB) (ok : Bool) (i : AV) : Option FR :=
  match ud, x with
  | .map k v, .mp kt vt l => chk (sameUD (E.ti k).ud kt && isFlat vt && tyIs (E.ti v).ty vt) (match scal kt i with
    | some n => match ok with
      | true => some ⟨.tup [elAV vt (mget kt vt n l), .bool (mhas kt vt n l)], [], []⟩
      | false => some ⟨elAV vt (mget kt vt n l), [], []⟩
    | none => none)
  | _, _ => none
def updateA (E : Env) (ud : UD) (b : Nat) (x : AB) (i y : AV) : Option FR :=
  match ud, x with
  | .map k _, .mp kt vt l => chk (sameUD (E.ti k).ud kt) (match scal kt i, elD vt y with
    | some n, some c => some ⟨.junk, [(b, .mp kt vt (mset kt vt n c l))], []⟩
    | _, _ => none)
  | _, _ => none

def isMapUD : UD → Bool
  | .map _ _ => true
  | _ => false

/-- The smallest, from the left. -/
def minFold (a : Int) : List AV → Option Int
  | [] => some a
  | .int _ b :: r => minFold (min a b) r
  | _ => none
def minA : List AV → Option AV
  | .int k a :: r => match minFold a r with | some m => some (.int k m) | none => none
  | _ => none
/-- The largest. -/
def maxFold (a : Int) : List AV → Option Int
  | [] => some a
  | .int _ b :: r => maxFold (max a b) r
  | _ => none
def maxA : List AV → Option AV
  | .int k a :: r => match maxFold a r with | some m => some (.int k m) | none => none
  | _ => none

def zipParts : List (Nat × Operand) → List AV → List (Nat × AV)
  | (i, _) :: r, v :: vs => (i, v) :: zipParts r vs
  | _, _ => []

/-- The operands, each with the type that a constant has there. -/
def opnds (E : Env) (o : Oper) : List (TypeId × Operand) :=
  match o.op with
  | .move x | .assign x => [(o.type, x)]
  | .pick c a b => [(0, c), (o.type, a), (o.type, b)]
  | .box e v => [(e, v)]
  | .build t ps => ps.toList.map fun p => (fieldTy (E.ti t).ud p.1, p.2)
  | .buildSlice t _ ps => ps.toList.map fun p => (fieldTy (E.ti t).ud p.1, p.2)
  | .load _ a => [(0, a)]
  | .store t a v => [(0, a), (t, v)]
  | .nilCheck x => [(0, x)]
  | .binOp _ t x y u => [(t, x), (u, y)]
  | .unOp _ t x => [(t, x)]
  | .convert s _ x => [(s, x)]
  | .makeInterface t x => [(t, x)]
  | .makeFunc _ a b => a.toList.map (fun x => (0, x)) ++ b.toList.map (fun x => (0, x))
  | .makeSlice _ a b => [(0, a), (0, b)]
  | .slice t x l h m => (t, x) :: (l.toList ++ h.toList ++ m.toList).map fun x => (0, x)
  | .fieldAddr _ x _ => [(0, x)]
  | .field t x _ => [(t, x)]
  | .indexAddr t x i => [(t, x), (0, i)]
  | .index t x i => [(t, x), (0, i)]
  | .extract x _ => [(0, x)]
  | .lookup t x i _ => [(t, x), (0, i)]
  | .mapUpdate t m k x => [(t, m), (0, k), (0, x)]
  | .range t x => [(t, x)]
  | .entry x => [(0, x)]
  | .insert t m k x => [(t, m), (0, k), (0, x)]
  | .call c => c.args.toList.zip c.argTypes.toList |>.map fun p => (p.2, p.1)
  | _ => []

def evs (E : Env) (s : Slots) : List (TypeId × Operand) → List AV
  | [] => []
  | (t, x) :: r => ev E s t x :: evs E s r

/-- What an operation comes to, of its operands' values, over the blocks that 'g' gives; a new block has the number b0. -/
def fCore (E : Env) (o : Oper) (vs : List AV) (g : Nat → AB) (b0 : Nat) : Option FR :=
  match o.op, vs with
  | .move _, [x] => some ⟨x, [], []⟩
  | .assign _, [x] => some ⟨x, [], []⟩
  | .pick _ _ _, [c, a, b] => pickA c a b
  | .alloc e, _ => match bigU E (E.ti e).ud with
    | some k => chk (Nat.beq (E.ti e).zero.length (E.ti e).size && zInts k (E.ti e).zero) (some ⟨.ptr b0 0, [(b0, .arr (.int k) (List.replicate (E.ti e).size 0) true)], []⟩)
    | none => chk (Nat.beq (E.ti e).zero.length (E.ti e).size) (some ⟨.ptr b0 0, [(b0, .var (E.ti e).zero)], []⟩)
  | .box e _, [x] => match bigU E (E.ti e).ud with
    | some k => match intsOf k x.cells with
      | some l => chk (plainA x && Nat.beq x.cells.length (E.ti e).size) (some ⟨.ptr b0 0, [(b0, .arr (.int k) l true)], []⟩)
      | none => none
    | none => chk (plainA x && Nat.beq x.cells.length (E.ti e).size) (some ⟨.ptr b0 0, [(b0, .var x.cells)], []⟩)
  | .build t ps, vs =>
    match (match (E.ti t).ud with
      | .struct fs => fillA (structPlace E fs) (E.ti t).zero (zipParts ps.toList vs)
      | .array _ e => fillA (fun i => some (i * (E.ti e).size, (E.ti e).size)) (E.ti t).zero (zipParts ps.toList vs)
      | _ => none) with
    | some cs => chk (Nat.beq (E.ti t).zero.length (E.ti t).size && (match (E.ti t).ud with | .array _ e => Nat.ble (E.ti e).size 1000000 | _ => true)) (some ⟨.agg cs, [], []⟩)
    | none => none
  | .buildSlice t n ps, vs =>
    match (E.ti t).ty with
    | some (.sl u) =>
      match setRow u g (List.replicate n u.zero) (zipParts ps.toList vs) with
      | some l => chk (!(ownsOfVs vs).contains b0 && Nat.ble 1 u.sz && Nat.ble (n * u.sz) 16777216) (some ⟨.own u b0 true, frz g (ownsOfVs vs) ++ [(b0, .arr u l true)], []⟩)
      | none => none
    | _ => none
  | .load t _, [a] => loadA (E.ti t) g a
  | .store t _ _, [a, v] => storeA (E.ti t) g a v
  | .nilCheck _, [x] => match x with
    | .ptr _ _ | .eptr _ _ _ _ | .iptr _ _ _ => some ⟨x, [], []⟩
    | _ => none
  | .binOp op t _ _ _, [x, y] => binA E t op x y
  | .unOp op _ _, [x] => unA op x
  | .convert s d _, [x] => convX E (E.ti s) (E.ti d) g b0 x
  | .makeInterface t _, [x] => match (E.ti t).ud with
    | .other => none
    | _ => some ⟨.iface t x, [], []⟩
  | .makeFunc f a _, vs => some ⟨.fn f (vs.take a.size) (vs.drop a.size), [], []⟩
  | .makeSlice t _ _, [.int _ n, .int _ m] =>
    match (E.ti t).ty, (E.ti t).ud with
    | some (.sl u), .slice e => chk (Nat.ble 1 u.sz) (some ⟨.own u b0 true, [(b0, .arr u (List.replicate n.toNat u.zero) true)], [n = m, 0 ≤ n, sumOk n.toNat (E.ti e).bytes]⟩)
    | _, _ => none
  | .slice tt _ none none none, [x] => sliceA (E.ti tt).ud E g x none none none
  | .slice tt _ (some _) none none, [x, l] => sliceA (E.ti tt).ud E g x (some l) none none
  | .slice tt _ none (some _) none, [x, h] => sliceA (E.ti tt).ud E g x none (some h) none
  | .slice tt _ (some _) (some _) none, [x, l, h] => sliceA (E.ti tt).ud E g x (some l) (some h) none
  | .slice tt _ none (some _) (some _), [x, h, m] => sliceA (E.ti tt).ud E g x none (some h) (some m)
  | .slice tt _ (some _) (some _) (some _), [x, l, h, m] => sliceA (E.ti tt).ud E g x (some l) (some h) (some m)
  | .fieldAddr t _ i, [x] =>
    match (E.ti t).ud with
    | .struct fs => match fs[i]? with
      | some (u, off) => match addPtr x off with
        | some p => chk (Nat.ble 1 (E.ti u).size && Nat.ble (E.ti u).size 1000000) (some ⟨p, [], []⟩)
        | none => none
      | none => none
    | _ => none
  | .field t _ i, [.agg cs] =>
    match (E.ti t).ud with
    | .struct fs => match fs[i]? with
      | some (u, off) => chk (Nat.ble (off + (E.ti u).size) cs.length && Nat.ble (E.ti u).size 1000000) (asVal (E.ti u) ((cs.drop off).take (E.ti u).size))
      | none => none
    | _ => none
  | .indexAddr t y _, [x, i] => match y with
    | .global q => tabAddrA E (E.ti t).ud q i
    | _ => indexAddrA E (E.ti t).ud g x i
  | .index t _ _, [x, i] => indexA E (E.ti t).ud x i
  | .extract _ i, [.tup vs] => match vs[i]? with
    | some v => some ⟨v, [], []⟩
    | none => none
  | .makeMap t none, _ =>
    match (E.ti t).ud with
    | .map k v => match (E.ti k).ty, (E.ti v).ty with
      | some kt, some vt => chk (sameUD (E.ti k).ud kt && isKey kt && isFlat vt) (some ⟨.mptr b0, [(b0, .mp kt vt [])], []⟩)
      | _, _ => none
    | _ => none
  | .lookup t _ _ ok, [.mptr b, x] => lookupA E (E.ti t).ud (g b) ok x
  | .lookup t _ _ ok, [.fmap kt vt l, x] => lookupA E (E.ti t).ud (.mp kt vt l) ok x
  | .range t _, [.fmap kt vt l] => chk (isMapUD (E.ti t).ud) (some ⟨.ptr b0 0, [(b0, .mp (.pair .bool kt) vt (itNew kt vt l))], []⟩)
  | .range t _, [.mptr b] => match g b with
    | .mp kt vt l => chk (isMapUD (E.ti t).ud && isKey kt && !Nat.beq b b0) (some ⟨.ptr b0 0, [(b, .gone), (b0, .mp (.pair .bool kt) vt (itNew kt vt l))], []⟩)
    | _ => none
  | .entry _, [.ptr b 0] => match g b with
    | .mp (.pair .bool kt) vt l => match l with
      | x :: _ => match x.1.1 with
        | true => chk (isScal kt && isFlat vt) (some ⟨.tup [scalAV kt x.1.2, elAV vt x.2], [], []⟩)
        | false => none
      | [] => none
    | _ => none
  | .mapUpdate t _ _ _, [.mptr b, x, y] => updateA E (E.ti t).ud b (g b) x y
  | .insert t _ _ _, [.mptr b, x, y] => updateA E (E.ti t).ud b (g b) x y
  | .call { callee := .builtin b, args := as, argTypes := ts }, vs =>
    chk (Nat.beq as.size ts.size) (match b, vs, ts.toList with
    | .len, [x], [t] => lenA (E.ti t).ud g x
    | .append, [x, y], [t, u] => match (E.ti t).ud with
      | .slice e => chk (Nat.beq t u) (appendA (E.ti t) g b0 (E.ti e).bytes x y)
      | _ => none
    | .min, vs, _ => match minA vs with
      | some v => some ⟨v, [], []⟩
      | none => none
    | .max, vs, _ => match maxA vs with
      | some v => some ⟨v, [], []⟩
      | none => none
    | _, _, _ => none)
  | _, _ => none

/-- The blocks that an operation may look at. -/
def refs1 : AV → List Nat
  | .ptr b _ => [b]
  | .eptr _ b _ _ => [b]
  | .own _ b _ => [b]
  | .mptr b => [b]
  | _ => []
def refsOp (o : Oper) (vs : List AV) : List Nat :=
  match o.op, vs with
  | .load _ _, [a] => refs1 a
  | .store _ _ _, [a, v] => refs1 a ++ (match a with | .eptr _ _ _ _ => ownsOf v.cells | _ => [])
  | .buildSlice _ _ _, vs => ownsOfVs vs
  | .convert _ _ _, [x] => refs1 x
  | .slice _ _ _ _ _, x :: _ => refs1 x
  | .indexAddr _ _ _, [x, _] => match x with | .own _ b _ => [b] | _ => []
  | .lookup _ _ _ _, [x, _] => refs1 x
  | .mapUpdate _ _ _ _, [x, _, _] => refs1 x
  | .range _ _, [x] => refs1 x
  | .entry _, [x] => refs1 x
  | .insert _ _ _ _, [x, _, _] => refs1 x
  | .call { callee := .builtin _, .. }, vs => vs.flatMap refs1
  | _, _ => []

def viewOf (h : List AB) : List Nat → List (Nat × AB)
  | [] => []
  | b :: r => (b, hget h b) :: viewOf h r
def look : List (Nat × AB) → Nat → AB
  | [], _ => .hole
  | (b, v) :: r, c => match Nat.beq b c with | true => v | false => look r c

def fOp (E : Env) (o : Oper) (s : Slots) (h : Heap) (b0 : Nat) : Option FR :=
  fCore E o (evs E s (opnds E o)) (look (viewOf h (refsOp o (evs E s (opnds E o))))) b0

end Go.AM
