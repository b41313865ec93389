import GoSem.Core.Program
import Derived.Calls
import Derived.Below
import Derived.Laws.CopyRow
import Derived.Laws.Rows
import Derived.Maps.RangeRun
import Derived.Laws.Entries
import Derived.Laws.Slices
import Derived.Laws.Cells
import Derived.Laws.Strings
import Derived.Lib.Strings
namespace Go.AM
abbrev Str:=List UInt8
inductive GVal where
  |mk (kind n:Int) (s:Str) (items:List GVal) (names:List Str)
deriving Inhabited
namespace GVal
def kind:GVal→Int|mk k _ _ _ _=>k
def n:GVal→Int|mk _ n _ _ _=>n
def s:GVal→Str|mk _ _ s _ _=>s
def items:GVal→List GVal|mk _ _ _ l _=>l
def names:GVal→List Str|mk _ _ _ _ l=>l
end GVal
inductive Ty where
  |unit
  |int (k:IntKind)
  |bool
  |str
  |pair (a b:Ty)
  |sl (t:Ty)
  |val
deriving DecidableEq,Inhabited
@[reducible] def Ty.den : Ty → Type
  | .unit=>Unit
  | .int _=>Int
  | .bool=>Bool
  | .str=>Str
  | .pair a b=>a.den×b.den
  | .sl t=>List t.den
  | .val=>GVal
def Ty.sz:Ty→Nat
  | .unit=>0
  | .pair a b=>a.sz+b.sz
  | .val=>5
  |_=>1
inductive AV where
  |junk
  |t
  |f
  |bool (b:Bool)
  |int (k:IntKind) (n:Int)
  |str (s:Str)
  |nilsl
  |sl (t:Ty) (l:List t.den) (full:Bool)
  |own (t:Ty) (b:Nat) (full:Bool)
  |ptr (b j:Nat)
  |eptr (t:Ty) (b i j:Nat)
  |iptr (t:Ty) (x:t.den) (j:Nat)
  |nilptr
  |agg (cs:List AV)
  |tup (vs:List AV)
  |fn (f:Fn) (first captured:List AV)
  |nilfn
  |iface (t:TypeId) (v:AV)
  |niliface
  |mptr (b:Nat)
  |fmap (k v:Ty) (l:List (k.den×v.den))
deriving Inhabited
inductive AB where
  |hole
  |gone
  |var (cs:List AV)
  |arr (t:Ty) (l:List t.den) (free:Bool)
  |mp (k v:Ty) (l:List (k.den×v.den))
deriving Inhabited
def AV.cells:AV→List AV
  | .agg cs=>cs
  |v=>[v]
def cellsOf:(t:Ty)→t.den→List AV
  | .unit,_=>[]
  | .int k,n=>[.int k n]
  | .bool,b=>[.bool b]
  | .str,s=>[.str s]
  | .pair a b,x=>cellsOf a x.1++cellsOf b x.2
  | .sl t,l=>[.sl t l false]
  | .val,v=>[.int .i64 v.kind,.int .i64 v.n,.str v.s,.sl .val v.items false,.sl .str v.names false]
def Ty.zero:(t:Ty)→t.den
  | .unit=>()
  | .int _=>0
  | .bool=>false
  | .str=>[]
  | .pair a b=>(a.zero,b.zero)
  | .sl _=>[]
  | .val=> .mk 0 0 [] [] []
def dec : (t : Ty) → List AV → Option (t.den × List AV)
  | .unit,cs=>some ((),cs)
  | .int k,.int k' n::r=>if k'=k then some (n,r) else none
  | .bool,.t::r=>some (true,r)
  | .bool,.f::r=>some (false,r)
  | .bool,.bool b::r=>some (b,r)
  | .str,.str s::r=>some (s,r)
  | .sl t,.sl t' l _::r=>if h:t'=t then some (h▸l,r) else none
  | .sl _,.nilsl::r=>some ([],r)
  | .pair a b, cs =>
    match dec a cs with
    | some (x, r) => match dec b r with
      |some (y,r')=>some ((x,y),r')
      |none=>none
    |none=>none
  | .val, .int k1 k :: .int k2 n :: .str s :: i :: m :: r =>
    if k1= .i64∧k2= .i64 then
      match(match i with| .sl .val l _=>some l| .nilsl=>some []|_=>none),(match m with| .sl .str l _=>some l| .nilsl=>some []|_=>none) with
      |some li,some lm=>some (.mk k n s li lm,r)
      |_,_=>none
    else none
  |_,_=>none
def gz(t:Ty)(cs:List AV):Option t.den:=
  match dec t cs with
  |some (x,[])=>some x
  |_=>none
inductive UD where
  |int (k:IntKind)
  |bool
  |str
  |slice (e:TypeId)
  |array (n:Nat) (e:TypeId)
  |ptr (e:TypeId)
  |struct (fs:List (TypeId×Nat))
  |map (k v:TypeId)
  |iface
  |other
deriving Inhabited
structure TI where
  size:Nat
  bytes:Nat
  ud:UD
  ty:Option Ty
  zero:List AV
instance:Inhabited TI:=⟨⟨1099511627776,0,.other,none,[]⟩⟩
def UD.isOther:UD→Bool
  | .other=>true
  |_=>false
def TI.kn(ti:TI):Bool:=Nat.ble ti.size 1000000|| !ti.ud.isOther
def UD.isAgg:UD→Bool
  | .struct _| .array _ _=>true
  |_=>false
def quk:(t:Ty)→AV→Option t.den
  | .int k,.int k' n=>match decEq k' k with|isTrue _=>some n|isFalse _=>none
  | .str,.str s=>some s
  | .bool,.t=>some true
  | .bool,.f=>some false
  | .bool,.bool b=>some b
  |_,_=>none
def qlv:(t:Ty)→t.den→AV
  | .int k,n=> .int k n
  | .str,s=> .str s
  | .bool,b=> .bool b
  |_,_=> .junk
def qin:Ty→Bool
  | .int _| .str=>true
  |_=>false
def qeb:Ty→Bool
  | .int _| .str| .bool=>true
  |_=>false
def zt:Ty→Bool
  | .int _| .str| .bool=>true
  | .pair a b=>zt a&&zt b
  |_=>false
def qnp : (t : Ty) → List AV → Option (t.den × List AV)
  | .pair a b, cs => match qnp a cs with
    | some (x, r) => match qnp b r with
      |some (y,r')=>some ((x,y),r')
      |none=>none
    |none=>none
  | t, cs => match cs with
    |v::r=>match quk t v with|some x=>some (x,r)|none=>none
    |[]=>none
def elD : (t : Ty) → AV → Option t.den
  | .pair a b, v => match v with
    | .agg cs=>match qnp (.pair a b) cs with|some (x,[])=>some x|_=>none
    |_=>none
  |t,v=>quk t v
def y6:(t:Ty)→t.den→List AV
  | .pair a b,x=>y6 a x.1++y6 b x.2
  |t,x=>[qlv t x]
def q6n:(t:Ty)→t.den→AV
  | .pair a b,x=> .agg (y6 (.pair a b) x)
  |t,x=>qlv t x
def qv9:(t:Ty)→t.den→t.den→Bool
  | .int _,a,b=>(a:Int)==b
  | .str,a,b=>(a:Str)==b
  |_,_,_=>false
def qns(k v:Ty)(x:k.den):List (k.den×v.den)→v.den
  |[]=>v.zero
  |(a,b)::r=>match qv9 k x a with|true=>b|false=>qns k v x r
def qtu(k v:Ty)(x:k.den):List (k.den×v.den)→Bool
  |[]=>false
  |(a,_)::r=>match qv9 k x a with|true=>true|false=>qtu k v x r
def qri(k v:Ty)(x:k.den)(y:v.den):List (k.den×v.den)→List (k.den×v.den)
  |[]=>[(x,y)]
  |(a,b)::r=>match qv9 k x a with|true=>(a,y)::r|false=>(a,b)::qri k v x y r
def qbl(k v:Ty)(l:List (k.den×v.den)):List ((Bool×k.den)×v.den):=((false,k.zero),v.zero)::l.map fun x=>((false,x.1),x.2)
def qio(k v:Ty)(l:List ((Bool×k.den)×v.den))(j:Nat):(Bool×k.den)×v.den:=(l.tail[j]?).getD ((false,k.zero),v.zero)
def qtj(k v:Ty)(l:List ((Bool×k.den)×v.den))(j:Nat):List ((Bool×k.den)×v.den):=((true,(qio k v l j).1.2),(qio k v l j).2)::l.tail.eraseIdx j
end Go.AM
namespace Go.AM
structure Env where
  P:Program
  tab:List TI
  raw:List FuncId
  eqs:List TypeId
  /-- Tables of numbers, by their variables. -/
  tabs:List (Nat×(IntKind×List Int)):=[]
  /-- Is a text's row of bytes one's own? -/
  ob:Bool:=false
def Env.ti(E:Env)(t:TypeId):TI:=E.tab.getD t default
abbrev qc:=List (Nat×AV)
abbrev qa:=List AB
def lkp(i:Nat):List (Nat×AV)→AV
  |[]=> .junk
  |(j,v)::r=>match Nat.beq i j with|true=>v|false=>lkp i r
def qhy(s:qc)(d:Option Nat)(v:AV):qc:=
  match d with
  |some d=>(d,v)::s
  |none=>s
def qd(h:List AB)(b:Nat):AB:=h.getD b .hole
def qe:List AB→Nat→AB→List AB
  |[],0,v=>[v]
  |[],b+1,v=> .hole::qe [] b v
  |_::r,0,v=>v::r
  |x::r,b+1,v=>x::qe r b v
def qg(h:List AB):List (Nat×AB)→List AB
  |[]=>h
  |(b,v)::r=>qg (qe h b v) r
def qrn(ti:TI):Value→AV
  | .bool true=> .t
  | .bool false=> .f
  | .int k n=> .int k n
  | .string s=> .str s.data.toList
  | .slice none 0 0=>match ti.ty with|some (.sl t)=> .sl t [] true|_=> .nilsl
  | .pointer none=> .nilptr
  | .nilFunc=> .nilfn
  | .nilIface=> .niliface
  |_=> .junk
def ev(E:Env)(s:qc)(t:TypeId):Operand→AV
  | .tmp i=>lkp i s
  | .const v=>qrn (E.ti t) v
  | .func f=> .fn (.func f) [] []
  | .global _=> .junk
structure DP where
  p:Prop
  d:Decidable p
instance (p:Prop) [d:Decidable p]:CoeDep Prop p DP:=⟨⟨p,d⟩⟩
structure FR where
  v:AV
  ws:List (Nat×AB)
  cs:List DP
def chk(b:Bool)(r:Option FR):Option FR:=match b with|true=>r|false=>none
def q6d:List DP→Prop→Prop
  |[],p=>p
  |c::r,p=>c.p∧q6d r p
def qnj(cs:List DP)(p:Prop):Prop:=
  match cs with
  |[]=>p
  |[a]=>a.p∧p
  |[a,b]=>a.p∧(b.p∧p)
  |[a,b,c]=>a.p∧(b.p∧(c.p∧p))
  |[a,b,c,d]=>a.p∧(b.p∧(c.p∧(d.p∧p)))
  |cs=>q6d cs p
def setAt(cs:List AV)(j:Nat):List AV→List AV
  |[]=>cs
  |v::r=>setAt (cs.set j v) (j+1) r
def gk(ti:TI)(cs:List AV):Option FR:=
  match ti.ud.isAgg with
  |true=>some ⟨.agg cs,[],[]⟩
  |false=>match cs with|[v]=>some ⟨v,[],[]⟩|_=>none
def g8:AV→Bool
  | .junk=>false
  | .tup _=>false
  |_=>true
def q0k:AV→Bool
  | .junk=>false
  | .tup _=>false
  | .agg _=>false
  |_=>true
def jv:List AV→List Nat
  |[]=>[]
  | .own _ b _::r=>b::jv r
  |_::r=>jv r
def qt:List AV→List Nat
  |[]=>[]
  |v::r=>jv v.cells++qt r
def frz (g : Nat → AB) : List Nat → List (Nat × AB)
  |[]=>[]
  | b :: r => match g b with
    | .arr t l _=>(b,.arr t l false)::frz g r
    |_=>frz g r
def qnv (g : Nat → AB) : AV → AV
  | .own t b full =>
    match g b with
    | .arr t' l _=>if e:t'=t then .sl t (e▸l) full else .junk
    |_=> .junk
  |v=>v
def res(g:Nat→AB):AV→AV
  | .agg cs=> .agg (cs.map (qnv g))
  |v=>qnv g v
@[irreducible] def elt (t:Ty) (l:List t.den) (i:Nat):t.den:=l.getD i t.zero
theorem qg9{t:Ty}{l:List t.den}{i:Nat}(h:i<l.length):elt t l i=l[i]:=by
  unfold elt
  simp [List.getD_eq_getElem?_getD,h]
def q6b(cs:List DP):Option FR→Option FR
  |some fr=>some ⟨fr.v,fr.ws,cs++fr.cs⟩
  |none=>none
def gh(k:IntKind)(l:List Int)(i:Nat):Nat→List AV
  |0=>[]
  |n+1=> .int k (elt (.int k) l i)::gh k l (i+1) n
def qkz (k : IntKind) : List AV → Option (List Int)
  |[]=>some []
  | .int k' n :: r => match decEq k' k with
    |isTrue _=>match qkz k r with|some l=>some (n::l)|none=>none
    |isFalse _=>none
  |_=>none
def qx8 (ti : TI) (g : Nat → AB) (a : AV) : Option FR :=
  match a with
  | .ptr b j =>
    match g b with
    | .var cs=>chk (Nat.ble (j+ti.size) cs.length) (gk ti ((cs.drop j).take ti.size))
    | .arr (.int k) l _=>chk (Nat.beq j 0&&Nat.ble 1 ti.size&&Nat.ble ti.size 1000000) (q6b [ti.size≤(l:List Int).length] (gk ti (gh k l 0 ti.size)))
    |_=>none
  | .eptr t b i j =>
    match g b with
    | .arr t' l _ =>
      if e:t'=t then chk (Nat.ble (j+ti.size) t.sz) (q6b [i<(e▸l:List t.den).length] (gk ti (((cellsOf t (elt t (e▸l) i)).drop j).take ti.size)))
      else none
    |_=>none
  | .iptr t x j=>chk (Nat.ble (j+ti.size) t.sz) (gk ti (((cellsOf t x).drop j).take ti.size))
  |_=>none
def q5i (ti : TI) (g : Nat → AB) (a v : AV) : Option FR :=
  match a with
  | .ptr b j =>
    match g b with
    | .var cs=>chk (g8 v&&v.cells.all q0k&&Nat.beq v.cells.length ti.size&&Nat.ble (j+ti.size) cs.length&&Nat.ble ti.size 1000000) (some ⟨.junk,[(b,.var (setAt cs j v.cells))],[]⟩)
    | .arr (.int k) l true => match qkz k v.cells with
      |some l'=>chk (g8 v&&Nat.beq j 0&&Nat.ble 1 ti.size&&Nat.beq v.cells.length ti.size&&Nat.ble ti.size 1000000) (some ⟨.junk,[(b,.arr (.int k) l' true)],[(l:List Int).length=ti.size]⟩)
      |none=>none
    |_=>none
  | .eptr t b i j =>
    match g b with
    | .arr t' l true =>
      if e:t'=t then
        match gz t (setAt (cellsOf t (elt t (e▸l) i)) j (v.cells.map (qnv g))) with
        |some y=>chk (g8 v&&v.cells.all q0k&&Nat.beq v.cells.length ti.size&&Nat.ble (j+ti.size) t.sz&&Nat.ble ti.size 1000000&& !(jv v.cells).contains b) (some ⟨.junk,frz g (jv v.cells)++[(b,.arr t ((e▸l:List t.den).set i y) true)],[i<(e▸l:List t.den).length]⟩)
        |none=>none
      else none
    |_=>none
  |_=>none
def qvo(a:AV)(n:Nat):Option AV:=
  match a with
  | .ptr b j=>some (.ptr b (j+n))
  | .eptr t b i j=>some (.eptr t b i (j+n))
  | .iptr t x j=>some (.iptr t x (j+n))
  |_=>none
def qs9 (place : Nat → Option (Nat × Nat)) (cs : List AV) : List (Nat × AV) → Option (List AV)
  |[]=>some cs
  | (i, v) :: r =>
    match place i with
    |none=>none
    | some (off, size) =>
      match g8 v&&Nat.beq v.cells.length size&&Nat.ble (off+size) cs.length with
      |true=>qs9 place (setAt cs off v.cells) r
      |false=>none
def qb4(E:Env)(fs:List (TypeId×Nat))(i:Nat):Option (Nat×Nat):=
  match fs[i]? with
  |some (t,off)=>some (off,(E.ti t).size)
  |none=>none
def qje(ud:UD)(i:Nat):TypeId:=
  match ud with
  | .struct fs=>match fs[i]? with|some (t,_)=>t|none=>0
  | .array _ e=>e
  | .slice e=>e
  |_=>0
def setRow (t : Ty) (g : Nat → AB) (l : List t.den) : List (Nat × AV) → Option (List t.den)
  |[]=>some l
  | (i, v) :: r =>
    match g8 v&&Nat.blt i l.length,gz t (v.cells.map (qnv g)) with
    |true,some x=>setRow t g (l.set i x) r
    |_,_=>none
@[reducible] def qq (n bytes:Nat):Prop:=n*bytes≤140737488355328∧n≤140737488355328
def gt (g : Nat → AB) (t : Ty) : AV → Option (List t.den)
  | .sl t' l _=>if e:t'=t then some (e▸l) else none
  | .nilsl=>some []
  | .own t' b _ =>
    match g b with
    | .arr u l _=>if e:t'=t∧u=t then some (e.2▸l) else none
    |_=>none
  |_=>none
def qjd (ti : TI) (g : Nat → AB) (b0 : Nat) (bytes : Nat) (x y : AV) : Option FR :=
  match ti.ty with
  | some (.sl t) =>
    chk (Nat.ble 1 t.sz) (match gt g t y with
    | some ys =>
      match x with
      | .sl t' xs full =>
        if e:t'=t then
          some ⟨.own t b0 false,[(b0,.arr t ((e▸xs:List t.den)++ys) true)],[full=true,xs.length=0∨0<ys.length,qq (xs.length+ys.length) bytes]⟩
        else none
      | .nilsl=>some ⟨.own t b0 false,[(b0,.arr t ys true)],[qq ys.length bytes]⟩
      | .own t' b _ =>
        match g b with
        | .arr u l fr => if e : t' = t ∧ u = t then
            some ⟨.own t b0 false,[(b,.gone),(b0,.arr t ((e.2▸l:List t.den)++ys) fr)],[qq (l.length+ys.length) bytes]⟩
          else none
        |_=>none
      |_=>none
    |none=>none)
  |_=>none
def jad (ud : UD) (g : Nat → AB) (x : AV) : Option FR :=
  match ud,x with
  | .str,.str s=>some ⟨.int .i64 (s.length:Int),[],[]⟩
  | .slice _,.sl _ l _=>some ⟨.int .i64 (l.length:Int),[],[]⟩
  | .slice _,.nilsl=>some ⟨.int .i64 0,[],[]⟩
  | .slice _, .own _ b _ => match g b with
    | .arr _ l _=>some ⟨.int .i64 (l.length:Int),[],[]⟩
    |_=>none
  |_,_=>none
def qnk:AV→Option Bool
  | .t=>some true
  | .f=>some false
  | .bool b=>some b
  |_=>none
def eqF (E : Env) : List (TypeId × Nat) → Nat → List AV → List AV → Option Bool
  |[],_,[],[]=>some true
  | (t, o) :: fs, k, x :: r, y :: r' =>
    match Nat.beq o k&&Nat.beq (E.ti t).size 1,(E.ti t).ud,x,y with
    | true, .int _, .int k1 a, .int k2 b => match decEq k1 k2 with
      |isTrue _=>match eqF E fs (k+1) r r' with|some t=>some (a==b&&t)|none=>none
      |isFalse _=>none
    |true,.str,.str a,.str b=>match eqF E fs (k+1) r r' with|some t=>some (a==b&&t)|none=>none
    | true, .bool, x, y => match qnk x, qnk y, eqF E fs (k + 1) r r' with
      |some a,some b,some t=>some (a==b&&t)
      |_,_,_=>none
    |_,_,_,_=>none
  |_,_,_,_=>none
def eqT (E : Env) (ud : UD) (xs ys : List AV) : Option Bool :=
  match ud with
  | .struct fs=>eqF E fs 0 xs ys
  | .array n e => match Nat.beq (E.ti e).size 1 with
    |true=>eqF E ((List.range n).map fun i=>(e,i)) 0 xs ys
    |false=>none
  |_=>none
def qaz(k:IntKind)(a b:Int):Int:=k.wrap ((BitVec.ofInt k.bits a&&&BitVec.ofInt k.bits b).toNat:Int)
def ior(k:IntKind)(a b:Int):Int:=k.wrap ((BitVec.ofInt k.bits a|||BitVec.ofInt k.bits b).toNat:Int)
def u9(k:IntKind)(a b:Int):Int:=k.wrap ((BitVec.ofInt k.bits a^^^BitVec.ofInt k.bits b).toNat:Int)
def jed(k:IntKind)(a b:Int):Int:=k.wrap ((BitVec.ofInt k.bits a&&& ~~~ BitVec.ofInt k.bits b).toNat:Int)
def qnq(k:IntKind)(a b:Int):Int:=k.wrap (a*2^(min b.toNat k.bits))
def ja(k:IntKind)(a b:Int):Int:=a.fdiv (2^(min b.toNat k.bits))
def jdo (E : Env) (ty : TypeId) (op : BinOp) (x y : AV) : Option FR :=
  match x,y with
  | .int k a, .int k' b =>
    match op with
    | .add=>match decEq k k' with|isTrue _=>some ⟨.int k (k.wrap (a+b)),[],[]⟩|isFalse _=>none
    | .sub=>match decEq k k' with|isTrue _=>some ⟨.int k (k.wrap (a-b)),[],[]⟩|isFalse _=>none
    | .mul=>match decEq k k' with|isTrue _=>some ⟨.int k (k.wrap (a*b)),[],[]⟩|isFalse _=>none
    | .quo=>match decEq k k' with|isTrue _=>some ⟨.int k (k.wrap (a.tdiv b)),[],[b≠0]⟩|isFalse _=>none
    | .rem=>match decEq k k' with|isTrue _=>some ⟨.int k (a.tmod b),[],[b≠0]⟩|isFalse _=>none
    | .eql=>match decEq k k' with|isTrue _=>some ⟨.bool (a==b),[],[]⟩|isFalse _=>none
    | .neq=>match decEq k k' with|isTrue _=>some ⟨.bool (a !=b),[],[]⟩|isFalse _=>none
    | .lss=>match decEq k k' with|isTrue _=>some ⟨.bool (decide (a<b)),[],[]⟩|isFalse _=>none
    | .leq=>match decEq k k' with|isTrue _=>some ⟨.bool (decide (a≤b)),[],[]⟩|isFalse _=>none
    | .gtr=>match decEq k k' with|isTrue _=>some ⟨.bool (decide (a>b)),[],[]⟩|isFalse _=>none
    | .geq=>match decEq k k' with|isTrue _=>some ⟨.bool (decide (a≥b)),[],[]⟩|isFalse _=>none
    | .and=>match decEq k k' with|isTrue _=>some ⟨.int k (qaz k a b),[],[]⟩|isFalse _=>none
    | .or=>match decEq k k' with|isTrue _=>some ⟨.int k (ior k a b),[],[]⟩|isFalse _=>none
    | .xor=>match decEq k k' with|isTrue _=>some ⟨.int k (u9 k a b),[],[]⟩|isFalse _=>none
    | .andNot=>match decEq k k' with|isTrue _=>some ⟨.int k (jed k a b),[],[]⟩|isFalse _=>none
    | .shl=>some ⟨.int k (qnq k a b),[],[0≤b]⟩
    | .shr=>some ⟨.int k (ja k a b),[],[0≤b]⟩
  | .str a, .str b =>
    match op with
    | .add=>some ⟨.str (a++b),[],[a.length+b.length≤9223372036854775807]⟩
    | .eql=>some ⟨.bool (a==b),[],[]⟩
    | .neq=>some ⟨.bool (a !=b),[],[]⟩
    | .lss=>some ⟨.bool (Op.bytesLess a b),[],[]⟩
    | .leq=>some ⟨.bool (Op.bytesLess a b||a==b),[],[]⟩
    | .gtr=>some ⟨.bool (!(Op.bytesLess a b||a==b)),[],[]⟩
    | .geq=>some ⟨.bool (!(Op.bytesLess a b)),[],[]⟩
    |_=>none
  | .agg xs, .agg ys =>
    chk (E.eqs.contains ty) (match op,eqT E (E.ti ty).ud xs ys with
    | .eql,some b=>some ⟨.bool b,[],[]⟩
    | .neq,some b=>some ⟨.bool (!b),[],[]⟩
    |_,_=>none)
  | .iface _ _,.niliface=>match(E.ti ty).ud,op with| .iface,.eql=>some ⟨.f,[],[]⟩| .iface,.neq=>some ⟨.t,[],[]⟩|_,_=>none
  | x, y =>
    match(E.ti ty).ud,op,qnk x,qnk y with
    | .bool,.eql,some a,some b=>some ⟨.bool (a==b),[],[]⟩
    | .bool,.neq,some a,some b=>some ⟨.bool (!(a==b)),[],[]⟩
    |_,_,_,_=>none
def unA(op:UnOp)(x:AV):Option FR:=
  match op,x with
  | .not,.t=>some ⟨.f,[],[]⟩
  | .not,.f=>some ⟨.t,[],[]⟩
  | .not,.bool b=>some ⟨.bool (!b),[],[]⟩
  | .neg,.int k n=>some ⟨.int k (k.wrap (0-n)),[],[]⟩
  | .xor,.int k n=>some ⟨.int k (u9 k (bif k.signed then -1 else k.max) n),[],[]⟩
  |_,_=>none
def q9d (c a b : AV) : Option FR :=
  match c with
  | .t=>some ⟨a,[],[]⟩
  | .f=>some ⟨b,[],[]⟩
  | .bool t => match qnk a, qnk b with
    |some x,some y=>some ⟨.bool (bif t then x else y),[],[]⟩
    | _, _ => match a, b with
      | .int k x,.int k' y=>match decEq k k' with|isTrue _=>some ⟨.int k (bif t then x else y),[],[]⟩|isFalse _=>none
      | .str x,.str y=>some ⟨.str (bif t then x else y),[],[]⟩
      |_,_=>none
  |_=>none
def qaj (ud : UD) (E : Env) (g : Nat → AB) (x : AV) (lo hi mx : Option AV) : Option FR :=
  match(match lo with|none=>some (0:Int)|some (.int _ n)=>some n|_=>none) with
  |none=>none
  | some l =>
    match ud,x with
    | .str, .str s =>
      match mx,(match hi with|none=>some (s.length:Int)|some (.int _ n)=>some n|_=>none) with
      |none,some h=>some ⟨.str ((s.take h.toNat).drop l.toNat),[],[0≤l,l≤h,h≤(s.length:Int)]⟩
      |_,_=>none
    | .slice e, .sl t s full =>
      chk (Nat.beq (E.ti e).size t.sz&&Nat.ble (E.ti e).size 1000000) (match(match hi with|none=>some (s.length:Int)|some (.int _ n)=>some n|_=>none) with
      |none=>none
      | some h =>
        match mx with
        |none=>some ⟨.sl t ((s.take h.toNat).drop l.toNat) (full&&decide (h=(s.length:Int))),[],[0≤l,l≤h,h≤(s.length:Int)]⟩
        |some (.int _ m)=>some ⟨.sl t ((s.take h.toNat).drop l.toNat) (decide (h=m)),[],[0≤l,l≤h,h≤m,m≤(s.length:Int)]⟩
        |_=>none)
    | .slice e, .own t b full =>
      chk (Nat.beq (E.ti e).size t.sz&&Nat.ble (E.ti e).size 1000000) (match g b with
      | .arr t' s _ =>
        if e:t'=t then
          match(match hi with|none=>some (s.length:Int)|some (.int _ n)=>some n|_=>none) with
          |none=>none
          | some h =>
            match mx with
            |none=>some ⟨.sl t (((e▸s:List t.den).take h.toNat).drop l.toNat) (full&&decide (h=(s.length:Int))),[(b,.arr t (e▸s) false)],[0≤l,l≤h,h≤(s.length:Int)]⟩
            |some (.int _ m)=>some ⟨.sl t (((e▸s:List t.den).take h.toNat).drop l.toNat) (decide (h=m)),[(b,.arr t (e▸s) false)],[0≤l,l≤h,h≤m,m≤(s.length:Int)]⟩
            |_=>none
        else none
      |_=>none)
    |_,_=>none
def q9l(E:Env)(n:Nat)(e:TypeId):Option IntKind:=
  match Nat.blt 7 n with
  |true=>match(E.ti e).ty with|some (.int k)=>some k|_=>none
  |false=>none
def q9m(E:Env):UD→Option IntKind
  | .array n e=>q9l E n e
  |_=>none
def qvc(k:IntKind):List AV→Bool
  |[]=>true
  | .int k' n::r=>decide (k'=k)&&decide (n=0)&&qvc k r
  |_=>false
def qyr:List (Nat×(IntKind×List Int))→Nat→Option (IntKind×List Int)
  |[],_=>none
  |(g,x)::r,q=>match Nat.beq g q with|true=>some x|false=>qyr r q
def qlz (E : Env) (ud : UD) (q : Nat) (i : AV) : Option FR :=
  match i,ud,qyr E.tabs q with
  | .int _ i, .array n e, some (k, l) => match (E.ti e).ty with
    | some (.int k') => match decEq k' k with
      |isTrue _=>some ⟨.iptr (.int k) (elt (.int k) l i.toNat) 0,[],[0≤i,i<(n:Int),i<(l.length:Int)]⟩
      |isFalse _=>none
    |_=>none
  |_,_,_=>none
def qky (E : Env) (ud : UD) (g : Nat → AB) (x i : AV) : Option FR :=
  match i with
  | .int _ i =>
    match ud with
    | .array n e =>
      match q9l E n e,x with
      |some k,.ptr b 0=>some ⟨.eptr (.int k) b i.toNat 0,[],[0≤i,i<(n:Int)]⟩
      | _, x => chk (Nat.ble (E.ti e).size 1000000) (match qvo x (i.toNat * (E.ti e).size) with
        |some p=>some ⟨p,[],[0≤i,i<(n:Int)]⟩
        |none=>none)
    | .slice e =>
      match x with
      | .sl t l _=>chk (Nat.beq (E.ti e).size t.sz&&Nat.ble (E.ti e).size 1000000) (some ⟨.iptr t (elt t l i.toNat) 0,[],[0≤i,i<(l.length:Int)]⟩)
      | .own t b _ => chk (Nat.beq (E.ti e).size t.sz && Nat.ble (E.ti e).size 1000000) (match g b with
        | .arr _ l _=>some ⟨.eptr t b i.toNat 0,[],[0≤i,i<(l.length:Int)]⟩
        |_=>none)
      |_=>none
    |_=>none
  |_=>none
def bt(s:Str)(i:Int):Int:=((s.getD i.toNat 0).toNat:Int)
def q30 (E : Env) (ud : UD) (x i : AV) : Option FR :=
  match i with
  | .int _ i =>
    match ud,x with
    | .str,.str s=>some ⟨.int .u8 (bt s i),[],[0≤i,i<(s.length:Int)]⟩
    | .array n e,.agg cs=>chk (decide (0≤i)&&decide (i<(n:Int))&&Nat.ble 1 (E.ti e).size&&Nat.ble (E.ti e).size 1000000&&Nat.ble (i.toNat*(E.ti e).size+(E.ti e).size) cs.length) (gk (E.ti e) ((cs.drop (i.toNat*(E.ti e).size)).take (E.ti e).size))
    |_,_=>none
  |_=>none
def qkf(src dst:TI)(x:AV):Option FR:=
  match src.ud,dst.ud,x with
  |_,.int k,.int _ n=>chk (Nat.ble src.size 1000000) (some ⟨.int k (k.wrap n),[],[]⟩)
  | .str,.str,.str s=>some ⟨.str s,[],[]⟩
  |_,_,_=>none
def qp(s:Str):List Int:=s.map fun b=>(b.toNat:Int)
def jm(l:List Int):Str:=l.map fun n=>UInt8.ofNat n.toNat
def q68(ti:TI):Bool:=match ti.ud with| .int .u8=>true|_=>false
def q2i(E:Env)(su du:UD)(g:Nat→AB)(b0:Nat)(x:AV):Option FR:=
  match su,du,x with
  | .str,.slice e,.str s=>chk (q68 (E.ti e)) (match E.ob with|true=>some ⟨.own (.int .u8) b0 false,[(b0,.arr (.int .u8) (qp s) true)],[]⟩|false=>some ⟨.sl (.int .u8) (qp s) false,[],[]⟩)
  | .slice e,.str,x=>chk (q68 (E.ti e)) (match gt g (.int .u8) x with|some l=>some ⟨.str (jm l),[],[]⟩|none=>none)
  |_,_,_=>none
def q2j(E:Env)(src dst:TI)(g:Nat→AB)(b0:Nat)(x:AV):Option FR:=
  match qkf src dst x with
  |some r=>some r
  |none=>q2i E src.ud dst.ud g b0 x
def qai:UD→Ty→Bool
  | .int k,.int k'=>decide (k=k')
  | .str,.str=>true
  |_,_=>false
def jfa(o:Option Ty)(t:Ty):Bool:=match o with
  |some u=>decide (u=t)
  |none=>false
def qfc (E : Env) (ud : UD) (x : AB) (ok : Bool) (i : AV) : Option FR :=
  match ud,x with
  | .map k v, .mp kt vt l => chk (qai (E.ti k).ud kt && zt vt && jfa (E.ti v).ty vt) (match quk kt i with
    | some n => match ok with
      |true=>some ⟨.tup [q6n vt (qns kt vt n l),.bool (qtu kt vt n l)],[],[]⟩
      |false=>some ⟨q6n vt (qns kt vt n l),[],[]⟩
    |none=>none)
  |_,_=>none
def qjr (E : Env) (ud : UD) (b : Nat) (x : AB) (i y : AV) : Option FR :=
  match ud,x with
  | .map k _, .mp kt vt l => chk (qai (E.ti k).ud kt) (match quk kt i, elD vt y with
    |some n,some c=>some ⟨.junk,[(b,.mp kt vt (qri kt vt n c l))],[]⟩
    |_,_=>none)
  |_,_=>none
def qq2:UD→Bool
  | .map _ _=>true
  |_=>false
def qff(a:Int):List AV→Option Int
  |[]=>some a
  | .int _ b::r=>qff (min a b) r
  |_=>none
def jag:List AV→Option AV
  | .int k a::r=>match qff a r with|some m=>some (.int k m)|none=>none
  |_=>none
def qfd(a:Int):List AV→Option Int
  |[]=>some a
  | .int _ b::r=>qfd (max a b) r
  |_=>none
def jae:List AV→Option AV
  | .int k a::r=>match qfd a r with|some m=>some (.int k m)|none=>none
  |_=>none
def jz:List (Nat×Operand)→List AV→List (Nat×AV)
  |(i,_)::r,v::vs=>(i,v)::jz r vs
  |_,_=>[]
def q8(E:Env)(o:Oper):List (TypeId×Operand):=
  match o.op with
  | .move x| .assign x=>[(o.type,x)]
  | .pick c a b=>[(0,c),(o.type,a),(o.type,b)]
  | .box e v=>[(e,v)]
  | .build t ps=>ps.toList.map fun p=>(qje (E.ti t).ud p.1,p.2)
  | .buildSlice t _ ps=>ps.toList.map fun p=>(qje (E.ti t).ud p.1,p.2)
  | .load _ a=>[(0,a)]
  | .store t a v=>[(0,a),(t,v)]
  | .nilCheck x=>[(0,x)]
  | .binOp _ t x y u=>[(t,x),(u,y)]
  | .unOp _ t x=>[(t,x)]
  | .convert s _ x=>[(s,x)]
  | .makeInterface t x=>[(t,x)]
  | .makeFunc _ a b=>a.toList.map (fun x=>(0,x))++b.toList.map (fun x=>(0,x))
  | .makeSlice _ a b=>[(0,a),(0,b)]
  | .slice t x l h m=>(t,x)::(l.toList++h.toList++m.toList).map fun x=>(0,x)
  | .fieldAddr _ x _=>[(0,x)]
  | .field t x _=>[(t,x)]
  | .indexAddr t x i=>[(t,x),(0,i)]
  | .index t x i=>[(t,x),(0,i)]
  | .extract x _=>[(0,x)]
  | .lookup t x i _=>[(t,x),(0,i)]
  | .mapUpdate t m k x=>[(t,m),(0,k),(0,x)]
  | .range t x=>[(t,x)]
  | .entry x=>[(0,x)]
  | .insert t m k x=>[(t,m),(0,k),(0,x)]
  | .call c=>c.args.toList.zip c.argTypes.toList |>.map fun p=>(p.2,p.1)
  |_=>[]
def evs(E:Env)(s:qc):List (TypeId×Operand)→List AV
  |[]=>[]
  |(t,x)::r=>ev E s t x::evs E s r
def qj (E : Env) (o : Oper) (vs : List AV) (g : Nat → AB) (b0 : Nat) : Option FR :=
  match o.op,vs with
  | .move _,[x]=>some ⟨x,[],[]⟩
  | .assign _,[x]=>some ⟨x,[],[]⟩
  | .pick _ _ _,[c,a,b]=>q9d c a b
  | .alloc e, _ => match q9m E (E.ti e).ud with
    |some k=>chk (Nat.beq (E.ti e).zero.length (E.ti e).size&&qvc k (E.ti e).zero) (some ⟨.ptr b0 0,[(b0,.arr (.int k) (List.replicate (E.ti e).size 0) true)],[]⟩)
    |none=>chk (Nat.beq (E.ti e).zero.length (E.ti e).size) (some ⟨.ptr b0 0,[(b0,.var (E.ti e).zero)],[]⟩)
  | .box e _, [x] => match q9m E (E.ti e).ud with
    | some k => match qkz k x.cells with
      |some l=>chk (g8 x&&Nat.beq x.cells.length (E.ti e).size) (some ⟨.ptr b0 0,[(b0,.arr (.int k) l true)],[]⟩)
      |none=>none
    |none=>chk (g8 x&&Nat.beq x.cells.length (E.ti e).size) (some ⟨.ptr b0 0,[(b0,.var x.cells)],[]⟩)
  | .build t ps, vs =>
    match(match(E.ti t).ud with
      | .struct fs=>qs9 (qb4 E fs) (E.ti t).zero (jz ps.toList vs)
      | .array _ e=>qs9 (fun i=>some (i*(E.ti e).size,(E.ti e).size)) (E.ti t).zero (jz ps.toList vs)
      |_=>none) with
    |some cs=>chk (Nat.beq (E.ti t).zero.length (E.ti t).size&&(match(E.ti t).ud with| .array _ e=>Nat.ble (E.ti e).size 1000000|_=>true)) (some ⟨.agg cs,[],[]⟩)
    |none=>none
  | .buildSlice t n ps, vs =>
    match(E.ti t).ty with
    | some (.sl u) =>
      match setRow u g (List.replicate n u.zero) (jz ps.toList vs) with
      |some l=>chk (!(qt vs).contains b0&&Nat.ble 1 u.sz&&Nat.ble (n*u.sz) 16777216) (some ⟨.own u b0 true,frz g (qt vs)++[(b0,.arr u l true)],[]⟩)
      |none=>none
    |_=>none
  | .load t _,[a]=>qx8 (E.ti t) g a
  | .store t _ _,[a,v]=>q5i (E.ti t) g a v
  | .nilCheck _, [x] => match x with
    | .ptr _ _| .eptr _ _ _ _| .iptr _ _ _=>some ⟨x,[],[]⟩
    |_=>none
  | .binOp op t _ _ _,[x,y]=>jdo E t op x y
  | .unOp op _ _,[x]=>unA op x
  | .convert s d _,[x]=>q2j E (E.ti s) (E.ti d) g b0 x
  | .makeInterface t _, [x] => match (E.ti t).ud with
    | .other=>none
    | .iface=>none
    |_=>some ⟨.iface t x,[],[]⟩
  | .makeFunc f a _,vs=>some ⟨.fn f (vs.take a.size) (vs.drop a.size),[],[]⟩
  | .makeSlice t _ _, [.int _ n, .int _ m] =>
    match(E.ti t).ty,(E.ti t).ud with
    |some (.sl u),.slice e=>chk (Nat.ble 1 u.sz) (some ⟨.own u b0 true,[(b0,.arr u (List.replicate n.toNat u.zero) true)],[n=m,0≤n,qq n.toNat (E.ti e).bytes]⟩)
    |_,_=>none
  | .slice tt _ none none none,[x]=>qaj (E.ti tt).ud E g x none none none
  | .slice tt _ (some _) none none,[x,l]=>qaj (E.ti tt).ud E g x (some l) none none
  | .slice tt _ none (some _) none,[x,h]=>qaj (E.ti tt).ud E g x none (some h) none
  | .slice tt _ (some _) (some _) none,[x,l,h]=>qaj (E.ti tt).ud E g x (some l) (some h) none
  | .slice tt _ none (some _) (some _),[x,h,m]=>qaj (E.ti tt).ud E g x none (some h) (some m)
  | .slice tt _ (some _) (some _) (some _),[x,l,h,m]=>qaj (E.ti tt).ud E g x (some l) (some h) (some m)
  | .fieldAddr t _ i, [x] =>
    match(E.ti t).ud with
    | .struct fs => match fs[i]? with
      | some (u, off) => match qvo x off with
        |some p=>chk (Nat.ble 1 (E.ti u).size&&Nat.ble (E.ti u).size 1000000) (some ⟨p,[],[]⟩)
        |none=>none
      |none=>none
    |_=>none
  | .field t _ i, [.agg cs] =>
    match(E.ti t).ud with
    | .struct fs => match fs[i]? with
      |some (u,off)=>chk (Nat.ble (off+(E.ti u).size) cs.length&&Nat.ble (E.ti u).size 1000000) (gk (E.ti u) ((cs.drop off).take (E.ti u).size))
      |none=>none
    |_=>none
  | .indexAddr t y _, [x, i] => match y with
    | .global q=>qlz E (E.ti t).ud q i
    |_=>qky E (E.ti t).ud g x i
  | .index t _ _,[x,i]=>q30 E (E.ti t).ud x i
  | .extract _ i, [.tup vs] => match vs[i]? with
    |some v=>some ⟨v,[],[]⟩
    |none=>none
  | .makeMap t none, _ =>
    match(E.ti t).ud with
    | .map k v => match (E.ti k).ty, (E.ti v).ty with
      |some kt,some vt=>chk (qai (E.ti k).ud kt&&qin kt&&zt vt) (some ⟨.mptr b0,[(b0,.mp kt vt [])],[]⟩)
      |_,_=>none
    |_=>none
  | .lookup t _ _ ok,[.mptr b,x]=>qfc E (E.ti t).ud (g b) ok x
  | .lookup t _ _ ok,[.fmap kt vt l,x]=>qfc E (E.ti t).ud (.mp kt vt l) ok x
  | .range t _,[.fmap kt vt l]=>chk (qq2 (E.ti t).ud) (some ⟨.ptr b0 0,[(b0,.mp (.pair .bool kt) vt (qbl kt vt l))],[]⟩)
  | .range t _, [.mptr b] => match g b with
    | .mp kt vt l=>chk (qq2 (E.ti t).ud&&qin kt&& !Nat.beq b b0) (some ⟨.ptr b0 0,[(b,.gone),(b0,.mp (.pair .bool kt) vt (qbl kt vt l))],[]⟩)
    |_=>none
  | .entry _, [.ptr b 0] => match g b with
    | .mp (.pair .bool kt) vt l => match l with
      | x :: _ => match x.1.1 with
        |true=>chk (qeb kt&&zt vt) (some ⟨.tup [qlv kt x.1.2,q6n vt x.2],[],[]⟩)
        |false=>none
      |[]=>none
    |_=>none
  | .mapUpdate t _ _ _,[.mptr b,x,y]=>qjr E (E.ti t).ud b (g b) x y
  | .insert t _ _ _,[.mptr b,x,y]=>qjr E (E.ti t).ud b (g b) x y
  | .call { callee := .builtin b, args := as, argTypes := ts }, vs =>
    chk (Nat.beq as.size ts.size) (match b,vs,ts.toList with
    | .len,[x],[t]=>jad (E.ti t).ud g x
    | .append, [x, y], [t, u] => match (E.ti t).ud with
      | .slice e=>chk (Nat.beq t u) (qjd (E.ti t) g b0 (E.ti e).bytes x y)
      |_=>none
    | .min, vs, _ => match jag vs with
      |some v=>some ⟨v,[],[]⟩
      |none=>none
    | .max, vs, _ => match jae vs with
      |some v=>some ⟨v,[],[]⟩
      |none=>none
    |_,_,_=>none)
  |_,_=>none
def qdx:AV→List Nat
  | .ptr b _=>[b]
  | .eptr _ b _ _=>[b]
  | .own _ b _=>[b]
  | .mptr b=>[b]
  |_=>[]
def qbx(o:Oper)(vs:List AV):List Nat:=
  match o.op,vs with
  | .load _ _,[a]=>qdx a
  | .store _ _ _,[a,v]=>qdx a++(match a with| .eptr _ _ _ _=>jv v.cells|_=>[])
  | .buildSlice _ _ _,vs=>qt vs
  | .convert _ _ _,[x]=>qdx x
  | .slice _ _ _ _ _,x::_=>qdx x
  | .indexAddr _ _ _,[x,_]=>match x with| .own _ b _=>[b]|_=>[]
  | .lookup _ _ _ _,[x,_]=>qdx x
  | .mapUpdate _ _ _ _,[x,_,_]=>qdx x
  | .range _ _,[x]=>qdx x
  | .entry _,[x]=>qdx x
  | .insert _ _ _ _,[x,_,_]=>qdx x
  | .call { callee:= .builtin _,.. },vs=>vs.flatMap qdx
  |_,_=>[]
def qem(h:List AB):List Nat→List (Nat×AB)
  |[]=>[]
  |b::r=>(b,qd h b)::qem h r
def qhh:List (Nat×AB)→Nat→AB
  |[],_=> .hole
  |(b,v)::r,c=>match Nat.beq b c with|true=>v|false=>qhh r c
def fOp(E:Env)(o:Oper)(s:qc)(h:qa)(b0:Nat):Option FR:=
  qj E o (evs E s (q8 E o)) (qhh (qem h (qbx o (evs E s (q8 E o))))) b0
end Go.AM
namespace Go.AM
inductive RD (w:World) (I:Nat→Nat→Prop):(t:Ty)→t.den→List Value→Prop where
  |unit:RD w I .unit () []
  |int (k:IntKind) (n:Int):RD w I (.int k) n [.int k n]
  |bool (b:Bool):RD w I .bool b [.bool b]
  |str (l:Str):RD w I .str l [.string ⟨l.toArray⟩]
  |pair (a b:Ty) (x:a.den) (y:b.den) (cs ds:List Value) (hx:RD w I a x cs) (hy:RD w I b y ds):RD w I (.pair a b) (x,y) (cs++ds)
  |sl (t:Ty) (l:List t.den) (a:Option Addr) (cap:Nat) (cs:Nat→List Value) (hcap:l.length≤cap) (hel: ∀i (h:i<l.length),RD w I t l[i] (cs i))
      (hat:0<l.length→∃g o,a=some ⟨g,o,none⟩∧∀i,i<l.length→∀j u,(cs i)[j]? =some u→w.cell? ⟨g,o+(i*t.sz+j),none⟩=some u∧I g (o+(i*t.sz+j))):
      RD w I (.sl t) l [.slice a l.length cap]
  |val (k n:Int) (s:Str) (li:List GVal) (lm:List Str) (cs ds:List Value) (hi:RD w I (.sl .val) li cs) (hm:RD w I (.sl .str) lm ds):
      RD w I .val (.mk k n s li lm) ([.int .i64 k,.int .i64 n,.string ⟨s.toArray⟩]++cs++ds)
theorem RD.len{w:World}{I:Nat→Nat→Prop}{t:Ty}{x:t.den}{cs:List Value}(h:RD w I t x cs):cs.length=t.sz:=by
  induction h with
  |unit=>rfl
  |int=>rfl
  |bool=>rfl
  |str=>rfl
  |pair a b x y cs ds hx hy ihx ihy=>rw [List.length_append,ihx,ihy];rfl
  |sl=>rfl
  |val k n s li lm cs ds hi hm ihi ihm=>simp [ihi,ihm,Ty.sz]
theorem RD.one {w : World} {I : Nat → Nat → Prop} {t : Ty} {x : t.den} {cs : List Value} (h : RD w I t x cs) : ∀ u ∈ cs, u.oneCell' = true := by
  induction h with
  |unit=>intro u hu;cases hu
  |int=>intro u hu;rw [List.mem_singleton.1 hu];rfl
  |bool=>intro u hu;rw [List.mem_singleton.1 hu];rfl
  |str=>intro u hu;rw [List.mem_singleton.1 hu];rfl
  | pair a b x y cs ds hx hy ihx ihy =>
    intro u hu
    rcases List.mem_append.1 hu with hu|hu
    · exact ihx u hu
    · exact ihy u hu
  |sl=>intro u hu;rw [List.mem_singleton.1 hu];rfl
  | val k n s li lm cs ds hi hm ihi ihm =>
    intro u hu
    rcases List.mem_append.1 hu with hu|hu
    · rcases List.mem_append.1 hu with hu | hu
      · simp at hu
        rcases hu with rfl|rfl|rfl <;>rfl
      · exact ihi u hu
    · exact ihm u hu
theorem RD.mono{w w':World}{I I':Nat→Nat→Prop}(hc: ∀g o u,I g o→w.cell? ⟨g,o,none⟩=some u→w'.cell? ⟨g,o,none⟩=some u)(hI: ∀g o,I g o→I' g o)
    {t:Ty} {x:t.den} {cs:List Value} (h:RD w I t x cs):RD w' I' t x cs:=by
  induction h with
  |unit=>exact .unit
  |int k n=>exact .int k n
  |bool b=>exact .bool b
  |str l=>exact .str l
  |pair a b x y cs ds hx hy ihx ihy=>exact .pair a b x y cs ds ihx ihy
  | sl t l a cap cs hcap hel hat ih =>
    refine .sl t l a cap cs hcap ih fun h0=> ?_
    obtain⟨g,o,ha,hr⟩:=hat h0
    refine⟨g,o,ha,fun i hi j u hu=> ?_⟩
    obtain⟨h1,h2⟩:=hr i hi j u hu
    exact⟨hc _ _ _ h2 h1,hI _ _ h2⟩
  |val k n s li lm cs ds hi hm ihi ihm=>exact .val k n s li lm cs ds ihi ihm
def js(t:Ty)(w:World)(g:Nat)(vs:Array Value)(e:TypeId):Prop:= ∃fz:Nat×Nat,w.heap[g]? =some (.cells vs e fz)∧(fz=(0,0)∨t= .int .u8∧vs.size≤fz.1)
theorem js.of{t:Ty}{w:World}{g:Nat}{vs:Array Value}{e:TypeId}(h:w.heap[g]? =some (.cells vs e (0,0))):js t w g vs e:=⟨_,h,.inl rfl⟩
theorem js.eq{t:Ty}{w w':World}{g:Nat}{vs:Array Value}{e:TypeId}(h:js t w g vs e)(he:w'.heap[g]? =w.heap[g]?):js t w' g vs e:=by
  obtain⟨fz,h,hz⟩:=h
  exact⟨fz,he.trans h,hz⟩
theorem js.lt{t:Ty}{w:World}{g:Nat}{vs:Array Value}{e:TypeId}(h:js t w g vs e):g<w.heap.size:=by
  obtain⟨fz,h,_⟩:=h
  exact(Array.getElem?_eq_some_iff.1 h).1
def qdt (w : World) (h : qa) (μ : Nat → Option Nat) (t : Ty) (b : Nat) (full : Bool) (a : Option Addr) (n cap : Nat) : Prop :=
  ∃ x, h[b]? = some x ∧ x ≠ .hole ∧ ∀ t' l fr, x = .arr t' l fr → t' = t ∧ n = l.length ∧ n ≤ cap ∧ (full = true → cap = n) ∧
    ((n=0∧cap=0)∨∃g vs e,μ b=some g∧a=some ⟨g,0,none⟩∧js t w g vs e∧cap*t.sz≤vs.size)
def yt:(t:Ty)→t.den→Value→Prop
  | .int k,n,v=>v= .int k n
  | .str,s,v=>v= .string ⟨(s:Str).toArray⟩
  | .bool,b,v=>v= .bool b
  |_,_,_=>False
def qer:(t:Ty)→t.den→List Value→Prop
  | .pair a b,x,cs=> ∃c1 c2,cs=c1++c2∧qer a x.1 c1∧qer b x.2 c2
  |t,x,cs=> ∃v,cs=[v]∧yt t x v
def ElD:(t:Ty)→t.den→Value→Prop
  | .pair a b,x,v=> ∃vs:Array Value,v= .agg vs∧qer (.pair a b) x vs.toList
  |t,x,v=>yt t x v
def qqe(k v:Ty)(es:Array MapEntry)(c:Nat)(l:List (k.den×v.den)):Prop:=
  es.size=l.length∧(∀(n:Nat) (e:MapEntry) (x:k.den×v.den),es[n]? =some e→l[n]? =some x→yt k x.1 e.key∧ElD v x.2 e.val)∧
  (∀e∈es.toList,e.born<c)∧(es.toList.map (·.born)).Nodup
def ItD(k v:Ty)(es:Array MapEntry)(c since c0:Nat)(seen:Array Nat)(l:List ((Bool×k.den)×v.den)):Prop:=
  (∀e∈es.toList,e.born<since)∧c0=c∧since≤c∧(es.toList.map (·.born)).Nodup∧(leftOf es seen).size=l.tail.length∧l≠[]∧
  (∀(n:Nat) (e:MapEntry) (x:(Bool×k.den)×v.den),(leftOf es seen)[n]? =some e→l.tail[n]? =some x→yt k x.1.2 e.key∧ElD v x.2 e.val)∧
  (∀x∈l.head?,x.1.1=true→∃e∈es.toList,yt k x.1.2 e.key∧ElD v x.2 e.val∧∃s0:Array Nat,seen=s0.push e.born)
def zk(h:qa)(μ:Nat→Option Nat)(b g:Nat):Prop:= ∃x,h[b]? =some x∧x≠.hole∧(x≠.gone→μ b=some g)
inductive Rep (w:World) (I:Nat→Nat→Prop) (h:qa) (μ:Nat→Option Nat):Value→AV→Prop where
  |junk (v:Value):Rep w I h μ v .junk
  |t:Rep w I h μ (.bool true) .t
  |f:Rep w I h μ (.bool false) .f
  |bool (b:Bool):Rep w I h μ (.bool b) (.bool b)
  |int (k:IntKind) (n:Int):Rep w I h μ (.int k n) (.int k n)
  |str (l:Str):Rep w I h μ (.string ⟨l.toArray⟩) (.str l)
  |nilsl:Rep w I h μ (.slice none 0 0) .nilsl
  |sl (t:Ty) (l:List t.den) (full:Bool) (a:Option Addr) (n cap:Nat) (hr:RD w I (.sl t) l [.slice a n cap]) (hf:full=true→cap=n):Rep w I h μ (.slice a n cap) (.sl t l full)
  |own (t:Ty) (b:Nat) (full:Bool) (a:Option Addr) (n cap:Nat) (ho:qdt w h μ t b full a n cap):Rep w I h μ (.slice a n cap) (.own t b full)
  |ptr (b j g:Nat) (hp:zk h μ b g):Rep w I h μ (.pointer (some ⟨g,j,none⟩)) (.ptr b j)
  |eptr (t:Ty) (b i j g:Nat) (hp:zk h μ b g):Rep w I h μ (.pointer (some ⟨g,i*t.sz+j,none⟩)) (.eptr t b i j)
  |iptr (t:Ty) (x:t.den) (j g o:Nat) (cs:List Value) (hr:RD w I t x cs) (hc: ∀(k:Nat) (u:Value),cs[k]? =some u→w.cell? ⟨g,o+k,none⟩=some u∧I g (o+k)):
      Rep w I h μ (.pointer (some ⟨g,o+j,none⟩)) (.iptr t x j)
  |nilptr:Rep w I h μ (.pointer none) .nilptr
  |agg (vs:Array Value) (cs:List AV) (hl:vs.size=cs.length) (hc: ∀(i:Nat) (v:Value) (c:AV),vs[i]? =some v→cs[i]? =some c→Rep w I h μ v c):Rep w I h μ (.agg vs) (.agg cs)
  |tup (vs:Array Value) (cs:List AV) (hl:vs.size=cs.length) (hc: ∀(i:Nat) (v:Value) (c:AV),vs[i]? =some v→cs[i]? =some c→Rep w I h μ v c):Rep w I h μ (.tuple vs) (.tup cs)
  |fn (f:Fn) (as cs:Array Value) (xs ys:List AV) (ha:as.size=xs.length) (hb:cs.size=ys.length) (h1: ∀(i:Nat) (v:Value) (c:AV),as[i]? =some v→xs[i]? =some c→Rep w I h μ v c)
      (h2: ∀(i:Nat) (v:Value) (c:AV),cs[i]? =some v→ys[i]? =some c→Rep w I h μ v c):Rep w I h μ (.func f as cs) (.fn f xs ys)
  |nilfn:Rep w I h μ .nilFunc .nilfn
  |iface (t:TypeId) (v:Value) (x:AV) (hv:Rep w I h μ v x):Rep w I h μ (.iface t v) (.iface t x)
  |niliface:Rep w I h μ .nilIface .niliface
  |mptr (b g:Nat) (hp:zk h μ b g):Rep w I h μ (.map (some g)) (.mptr b)
  |fmap (k v:Ty) (l:List (k.den×v.den)) (g:Nat) (es:Array MapEntry) (c:Nat) (hi: ∀o,I g o) (hg:w.heap[g]? =some (.map es c)) (hd:qqe k v es c l):Rep w I h μ (.map (some g)) (.fmap k v l)
def Wr(h:qa)(μ:Nat→Option Nat)(g o:Nat):Prop:=
  ∃i,μ i=some g∧((∃cs,h[i]? =some (.var cs))∨(∃t l,h[i]? =some (.arr t l true))∨(∃t l,h[i]? =some (.arr t l false)∧l.length*t.sz≤o)∨(∃k v l,h[i]? =some (.mp k v l)))
def j8:AB→Prop
  | .var _=>True
  | .arr _ _ _=>True
  | .mp _ _ _=>True
  |_=>False
def uc(w:World)(I:Nat→Nat→Prop)(μ:Nat→Option Nat)(i:Nat):(k v:Ty)→List (k.den×v.den)→Prop
  | .pair .bool k,v,l=> ∃r q es c since c0 seen,μ i=some r∧w.heap[r]? =some (.mapIter (some q) since seen c0)∧(∀o,I q o)∧w.heap[q]? =some (.map es c)∧ItD k v es c since c0 seen l
  |k,v,l=> ∃g es c,μ i=some g∧w.heap[g]? =some (.map es c)∧qqe k v es c l
theorem uc.of{w:World}{I:Nat→Nat→Prop}{μ:Nat→Option Nat}{i:Nat}{k v:Ty}{l:List (k.den×v.den)}(hk:qin k=true):uc w I μ i k v l= ∃g es c,μ i=some g∧w.heap[g]? =some (.map es c)∧qqe k v es c l:=by
  cases k <;>first|rfl|cases hk
theorem uc.mono{w w':World}{I I':Nat→Nat→Prop}{μ μ':Nat→Option Nat}{i i':Nat}{k v:Ty}{l:List (k.den×v.den)}(hmu:μ' i'=μ i)(hb: ∀g,μ i=some g→w'.heap[g]? =w.heap[g]?)
    (hI: ∀g o,I g o→I' g o) (hf: ∀g,(∀o,I g o)→w'.heap[g]? =w.heap[g]?) (r:uc w I μ i k v l):uc w' I' μ' i' k v l:=by
  have key: ∀{k v:Ty} {l:List (k.den×v.den)},(∃g es c,μ i=some g∧w.heap[g]? =some (.map es c)∧qqe k v es c l)→∃g es c,μ' i'=some g∧w'.heap[g]? =some (.map es c)∧qqe k v es c l:=by
    rintro k v l ⟨g,es,c,h1,h2,h3⟩
    exact⟨g,es,c,hmu.trans h1,(hb g h1).trans h2,h3⟩
  cases k with
  | pair a b =>
    cases a with
    | bool =>
      obtain⟨r,q,es,c,since,c0,seen,h1,h2,h3,h4,h5⟩:=r
      exact⟨r,q,es,c,since,c0,seen,hmu.trans h1,(hb r h1).trans h2,fun o=>hI _ _ (h3 o),(hf q h3).trans h4,h5⟩
    |_=>exact key r
  |_=>exact key r
def zm(w:World)(I:Nat→Nat→Prop)(h:qa)(μ:Nat→Option Nat)(i:Nat):AB→Prop
  | .hole=>True
  | .gone=>True
  | .var cs=> ∃g vs e,μ i=some g∧w.heap[g]? =some (.cells vs e (0,0))∧vs.size=cs.length∧∀(k:Nat) (v:Value) (c:AV),vs[k]? =some v→cs[k]? =some c→Rep w I h μ v c
  | .arr t l fr=>l=[]∨∃g vs e,μ i=some g∧js t w g vs e∧l.length*t.sz≤vs.size∧
      (∀k (hk:k<l.length),RD w I t l[k] ((vs.toList.drop (k*t.sz)).take t.sz))∧(fr=false→∀o,o<l.length*t.sz→I g o)
  | .mp k v l=>uc w I μ i k v l
class Lay where
  cells:List (Nat×List Value)
  /-- Variables that hold some number. -/
  ints:List Nat
def qnz[Lay](w:World)(I:Nat→Nat→Prop):Prop:=
  (∀p∈Lay.cells,(∃e fz,w.heap[p.1]? =some (.cells p.2.toArray e fz))∧∀i,i<p.2.length→I p.1 i)∧
  ∀g∈Lay.ints,∃m,w.cell? ⟨g,0,none⟩=some (.int .i64 m)∧I g 0
set_option linter.unusedSectionVars false
variable [Lay]
structure RelH (w:World) (I:Nat→Nat→Prop) (μ:Nat→Option Nat) (h:qa):Prop where
  inj: ∀(i j:Nat) (x y:AB) (g:Nat),h[i]? =some x→h[j]? =some y→j8 x→j8 y→μ i=some g→μ j=some g→i=j
  lt: ∀(i:Nat) (x:AB) (g:Nat),h[i]? =some x→j8 x→μ i=some g→g<w.heap.size
  blk: ∀(i:Nat) (x:AB),h[i]? =some x→zm w I h μ i x
  disj: ∀g o,I g o→¬Wr h μ g o
  ilt: ∀g o,I g o→g<w.heap.size
  laid:qnz w I
def NF:Obj→Prop
  | .cells _ _ fz=>fz=(0,0)
  |_=>True
structure Fr (w:World) (W I:Nat→Nat→Prop) (w':World) (W' I':Nat→Nat→Prop):Prop where
  os:w'.os=w.os
  tape:w'.tape=w.tape
  output:w'.output=w.output
  size:w.heap.size≤w'.heap.size
  same: ∀g,g<w.heap.size→(∀o,¬W g o)→w'.heap[g]? =w.heap[g]?
  part: ∀(g:Nat) (vs:Array Value) (e:TypeId) (fz:Nat×Nat),g<w.heap.size→w.heap[g]? =some (.cells vs e fz)→∃vs',w'.heap[g]? =some (.cells vs' e fz)∧vs'.size=vs.size∧∀o,¬W g o→vs'[o]? =vs[o]?
  nf: ∀g:Nat,g<w.heap.size→(∀x,w.heap[g]? =some x→NF x)→∀x,w'.heap[g]? =some x→NF x
  wr: ∀g o,W' g o→W g o∨w.heap.size≤g
  im: ∀g o,I g o→I' g o
  im': ∀g o,I' g o→I g o∨W g o∨w.heap.size≤g
theorem Fr.refl(w:World)(W I:Nat→Nat→Prop):Fr w W I w W I:=
  ⟨rfl,rfl,rfl,Nat.le_refl _,fun _ _ _=>rfl,fun _ vs _ _ _ h=>⟨vs,h,rfl,fun _ _=>rfl⟩,fun _ _ hh=>hh,fun _ _ h=> .inl h,fun _ _ h=>h,fun _ _ h=> .inl h⟩
theorem Fr.trans{w w1 w2:World}{W I W1 I1 W2 I2:Nat→Nat→Prop}(h:Fr w W I w1 W1 I1)(k:Fr w1 W1 I1 w2 W2 I2):Fr w W I w2 W2 I2 where
  os:=k.os.trans h.os
  tape:=k.tape.trans h.tape
  output:=k.output.trans h.output
  size:=Nat.le_trans h.size k.size
  same:=fun g hg hn=>(k.same g (Nat.lt_of_lt_of_le hg h.size) (fun o ho=>(h.wr g o ho).elim (hn o) (fun hle=>absurd hg (Nat.not_lt.2 hle)))).trans (h.same g hg hn)
  part:=fun g vs e fz hg hv=>by
    obtain⟨vs1,h1,h2,h3⟩:=h.part g vs e fz hg hv
    obtain⟨vs2,k1,k2,k3⟩:=k.part g vs1 e fz (Nat.lt_of_lt_of_le hg h.size) h1
    refine⟨vs2,k1,k2.trans h2,fun o ho=>(k3 o fun hw=> ?_).trans (h3 o ho)⟩
    exact(h.wr g o hw).elim ho (fun hle=>absurd hg (Nat.not_lt.2 hle))
  nf:=fun g hlt hg=>k.nf g (Nat.lt_of_lt_of_le hlt h.size) (h.nf g hlt hg)
  wr:=fun g o hw=>(k.wr g o hw).elim (fun h1=>h.wr g o h1) (fun hle=> .inr (Nat.le_trans h.size hle))
  im:=fun g o hi=>k.im g o (h.im g o hi)
  im':=fun g o hi=>(k.im' g o hi).elim (fun h1=>h.im' g o h1) (fun h1=>h1.elim (fun h2=>(h.wr g o h2).elim (fun h3=> .inr (.inl h3)) (fun h3=> .inr (.inr h3))) (fun hle=> .inr (.inr (Nat.le_trans h.size hle))))
theorem Fr.cell{w w':World}{W I W' I':Nat→Nat→Prop}(h:Fr w W I w' W' I'){g o:Nat}(hn: ¬W g o)(hg:g<w.heap.size){u:Value}(hu:w.cell? ⟨g,o,none⟩=some u):
    w'.cell? ⟨g,o,none⟩=some u:=by
  unfold World.cell? at hu ⊢
  simp only [Option.isSome_none,Bool.false_eq_true,if_false] at hu ⊢
  cases hb:w.heap[g]? with
  |none=>rw [hb] at hu;cases hu
  | some x =>
    rw [hb] at hu
    cases x with
    | cells vs e fz =>
      obtain⟨vs',h1,_,h3⟩:=h.part g vs e fz hg hb
      rw [h1]
      simp only at hu ⊢
      rw [h3 o hn]
      exact hu
    |_=>cases hu
theorem qnz.step{w w':World}{W I W' I':Nat→Nat→Prop}(l:qnz w I)(hd: ∀g o,I g o→¬W g o)(hlt: ∀g o,I g o→g<w.heap.size)(F:Fr w W I w' W' I'):qnz w' I':=
  ⟨fun p hp=>by
    obtain⟨⟨e,fz,h1⟩,h2⟩:=l.1 p hp
    obtain⟨vs',h3,h4,h5⟩:=F.part p.1 p.2.toArray e fz (Array.getElem?_eq_some_iff.1 h1).1 h1
    refine⟨⟨e,fz, ?_⟩,fun i hi=>F.im _ _ (h2 i hi)⟩
    rw [h3]
    congr 2
    refine Array.ext_getElem? fun i=> ?_
    by_cases hi:i<p.2.length
    · exact h5 i (hd _ _ (h2 i hi))
    · rw [Array.getElem?_eq_none (by rw [h4];simpa using hi),Array.getElem?_eq_none (by simpa using hi)],
  fun g hg=>let ⟨m,h1,h2⟩:=l.2 g hg;⟨m,F.cell (hd _ _ h2) (hlt _ _ h2) h1,F.im _ _ h2⟩⟩
def qar:AB→AB→Prop
  | .hole,_=>True
  | .gone,y=>y= .gone
  | .var _,y=> ∃cs,y= .var cs
  | .arr t l _,y=>y= .gone∨∃l' fr,y= .arr t l' fr∧l'.length=l.length
  | .mp k v _,y=>y= .gone∨∃l,y= .mp k v l
structure HM (h:qa) (μ:Nat→Option Nat) (h':qa) (μ':Nat→Option Nat):Prop where
  kept: ∀(b:Nat) (x:AB),h[b]? =some x→∃y,h'[b]? =some y∧qar x y
  mu: ∀(b:Nat) (x y:AB),h[b]? =some x→h'[b]? =some y→j8 x→j8 y→μ' b=μ b
theorem HM.refl(h:qa)(μ:Nat→Option Nat):HM h μ h μ:=
  ⟨fun b x hb=>⟨x,hb,by cases x with
    |hole=>trivial
    |gone=>rfl
    |var cs=>exact⟨cs,rfl⟩
    |arr t l fr=>exact .inr ⟨l,fr,rfl,rfl⟩
    |mp k v l=>exact .inr ⟨l,rfl⟩⟩,fun _ _ _ _ _ _ _=>rfl⟩
theorem qar.trans{x y z:AB}(h:qar x y)(k:qar y z):qar x z:=by
  cases x with
  |hole=>trivial
  |gone=>obtain rfl:=h;exact k
  |var cs=>obtain⟨cs',rfl⟩:=h;exact k
  | mp _ _ l =>
    rcases h with rfl|⟨l',rfl⟩
    · exact .inl k
    · exact k
  | arr t l fr =>
    rcases h with rfl|⟨l',fr',rfl,hl⟩
    · exact .inl k
    · rcases k with rfl | ⟨l2, fr2, rfl, hl2⟩
      · exact .inl rfl
      · exact .inr ⟨l2,fr2,rfl,hl2.trans hl⟩
theorem qar.mid{x y z:AB}(h:qar x y)(k:qar y z)(hx:j8 x)(hz:j8 z):j8 y:=by
  cases x with
  |hole=>cases hx
  |gone=>cases hx
  |var cs=>obtain⟨cs',rfl⟩:=h;trivial
  | mp _ _ l =>
    rcases h with rfl|⟨l',rfl⟩
    · obtain rfl:=k;cases hz
    · trivial
  | arr t l fr =>
    rcases h with rfl|⟨l',fr',rfl,hl⟩
    · obtain rfl:=k;cases hz
    · trivial
theorem HM.trans{h h1 h2:qa}{μ μ1 μ2:Nat→Option Nat}(a:HM h μ h1 μ1)(b:HM h1 μ1 h2 μ2):HM h μ h2 μ2:=by
  refine⟨fun i x hx=> ?_,fun i x z hx hz lx lz=> ?_⟩
  · obtain ⟨y, hy, ky⟩ := a.kept i x hx
    obtain⟨z,hz,kz⟩:=b.kept i y hy
    exact⟨z,hz,ky.trans kz⟩
  · obtain ⟨y, hy, ky⟩ := a.kept i x hx
    obtain⟨z',hz',kz⟩:=b.kept i y hy
    rw [hz] at hz'
    injection hz' with hz'
    subst hz'
    have ly:=ky.mid kz lx lz
    exact(b.mu i y z hy hz ly lz).trans (a.mu i x y hx hy lx ly)
theorem qar.ne_hole{x y:AB}(h:qar x y)(hx:x≠.hole):y≠.hole:=by
  cases x with
  |hole=>exact absurd rfl hx
  |gone=>obtain rfl:=h;simp
  |var cs=>obtain⟨cs',rfl⟩:=h;simp
  |mp _ _ l=>rcases h with rfl|⟨l',rfl⟩ <;>simp
  |arr t l fr=>rcases h with rfl|⟨l',fr',rfl,_⟩ <;>simp
theorem qk6{x:AB}(h1:x≠.hole)(h2:x≠.gone):j8 x:=by
  cases x with
  |hole=>exact absurd rfl h1
  |gone=>exact absurd rfl h2
  |var=>trivial
  |arr=>trivial
  |mp=>trivial
theorem zk.mono{h h':qa}{μ μ':Nat→Option Nat}(m:HM h μ h' μ'){b g:Nat}(p:zk h μ b g):zk h' μ' b g:=by
  obtain⟨x,hx,h1,h2⟩:=p
  obtain⟨y,hy,k⟩:=m.kept b x hx
  refine⟨y,hy,k.ne_hole h1,fun hg=> ?_⟩
  have ly:=qk6 (k.ne_hole h1) hg
  have hxg:x≠.gone:=by
    rintro rfl
    obtain rfl:=k
    exact hg rfl
  rw [m.mu b x y hx hy (qk6 h1 hxg) ly]
  exact h2 hxg
theorem qdt.mono {w w' : World} {h h' : qa} {μ μ' : Nat → Option Nat} (m : HM h μ h' μ')
    (hs: ∀(t:Ty) (g:Nat) (vs:Array Value) (e:TypeId),js t w g vs e→∃vs',js t w' g vs' e∧vs'.size=vs.size)
    {t:Ty} {b:Nat} {full:Bool} {a:Option Addr} {n cap:Nat} (p:qdt w h μ t b full a n cap):qdt w' h' μ' t b full a n cap:=by
  obtain⟨x,hx,h1,h2⟩:=p
  obtain⟨y,hy,k⟩:=m.kept b x hx
  refine⟨y,hy,k.ne_hole h1, ?_⟩
  rintro t' l' fr' rfl
  cases x with
  |hole=>exact absurd rfl h1
  |gone=>cases k
  |var cs=>obtain⟨cs',hc⟩:=k;cases hc
  |mp _ _ l=>rcases k with hc|⟨l',hc⟩ <;>cases hc
  | arr t0 l0 fr0 =>
    rcases k with hk|⟨l2,fr2,hk,hl⟩
    · cases hk
    · cases hk
      obtain⟨rfl,e2,e3,e4,e5⟩:=h2 _ _ _ rfl
      refine⟨rfl,e2.trans hl.symm,e3,e4, ?_⟩
      rcases e5 with e5|⟨g,vs,e,f1,f2,f3,f4⟩
      · exact .inl e5
      · obtain ⟨vs', q1, q2⟩ := hs _ g vs e f3
        exact .inr ⟨g,vs',e,(m.mu b _ _ hx hy trivial trivial).trans f1,f2,q1,by omega⟩
def qxi(w:World)(I:Nat→Nat→Prop)(w':World):Prop:=
  (∀g o u,I g o→w.cell? ⟨g,o,none⟩=some u→w'.cell? ⟨g,o,none⟩=some u)∧∀g,(∀o,I g o)→w'.heap[g]? =w.heap[g]?
theorem Rep.mono{w w':World}{I I':Nat→Nat→Prop}{h h':qa}{μ μ':Nat→Option Nat}(m:HM h μ h' μ')
    (hs: ∀(t:Ty) (g:Nat) (vs:Array Value) (e:TypeId),js t w g vs e→∃vs',js t w' g vs' e∧vs'.size=vs.size)
    (hcc:qxi w I w') (hI: ∀g o,I g o→I' g o)
    {v:Value} {x:AV} (r:Rep w I h μ v x):Rep w' I' h' μ' v x:=by
  have hc:=hcc.1
  induction r with
  |junk v=>exact .junk v
  |t=>exact .t
  |f=>exact .f
  |bool b=>exact .bool b
  |int k n=>exact .int k n
  |str l=>exact .str l
  |nilsl=>exact .nilsl
  |sl t l full a n cap hr hf=>exact .sl t l full a n cap (hr.mono hc hI) hf
  |own t b full a n cap ho=>exact .own t b full a n cap (ho.mono m hs)
  |ptr b j g hp=>exact .ptr b j g (hp.mono m)
  |eptr t b i j g hp=>exact .eptr t b i j g (hp.mono m)
  |iptr t x j g o cs hr hcs=>exact .iptr t x j g o cs (hr.mono hc hI) (fun k u hu=>⟨hc _ _ _ (hcs k u hu).2 (hcs k u hu).1,hI _ _ (hcs k u hu).2⟩)
  |nilptr=>exact .nilptr
  |agg vs cs hl hcs ih=>exact .agg vs cs hl ih
  |tup vs cs hl hcs ih=>exact .tup vs cs hl ih
  |fn f as cs xs ys ha hb h1 h2 ih1 ih2=>exact .fn f as cs xs ys ha hb ih1 ih2
  |nilfn=>exact .nilfn
  |iface t v x hv ih=>exact .iface t v x ih
  |niliface=>exact .niliface
  |mptr b g hp=>exact .mptr b g (hp.mono m)
  |fmap k v l g es c hi hg hd=>exact .fmap k v l g es c (fun o=>hI _ _ (hi o)) ((hcc.2 g hi).trans hg) hd
theorem RelH.cell{w w':World}{I I':Nat→Nat→Prop}{h h':qa}{μ μ':Nat→Option Nat}(R:RelH w I μ h)(f:Fr w (Wr h μ) I w' (Wr h' μ') I'):
    ∀g o u,I g o→w.cell? ⟨g,o,none⟩=some u→w'.cell? ⟨g,o,none⟩=some u:=
  fun g o _u hi hu=>f.cell (R.disj g o hi) (R.ilt g o hi) hu
theorem RelH.keptI{w w':World}{I I':Nat→Nat→Prop}{h h':qa}{μ μ':Nat→Option Nat}(R:RelH w I μ h)(f:Fr w (Wr h μ) I w' (Wr h' μ') I'):qxi w I w':=
  ⟨R.cell f,fun g hi=>f.same g (R.ilt g 0 (hi 0)) fun o=>R.disj g o (hi o)⟩
theorem Fr.shape{w w':World}{W I W' I':Nat→Nat→Prop}(f:Fr w W I w' W' I'):
    ∀(t:Ty) (g:Nat) (vs:Array Value) (e:TypeId),js t w g vs e→∃vs',js t w' g vs' e∧vs'.size=vs.size:=by
  intro t g vs e hg
  have hlt:=hg.lt
  obtain⟨fz,hg,hz⟩:=hg
  obtain⟨vs',h1,h2,_⟩:=f.part g vs e _ hlt hg
  exact⟨vs',⟨fz,h1,by rw [h2];exact hz⟩,h2⟩
theorem Rep.step{w w':World}{I I':Nat→Nat→Prop}{h h':qa}{μ μ':Nat→Option Nat}(R:RelH w I μ h)(f:Fr w (Wr h μ) I w' (Wr h' μ') I')(m:HM h μ h' μ')
    {v:Value} {x:AV} (r:Rep w I h μ v x):Rep w' I' h' μ' v x:=r.mono m f.shape (R.keptI f) f.im
end Go.AM
namespace Go.AM
set_option linter.unusedSectionVars false
variable [Lay]
def qes(P:Program)(t:TypeId):UD→Prop
  | .int k=>P.underlying t=some (.int k)
  | .bool=>P.underlying t=some .bool
  | .str=>P.underlying t=some .string
  | .slice e=>P.underlying t=some (.slice e)
  | .array n e=>P.underlying t=some (.array n e)
  | .ptr e=>P.underlying t=some (.pointer e)
  | .struct fs=> ∃fields,P.underlying t=some (.struct fields)∧fields.toList.map (fun f=>(f.type,f.offset))=fs
  | .map k v=>P.underlying t=some (.map k v)
  | .iface=> ∃ms,P.underlying t=some (.interface ms)
  | .other=> ∃d,P.underlying t=some d∧(match d with| .struct _=>False| .array _ _=>False|_=>True)
def jfh(z:Value)(zs:List AV):Prop:=
  z.cells.size=zs.length∧∀(k:Nat) (v:Value) (c:AV),z.cells[k]? =some v→zs[k]? =some c→∀w I h μ,Rep w I h μ v c
structure EnvOK (E:Env):Prop where
  mixed:E.P.follows .mixedOrders=true
  knows: ∀t,(E.ti t).kn=true∨E.ti t=default
  info: ∀t,(E.ti t).kn=true→∃i,E.P.info? t=some i∧i.size=(E.ti t).size∧i.bytes=(E.ti t).bytes
  und: ∀t,(E.ti t).kn=true→qes E.P t (E.ti t).ud
  flds: ∀t fs,(E.ti t).ud= .struct fs→∀p∈fs,(E.ti p.1).kn=true
  zero: ∀t,(E.ti t).kn=true→(E.ti t).zero.length=(E.ti t).size→∃i z,E.P.info? t=some i∧i.zero=some z∧jfh z (E.ti t).zero
  sl: ∀t u,(E.ti t).ty=some (.sl u)→∃e,(E.ti t).ud= .slice e∧(E.ti e).ty=some u
  ty: ∀t u,(E.ti t).ty=some u→(E.ti t).size=u.sz∧(E.ti t).kn=true∧∃i z,E.P.info? t=some i∧i.zero=some z∧∀w I,RD w I u u.zero z.cells.toList
  zsc: ∀t u,(E.ti t).ty=some u→qeb u=true→∃i z,E.P.info? t=some i∧i.zero=some z∧yt u u.zero z
  eqs: ∀t,t∈E.eqs→∀w I h μ xs ys as bs b,Rep w I h μ (.agg xs) (.agg as)→Rep w I h μ (.agg ys) (.agg bs)→eqT E (E.ti t).ud as bs=some b→
    ∀op:BinOp,(op= .eql∨op= .neq)→∀x y,(eqGuard op t x y (.agg xs) (.agg ys)).run E.P w= .ok () w∧(Op.equal t (.agg xs) (.agg ys)).run E.P w= .ok b w
  tabs: ∀p∈E.tabs,(p.1,p.2.2.map (Value.int p.2.1))∈Lay.cells
theorem j0{ti:TI}(h:ti.size≤1000000):ti.kn=true:=by simp [TI.kn,h]
theorem j7{ti:TI}(h:ti.ud.isOther=false):ti.kn=true:=by simp [TI.kn,h]
theorem qrb{E:Env}(h: ∀t,(E.ti t).kn=true∨E.ti t=default){t:TypeId}(hz:(E.ti t).zero.length=(E.ti t).size):(E.ti t).kn=true:=by
  rcases h t with e|e
  · exact e
  · rw [e] at hz
    exact absurd hz (by decide)
def GOK(g:Nat→AB)(h:qa):Prop:= ∀b,g b=qd h b∨g b= .hole
theorem q7e(h:qa)(rs:List Nat):GOK (qhh (qem h rs)) h:=by
  intro b
  induction rs with
  |nil=>exact .inr rfl
  | cons r rs ih =>
    simp only [qem,qhh]
    split
    · rename_i he
      have:b=r:=(Nat.eq_of_beq_eq_true he).symm
      subst this
      exact .inl rfl
    · exact ih
theorem wm{h:qa}{b:Nat}{x:AB}(hb:qd h b=x)(hx:x≠.hole):h[b]? =some x:=by
  unfold qd at hb
  rw [List.getD_eq_getElem?_getD] at hb
  cases hq:h[b]? with
  |none=>rw [hq] at hb;exact absurd hb.symm hx
  |some y=>rw [hq] at hb;simp at hb;rw [hb]
theorem GOK.some{g:Nat→AB}{h:qa}(G:GOK g h){b:Nat}{x:AB}(hb:g b=x)(hx:x≠.hole):h[b]? =some x:=by
  rcases G b with e|e
  · exact wm (e.symm.trans hb) hx
  · exact absurd (hb.symm.trans e) hx
def kj (E : Env) (o : Oper) (ρ : Operand → Value) (w : World) (I : Nat → Nat → Prop) (h : qa) (μ : Nat → Option Nat) (fr : FR) : Prop :=
  ∃ v' nx w' I' μ', (execOp ρ o).run E.P w = .ok nx w' ∧ (nx = .value v' ∨ (nx = .skip ∧ v' = undef)) ∧ Rep w' I' (qg h fr.ws) μ' v' fr.v ∧
    RelH w' I' μ' (qg h fr.ws)∧Fr w (Wr h μ) I w' (Wr (qg h fr.ws) μ') I'∧HM h μ (qg h fr.ws) μ'
theorem kj.quiet{E:Env}{o:Oper}{ρ:Operand→Value}{w:World}{I:Nat→Nat→Prop}{h:qa}{μ:Nat→Option Nat}{fr:FR}(R:RelH w I μ h)(hw:fr.ws=[])
    (v':Value) (hr:(execOp ρ o).run E.P w= .ok (.value v') w) (hv:Rep w I h μ v' fr.v):kj E o ρ w I h μ fr:=by
  refine⟨v',_,w,I,μ,hr,.inl rfl, ?_, ?_, ?_, ?_⟩ <;>rw [hw] <;>simp only [qg]
  · exact hv
  · exact R
  · exact Fr.refl _ _ _
  · exact HM.refl _ _
section
variable {w:World} {I:Nat→Nat→Prop} {h:qa} {μ:Nat→Option Nat}
theorem jg{v:Value}{k:IntKind}{n:Int}(r:Rep w I h μ v (.int k n)):v= .int k n:=by cases r;rfl
theorem qu{v:Value}{x:AV}{b:Bool}(r:Rep w I h μ v x)(hb:qnk x=some b):v= .bool b:=by
  cases r <;>simp [qnk] at hb <;>subst hb <;>rfl
theorem ji{v:Value}{s:Str}(r:Rep w I h μ v (.str s)):v= .string ⟨s.toArray⟩:=by cases r;rfl
theorem ql{b:Bool}{r:Option FR}{fr:FR}(hc:chk b r=some fr):b=true∧r=some fr:=by
  cases b with
  |true=>exact⟨rfl,hc⟩
  |false=>cases hc
theorem qfp(s:Str):(⟨s.toArray⟩:ByteArray).size=s.length:=by simp [ByteArray.size]
theorem RD.rep{t:Ty}{x:t.den}{cs:List Value}(r:RD w I t x cs): ∀(k:Nat) (v:Value) (c:AV),cs[k]? =some v→(cellsOf t x)[k]? =some c→Rep w I h μ v c:=by
  induction r with
  |unit=>intro k v c hv _;simp at hv
  | int k n => intro i v c hv hc; cases i with
    |zero=>simp [cellsOf] at hv hc;subst hv;subst hc;exact .int _ _
    |succ i=>simp at hv
  | bool b => intro i v c hv hc; cases i with
    |zero=>simp [cellsOf] at hv hc;subst hv;subst hc;exact .bool _
    |succ i=>simp at hv
  | str l => intro i v c hv hc; cases i with
    |zero=>simp [cellsOf] at hv hc;subst hv;subst hc;exact .str _
    |succ i=>simp at hv
  | pair a b x y cs ds hx hy ihx ihy =>
    intro i v c hv hc
    have hl:cs.length=(cellsOf a x).length:=by
      rw [hx.len]
      clear ihx ihy hv hc hy
      induction hx with
      |pair a b x y cs ds hx hy ihx ihy=>simp [cellsOf,Ty.sz,ihx,ihy]
      |val=>rfl
      |_=>rfl
    simp only [cellsOf] at hc
    by_cases hi:i<cs.length
    · rw [List.getElem?_append_left hi] at hv
      rw [List.getElem?_append_left (by omega)] at hc
      exact ihx i v c hv hc
    · rw [List.getElem?_append_right (by omega)] at hv
      rw [List.getElem?_append_right (by omega)] at hc
      rw [←hl] at hc
      exact ihy _ v c hv hc
  | sl t l a cap cs hcap hel hat ih =>
    intro i v c hv hc
    cases i with
    | zero =>
      simp [cellsOf] at hv hc
      subst hv;subst hc
      exact .sl t l false a _ cap (.sl t l a cap cs hcap hel hat) (fun e=>by cases e)
    |succ i=>simp at hv
  | val k n s li lm cs ds hi hm ihi ihm =>
    intro i v c hv hc
    obtain⟨a,m,cap,rfl⟩: ∃a m cap,cs=[.slice a m cap]:=by cases hi;exact⟨_,_,_,rfl⟩
    obtain⟨a2,m2,cap2,rfl⟩: ∃a m cap,ds=[.slice a m cap]:=by cases hm;exact⟨_,_,_,rfl⟩
    simp only [cellsOf,GVal.kind,GVal.n,GVal.s,GVal.items,GVal.names] at hc
    match i,hv,hc with
    |0,hv,hc=>simp at hv hc;subst hv;subst hc;exact .int _ _
    |1,hv,hc=>simp at hv hc;subst hv;subst hc;exact .int _ _
    |2,hv,hc=>simp at hv hc;subst hv;subst hc;exact .str _
    |3,hv,hc=>simp at hv hc;subst hv;subst hc;exact .sl .val li false _ _ _ hi (fun e=>by cases e)
    |4,hv,hc=>simp at hv hc;subst hv;subst hc;exact .sl .str lm false _ _ _ hm (fun e=>by cases e)
    |i+5,hv,hc=>simp at hv
theorem w6(t:Ty)(x:t.den):(cellsOf t x).length=t.sz:=by
  induction t with
  |pair a b iha ihb=>simp [cellsOf,Ty.sz,iha,ihb]
  |val=>rfl
  |_=>rfl
theorem q7d {E : Env} (hE : EnvOK E) {t : TypeId} (hs : (E.ti t).kn = true) {a : Addr} {cs : List Value} {as : List AV} {fr : FR}
    (hl:cs.length=(E.ti t).size) (hla:as.length=cs.length) (hc: ∀j v,cs[j]? =some v→w.cell? (a.add j)=some v)
    (hr: ∀(k:Nat) (v:Value) (c:AV),cs[k]? =some v→as[k]? =some c→Rep w I h μ v c) (hf:gk (E.ti t) as=some fr):
    ∃v,(Instr.loadAt t (.pointer (some a))).run E.P w= .ok v w∧fr.ws=[]∧fr.cs=[]∧Rep w I h μ v fr.v:=by
  obtain⟨i,hi,hsz,_⟩:=hE.info t hs
  have hu:=hE.und t hs
  unfold gk at hf
  cases hag:(E.ti t).ud.isAgg with
  | true =>
    rw [hag] at hf
    simp only [Option.some.injEq] at hf
    subst hf
    refine⟨.agg cs.toArray, ?_,rfl,rfl, ?_⟩
    · have hlc := run_loadCells_list (P := E.P) w a cs hc
      rw [hl,←hsz] at hlc
      have hagg:(isAgg t).run E.P w= .ok true w:=by
        unfold isAgg
        revert hu hag
        cases (E.ti t).ud <;>simp [qes,UD.isAgg]
        · intro h1;simp [run_underlying h1]
        · intro x h1 h2;simp [run_underlying h1]
      simp [Instr.loadAt,Instr.sureAddr,loadVar,hagg,sizeOf,typeInfo,hi,hlc]
    · refine .agg _ _ (by simp [hla]) fun k v c hv hcc=>hr k v c (by simpa using hv) hcc
  | false =>
    rw [hag] at hf
    simp only at hf
    split at hf
    · rename_i v0
      simp only [Option.some.injEq] at hf
      subst hf
      have h1:cs.length=1:=by simpa using hla.symm
      match cs,h1 with
      | [u], _ =>
        refine⟨u, ?_,rfl,rfl,hr 0 u v0 rfl rfl⟩
        have hagg:(isAgg t).run E.P w= .ok false w:=by
          unfold isAgg
          revert hu hag
          cases (E.ti t).ud with
          | other =>
            rintro⟨d,hd,hn⟩ _
            rw [Sem.run_bind,run_underlying hd]
            cases d <;>first|(exact hn.elim)|simp
          |_=>simp [qes,UD.isAgg] <;>first|(intro h1;simp [run_underlying h1];done)|(intro _ h1;simp [run_underlying h1])
        have h0:=hc 0 u rfl
        rw [show a.add 0=a from by simp [Addr.add]] at h0
        simp [Instr.loadAt,Instr.sureAddr,loadVar,hagg,h0]
    · cases hf
end
end Go.AM
namespace Go.AM
set_option linter.unusedSectionVars false
variable [Lay]
theorem qi(v:AB): ∀(h:qa) (b i:Nat),b≤h.length→(qe h b v)[i]? =if i=b then some v else h[i]?
  |[],0,i,_=>by cases i <;>simp [qe]
  |[],b+1,_,hb=>by simp at hb
  |x::r,0,i,_=>by cases i <;>simp [qe]
  |x::r,b+1,0,_=>by simp [qe]
  | x :: r, b + 1, i + 1, hb => by
    have:=qi v r b i (by simpa using hb)
    simp only [qe,List.getElem?_cons_succ,this]
    simp
theorem uh(v:AB): ∀(h:qa) (b:Nat),b≤h.length→h.length≤(qe h b v).length
  |[],0,_=>by simp [qe]
  |[],b+1,hb=>by simp at hb
  |x::r,0,_=>by simp [qe]
  | x :: r, b + 1, hb => by
    have:=uh v r b (by simpa using hb)
    simp only [qe,List.length_cons]
    omega
def upd(μ:Nat→Option Nat)(b g:Nat):Nat→Option Nat:=fun i=>if i=b then some g else μ i
theorem jy(μ:Nat→Option Nat)(b g:Nat):upd μ b g b=some g:=by simp [upd]
theorem qal(μ:Nat→Option Nat){b i:Nat}(g:Nat)(h:i≠b):upd μ b g i=μ i:=by simp [upd,h]
section
variable {w w':World} {I I':Nat→Nat→Prop} {h h':qa} {μ μ':Nat→Option Nat}
theorem zm.mono(m:HM h μ h' μ')
    (hs: ∀(t:Ty) (g:Nat) (vs:Array Value) (e:TypeId),js t w g vs e→∃vs',js t w' g vs' e∧vs'.size=vs.size)
    (hc:qxi w I w') (hI: ∀g o,I g o→I' g o)
    {i:Nat} {x:AB} (hmu:j8 x→μ' i=μ i) (hb: ∀g,μ i=some g→w'.heap[g]? =w.heap[g]?) (r:zm w I h μ i x):zm w' I' h' μ' i x:=by
  cases x with
  |hole=>trivial
  |gone=>trivial
  | var cs =>
    obtain⟨g,vs,e,h1,h2,h3,h4⟩:=r
    exact⟨g,vs,e,(hmu trivial).trans h1,(hb g h1).trans h2,h3,fun k v c hv hc'=>(h4 k v c hv hc').mono m hs hc hI⟩
  | arr t l fr =>
    rcases r with r|⟨g,vs,e,h1,h2,h3,h4,h5⟩
    · exact .inl r
    · exact .inr ⟨g,vs,e,(hmu trivial).trans h1,h2.eq (hb g h1),h3,fun k hk=>(h4 k hk).mono hc.1 hI,fun hf o ho=>hI _ _ (h5 hf o ho)⟩
  |mp k v l=>exact uc.mono (hmu trivial) hb hI hc.2 r
theorem RelH.layF (R : RelH w I μ h) {b0 : Nat} (hb : b0 ≤ h.length) (hh : h[b0]? = none ∨ h[b0]? = some .hole) (ob : Obj) (ab : AB)
    (hB:zm (w.alloc ob) I (qe h b0 ab) (upd μ b0 w.heap.size) b0 ab):
    RelH (w.alloc ob) I (upd μ b0 w.heap.size) (qe h b0 ab)∧
      Fr w (Wr h μ) I (w.alloc ob) (Wr (qe h b0 ab) (upd μ b0 w.heap.size)) I∧HM h μ (qe h b0 ab) (upd μ b0 w.heap.size):=by
  have qd: ∀i:Nat,i≠b0→(qe h b0 ab)[i]? =h[i]? :=fun i hi=>by rw [qi ab h b0 i hb,if_neg hi]
  have hget0:(qe h b0 ab)[b0]? =some ab:=by rw [qi ab h b0 b0 hb,if_pos rfl]
  have hheap: ∀g,g<w.heap.size→(w.alloc ob).heap[g]? =w.heap[g]? :=fun g hg=>RowKit.Below.heap_alloc w _ g hg
  have hW: ∀g o,Wr (qe h b0 ab) (upd μ b0 w.heap.size) g o→Wr h μ g o∨w.heap.size≤g:=by
    rintro g o ⟨i,hi,hx⟩
    by_cases hib:i=b0
    · subst hib
      rw [jy] at hi
      injection hi with hi
      exact .inr (by omega)
    · rw [qal _ _ hib] at hi
      rw [qd i hib] at hx
      exact .inl ⟨i,hi,hx⟩
  have hNF: ∀g:Nat,g<w.heap.size→(∀x,w.heap[g]? =some x→NF x)→∀x,(w.alloc ob).heap[g]? =some x→NF x:=by
    intro g hlt hg x hx
    rw [hheap g hlt] at hx
    exact hg x hx
  have F:Fr w (Wr h μ) I (w.alloc ob) (Wr (qe h b0 ab) (upd μ b0 w.heap.size)) I:=
    ⟨rfl,rfl,rfl,by simp,fun g hg _=>hheap g hg,fun g vs' e' fz hg hv=>⟨vs',(hheap g hg).trans hv,rfl,fun _ _=>rfl⟩,hNF,hW,fun _ _ h=>h,fun _ _ h=> .inl h⟩
  have M:HM h μ (qe h b0 ab) (upd μ b0 w.heap.size):=by
    refine⟨fun i x hx=> ?_,fun i x y hx hy lx ly=> ?_⟩
    · by_cases hib : i = b0
      · subst hib
        refine⟨ab,hget0, ?_⟩
        rcases hh with hh|hh
        · rw [hh] at hx;cases hx
        · rw [hh] at hx;injection hx with hx;subst hx;trivial
      · refine ⟨x, (qd i hib).trans hx, ?_⟩
        obtain⟨y,hy,k⟩:=(HM.refl h μ).kept i x hx
        rw [hx] at hy;injection hy with hy;subst hy;exact k
    · by_cases hib : i = b0
      · subst hib
        rcases hh with hh|hh
        · rw [hh] at hx;cases hx
        · rw [hh] at hx;injection hx with hx;subst hx;exact lx.elim
      · exact qal _ _ hib
  refine⟨⟨?_, ?_, ?_, ?_, ?_,R.laid.step R.disj R.ilt F⟩,F,M⟩
  · intro i j x y g hi hj lx ly gi gj
    by_cases hib:i=b0 <;>by_cases hjb:j=b0
    · rw [hib,hjb]
    · subst hib
      rw [jy] at gi;injection gi with gi
      rw [qal _ _ hjb] at gj;rw [qd j hjb] at hj
      have:=R.lt j y g hj ly gj
      omega
    · subst hjb
      rw [jy] at gj;injection gj with gj
      rw [qal _ _ hib] at gi;rw [qd i hib] at hi
      have:=R.lt i x g hi lx gi
      omega
    · rw [qal _ _ hib] at gi; rw [qd i hib] at hi
      rw [qal _ _ hjb] at gj;rw [qd j hjb] at hj
      exact R.inj i j x y g hi hj lx ly gi gj
  · intro i x g hi lx gi
    by_cases hib:i=b0
    · subst hib
      rw [jy] at gi;injection gi with gi
      simp
      omega
    · rw [qal _ _ hib] at gi; rw [qd i hib] at hi
      have:=R.lt i x g hi lx gi
      simp
      omega
  · intro i x hi
    by_cases hib:i=b0
    · subst hib
      rw [hget0] at hi;injection hi with hi;subst hi
      exact hB
    · rw [qd i hib] at hi
      by_cases lx:j8 x
      · exact zm.mono M F.shape (R.keptI F) F.im (fun _=>qal _ _ hib) (fun g hg=>hheap g (R.lt i x g hi lx hg)) (R.blk i x hi)
      · cases x with
        |hole=>trivial
        |gone=>trivial
        |var=>exact absurd trivial lx
        |arr=>exact absurd trivial lx
        |mp=>exact absurd trivial lx
  · intro g o hi hw
    rcases hW g o hw with hw|hw
    · exact R.disj g o hi hw
    · have := R.ilt g o hi
      omega
  · intro g o hi
    have:=R.ilt g o hi
    simp
    omega
theorem RelH.layO(R:RelH w I μ h){b0:Nat}(hb:b0≤h.length)(hh:h[b0]? =none∨h[b0]? =some .hole)(ob:Obj)(_hob:NF ob)(ab:AB)
    (hB:zm (w.alloc ob) I (qe h b0 ab) (upd μ b0 w.heap.size) b0 ab):
    RelH (w.alloc ob) I (upd μ b0 w.heap.size) (qe h b0 ab)∧
      Fr w (Wr h μ) I (w.alloc ob) (Wr (qe h b0 ab) (upd μ b0 w.heap.size)) I∧HM h μ (qe h b0 ab) (upd μ b0 w.heap.size):=
  R.layF hb hh ob ab hB
theorem RelH.lay(R:RelH w I μ h){b0:Nat}(hb:b0≤h.length)(hh:h[b0]? =none∨h[b0]? =some .hole)(vs:Array Value)(e:TypeId)(ab:AB)
    (hB:zm (w.alloc (.cells vs e (0,0))) I (qe h b0 ab) (upd μ b0 w.heap.size) b0 ab):
    RelH (w.alloc (.cells vs e (0,0))) I (upd μ b0 w.heap.size) (qe h b0 ab)∧
      Fr w (Wr h μ) I (w.alloc (.cells vs e (0,0))) (Wr (qe h b0 ab) (upd μ b0 w.heap.size)) I∧HM h μ (qe h b0 ab) (upd μ b0 w.heap.size):=
  R.layO hb hh (.cells vs e (0,0)) rfl ab hB
theorem RelH.writeF (R : RelH w I μ h) {i g : Nat} {x x' : AB} (hi : h[i]? = some x) (lx : j8 x) (hg : μ i = some g) (hother : ∀ k, k ≠ g → w'.heap[k]? = w.heap[k]?)
    (hsize:w'.heap.size=w.heap.size) (k:qar x x') (hWr: ∀g o,Wr (qe h i x') μ g o→Wr h μ g o) (F:Fr w (Wr h μ) I w' (Wr (qe h i x') μ) I)
    (hB:HM h μ (qe h i x') μ→(∀(v:Value) (c:AV),Rep w I h μ v c→Rep w' I (qe h i x') μ v c)→
      (∀(t:Ty) (d:t.den) (cs:List Value),RD w I t d cs→RD w' I t d cs)→zm w' I (qe h i x') μ i x'):
    RelH w' I μ (qe h i x')∧Fr w (Wr h μ) I w' (Wr (qe h i x') μ) I∧HM h μ (qe h i x') μ:=by
  have hlen:i≤h.length:=by
    have:=(List.getElem?_eq_some_iff.1 hi).1
    omega
  have qd: ∀j:Nat,j≠i→(qe h i x')[j]? =h[j]? :=fun j hj=>by rw [qi x' h i j hlen,if_neg hj]
  have hget0:(qe h i x')[i]? =some x':=by rw [qi x' h i i hlen,if_pos rfl]
  have M:HM h μ (qe h i x') μ:=by
    refine⟨fun j y hy=> ?_,fun _ _ _ _ _ _ _=>rfl⟩
    by_cases hji:j=i
    · subst hji
      rw [hi] at hy;injection hy with hy;subst hy
      exact⟨x',hget0,k⟩
    · refine ⟨y, (qd j hji).trans hy, ?_⟩
      obtain⟨z,hz,kz⟩:=(HM.refl h μ).kept j y hy
      rw [hy] at hz;injection hz with hz;subst hz;exact kz
  refine⟨⟨?_, ?_, ?_, ?_, ?_,R.laid.step R.disj R.ilt F⟩,F,M⟩
  · intro a b y z q ha hb ly lz ga gb
    have key: ∀(a:Nat) (y:AB),(qe h i x')[a]? =some y→j8 y→∃y0,h[a]? =some y0∧j8 y0:=by
      intro a y ha ly
      by_cases hai:a=i
      · subst hai;exact⟨x,hi,lx⟩
      · exact⟨y,(qd a hai).symm.trans ha,ly⟩
    obtain⟨y0,ha0,ly0⟩:=key a y ha ly
    obtain⟨z0,hb0,lz0⟩:=key b z hb lz
    exact R.inj a b y0 z0 q ha0 hb0 ly0 lz0 ga gb
  · intro a y q ha ly ga
    rw [hsize]
    by_cases hai:a=i
    · subst hai;exact R.lt a x q hi lx ga
    · exact R.lt a y q ((qd a hai).symm.trans ha) ly ga
  · intro a y ha
    by_cases hai:a=i
    · subst hai
      rw [hget0] at ha;injection ha with ha;subst ha
      exact hB M (fun v c r=>r.step R F M) (fun t d cs r=>r.mono (R.cell F) (fun _ _ h=>h))
    · have ha' := (qd a hai).symm.trans ha
      by_cases ly:j8 y
      · refine zm.mono M F.shape (R.keptI F) F.im (fun _ => rfl) (fun q hq => hother q ?_) (R.blk a y ha')
        rintro rfl
        exact hai (R.inj a i y x q ha' hi ly lx hq hg)
      · cases y with
        |hole=>trivial
        |gone=>trivial
        |var=>exact absurd trivial ly
        |arr=>exact absurd trivial ly
        |mp=>exact absurd trivial ly
  · intro q o hq hw
    exact R.disj q o hq (hWr q o hw)
  · intro q o hq
    rw [hsize]
    exact R.ilt q o hq
theorem RelH.write (R : RelH w I μ h) {i g : Nat} {x x' : AB} (hi : h[i]? = some x) (lx : j8 x) (hg : μ i = some g) {vs vs' : Array Value} {e : TypeId} {fz : Nat × Nat}
    (hv:w.heap[g]? =some (.cells vs e fz)) (hw':w'.heap[g]? =some (.cells vs' e fz)) (hsz:vs'.size=vs.size) (hother: ∀k,k≠g→w'.heap[k]? =w.heap[k]?)
    (hos:w'.os=w.os) (htp:w'.tape=w.tape) (hout:w'.output=w.output) (hsize:w'.heap.size=w.heap.size)
    (hkeep: ∀o,¬Wr h μ g o→vs'[o]? =vs[o]?) (k:qar x x') (_lx':j8 x') (hWr: ∀g o,Wr (qe h i x') μ g o→Wr h μ g o)
    (hB:HM h μ (qe h i x') μ→(∀(v:Value) (c:AV),Rep w I h μ v c→Rep w' I (qe h i x') μ v c)→
      (∀(t:Ty) (d:t.den) (cs:List Value),RD w I t d cs→RD w' I t d cs)→zm w' I (qe h i x') μ i x'):
    RelH w' I μ (qe h i x')∧Fr w (Wr h μ) I w' (Wr (qe h i x') μ) I∧HM h μ (qe h i x') μ:=by
  have hlen:i≤h.length:=by
    have:=(List.getElem?_eq_some_iff.1 hi).1
    omega
  have qd: ∀j:Nat,j≠i→(qe h i x')[j]? =h[j]? :=fun j hj=>by rw [qi x' h i j hlen,if_neg hj]
  have hget0:(qe h i x')[i]? =some x':=by rw [qi x' h i i hlen,if_pos rfl]
  have hgl:g<w.heap.size:=R.lt i x g hi lx hg
  have F:Fr w (Wr h μ) I w' (Wr (qe h i x') μ) I:=by
    refine⟨hos,htp,hout,by omega,fun k hk hn=> ?_,fun k vk ek fz hk hvk=> ?_,fun k _ hh x hx=> ?_,fun g o hw=> .inl (hWr g o hw),fun _ _ h=>h,fun _ _ h=> .inl h⟩
    · by_cases hkg : k = g
      · subst hkg
        rw [hv,hw']
        congr 2
        apply Array.ext_getElem?
        intro o
        exact hkeep o (hn o)
      · exact hother k hkg
    · by_cases hkg : k = g
      · subst hkg
        rw [hv] at hvk
        injection hvk with hvk
        injection hvk with h1 h2 h3
        subst h1;subst h2;subst h3
        exact⟨vs',hw',hsz,hkeep⟩
      · exact⟨vk,(hother k hkg).trans hvk,rfl,fun _ _=>rfl⟩
    · by_cases hkg : k = g
      · subst hkg;rw [hw'] at hx;cases hx;exact(show NF (.cells vs e fz) from hh _ hv)
      · rw [hother k hkg] at hx;exact hh x hx
  exact R.writeF hi lx hg hother hsize k hWr F hB
theorem RelH.writeMp (R : RelH w I μ h) {i g : Nat} {kt vt : Ty} {l l' : List (kt.den × vt.den)} (hi : h[i]? = some (.mp kt vt l)) (hg : μ i = some g) {ob ob' : Obj}
    (hv:w.heap[g]? =some ob) (hnc: ∀vs e fz,ob≠.cells vs e fz) (hw':w'.heap[g]? =some ob') (hnf:NF ob') (hother: ∀k,k≠g→w'.heap[k]? =w.heap[k]?)
    (hos:w'.os=w.os) (htp:w'.tape=w.tape) (hout:w'.output=w.output) (hsize:w'.heap.size=w.heap.size)
    (hd:uc w' I μ i kt vt l'):
    RelH w' I μ (qe h i (.mp kt vt l'))∧Fr w (Wr h μ) I w' (Wr (qe h i (.mp kt vt l')) μ) I∧HM h μ (qe h i (.mp kt vt l')) μ:=by
  have hlen:i≤h.length:=by
    have:=(List.getElem?_eq_some_iff.1 hi).1
    omega
  have qd: ∀j:Nat,j≠i→(qe h i (.mp kt vt l'))[j]? =h[j]? :=fun j hj=>by rw [qi _ h i j hlen,if_neg hj]
  have hget0:(qe h i (.mp kt vt l'))[i]? =some (.mp kt vt l'):=by rw [qi _ h i i hlen,if_pos rfl]
  have hW: ∀o,Wr h μ g o:=fun o=>⟨i,hg,.inr (.inr (.inr ⟨kt,vt,l,hi⟩))⟩
  have hWr: ∀g o,Wr (qe h i (.mp kt vt l')) μ g o→Wr h μ g o:=by
    rintro q o ⟨j,hj,hx⟩
    by_cases hji:j=i
    · subst hji
      rw [hg] at hj;injection hj with hj;subst hj
      exact hW o
    · rw [qd j hji] at hx
      exact⟨j,hj,hx⟩
  have F:Fr w (Wr h μ) I w' (Wr (qe h i (.mp kt vt l')) μ) I:=by
    refine⟨hos,htp,hout,by omega,fun k hk hn=> ?_,fun k vk ek fz hk hvk=> ?_,fun k _ hh x hx=> ?_,fun g o hw=> .inl (hWr g o hw),fun _ _ h=>h,fun _ _ h=> .inl h⟩
    · by_cases hkg : k = g
      · subst hkg
        exact absurd (hW 0) (hn 0)
      · exact hother k hkg
    · by_cases hkg : k = g
      · subst hkg
        rw [hv] at hvk
        injection hvk with hvk
        exact absurd hvk (hnc _ _ _)
      · exact⟨vk,(hother k hkg).trans hvk,rfl,fun _ _=>rfl⟩
    · by_cases hkg : k = g
      · subst hkg;rw [hw'] at hx;cases hx;exact hnf
      · rw [hother k hkg] at hx;exact hh x hx
  exact R.writeF hi trivial hg hother hsize (.inr ⟨l',rfl⟩) hWr F fun _ _ _=>hd
theorem RelH.writeMap(R:RelH w I μ h){i g:Nat}{kt vt:Ty}{l l':List (kt.den×vt.den)}(hi:h[i]? =some (.mp kt vt l))(hg:μ i=some g){es es':Array MapEntry}{c c':Nat}
    (hv:w.heap[g]? =some (.map es c)) (hw':w'.heap[g]? =some (.map es' c')) (hother: ∀k,k≠g→w'.heap[k]? =w.heap[k]?)
    (hos:w'.os=w.os) (htp:w'.tape=w.tape) (hout:w'.output=w.output) (hsize:w'.heap.size=w.heap.size)
    (hk:qin kt=true) (hd:qqe kt vt es' c' l'):
    RelH w' I μ (qe h i (.mp kt vt l'))∧Fr w (Wr h μ) I w' (Wr (qe h i (.mp kt vt l')) μ) I∧HM h μ (qe h i (.mp kt vt l')) μ:=
  R.writeMp hi hg hv (fun _ _ _ e=>by cases e) hw' trivial hother hos htp hout hsize (by rw [uc.of hk];exact⟨g,es',c',hg,hw',hd⟩)
theorem RelH.freezeMap(R:RelH w I μ h){i g:Nat}{kt vt:Ty}{l:List (kt.den×vt.den)}(hi:h[i]? =some (.mp kt vt l))(hg:μ i=some g):
    ∃I',RelH w I' μ (qe h i .gone)∧Fr w (Wr h μ) I w (Wr (qe h i .gone) μ) I'∧HM h μ (qe h i .gone) μ∧∀o,I' g o:=by
  have hlen:i≤h.length:=by
    have:=(List.getElem?_eq_some_iff.1 hi).1
    omega
  have qd: ∀j:Nat,j≠i→(qe h i .gone)[j]? =h[j]? :=fun j hj=>by rw [qi _ h i j hlen,if_neg hj]
  have hget0:(qe h i .gone)[i]? =some .gone:=by rw [qi _ h i i hlen,if_pos rfl]
  have hne: ∀(j:Nat) (y:AB),(qe h i .gone)[j]? =some y→j8 y→j≠i:=by
    rintro j y hy ly rfl
    rw [hget0] at hy;injection hy with hy;subst hy;exact ly
  let I':Nat→Nat→Prop:=fun q o=>I q o∨q=g
  have M:HM h μ (qe h i .gone) μ:=by
    refine⟨fun j y hy=> ?_,fun _ _ _ _ _ _ _=>rfl⟩
    by_cases hji:j=i
    · subst hji
      rw [hi] at hy;injection hy with hy;subst hy
      exact⟨_,hget0,.inl rfl⟩
    · refine ⟨y, (qd j hji).trans hy, ?_⟩
      obtain⟨z,hz,kz⟩:=(HM.refl h μ).kept j y hy
      rw [hy] at hz;injection hz with hz;subst hz;exact kz
  have wl: ∀{j o:Nat},((∃cs,(qe h i .gone)[j]? =some (.var cs))∨(∃t l,(qe h i .gone)[j]? =some (.arr t l true))∨(∃t l,(qe h i .gone)[j]? =some (.arr t l false)∧l.length*t.sz≤o)∨(∃k v l,(qe h i .gone)[j]? =some (.mp k v l)))→∃y,(qe h i .gone)[j]? =some y∧j8 y:=by
    rintro j o (⟨cs,hx⟩|⟨t',l',hx⟩|⟨t',l',hx,_⟩|⟨_,_,_,hx⟩) <;>exact⟨_,hx,trivial⟩
  have hWr: ∀q o,Wr (qe h i .gone) μ q o→Wr h μ q o:=by
    rintro q o ⟨j,hj,hx⟩
    obtain⟨y,hy,ly⟩:=wl hx
    rw [qd j (hne j y hy ly)] at hx
    exact⟨j,hj,hx⟩
  have F:Fr w (Wr h μ) I w (Wr (qe h i .gone) μ) I':=by
    refine⟨rfl,rfl,rfl,Nat.le_refl _,fun _ _ _=>rfl,fun g vs e fz _ hv=>⟨vs,hv,rfl,fun _ _=>rfl⟩,fun _ _ hh=>hh,fun g o hw=> .inl (hWr g o hw),fun _ _ h=> .inl h, ?_⟩
    rintro q o (hI|rfl)
    · exact .inl hI
    · exact .inr (.inl ⟨i,hg,.inr (.inr (.inr ⟨kt,vt,l,hi⟩))⟩)
  refine⟨I',⟨?_, ?_, ?_, ?_, ?_,R.laid.step R.disj R.ilt F⟩,F,M,fun o=> .inr rfl⟩
  · intro a b y z q ha hb ly lz ga gb
    exact R.inj a b y z q ((qd a (hne a y ha ly)).symm.trans ha) ((qd b (hne b z hb lz)).symm.trans hb) ly lz ga gb
  · intro a y q ha ly ga
    exact R.lt a y q ((qd a (hne a y ha ly)).symm.trans ha) ly ga
  · intro a y ha
    by_cases hai:a=i
    · subst hai
      rw [hget0] at ha;injection ha with ha;subst ha
      trivial
    · exact zm.mono M F.shape (R.keptI F) F.im (fun _=>rfl) (fun _ _=>rfl) (R.blk a y ((qd a hai).symm.trans ha))
  · rintro q o (hq | rfl) hw
    · exact R.disj q o hq (hWr q o hw)
    · obtain ⟨j, hj, hx⟩ := hw
      obtain⟨y,hy,ly⟩:=wl hx
      have hji:=hne j y hy ly
      exact hji (R.inj j i y _ q ((qd j hji).symm.trans hy) hi ly trivial hj hg)
  · rintro q o (hq | rfl)
    · exact R.ilt q o hq
    · exact R.lt i _ q hi trivial hg
theorem RelH.freeze (R : RelH w I μ h) {i : Nat} {t : Ty} {l : List t.den} {fr : Bool} (hi : h[i]? = some (.arr t l fr)) :
    ∃ I', RelH w I' μ (qe h i (.arr t l false)) ∧ Fr w (Wr h μ) I w (Wr (qe h i (.arr t l false)) μ) I' ∧ HM h μ (qe h i (.arr t l false)) μ ∧
      (∀g,μ i=some g→l≠[]→∀o,o<l.length*t.sz→I' g o):=by
  have hlen:i≤h.length:=by
    have:=(List.getElem?_eq_some_iff.1 hi).1
    omega
  have qd: ∀j:Nat,j≠i→(qe h i (.arr t l false))[j]? =h[j]? :=fun j hj=>by rw [qi _ h i j hlen,if_neg hj]
  have hget0:(qe h i (.arr t l false))[i]? =some (.arr t l false):=by rw [qi _ h i i hlen,if_pos rfl]
  let I':Nat→Nat→Prop:=fun g o=>I g o∨(μ i=some g∧l≠[]∧o<l.length*t.sz)
  have M:HM h μ (qe h i (.arr t l false)) μ:=by
    refine⟨fun j y hy=> ?_,fun _ _ _ _ _ _ _=>rfl⟩
    by_cases hji:j=i
    · subst hji
      rw [hi] at hy;injection hy with hy;subst hy
      exact⟨_,hget0,.inr ⟨l,false,rfl,rfl⟩⟩
    · refine ⟨y, (qd j hji).trans hy, ?_⟩
      obtain⟨z,hz,kz⟩:=(HM.refl h μ).kept j y hy
      rw [hy] at hz;injection hz with hz;subst hz;exact kz
  have hWr: ∀g o,Wr (qe h i (.arr t l false)) μ g o→Wr h μ g o:=by
    rintro g o ⟨j,hj,hx⟩
    by_cases hji:j=i
    · subst hji
      rw [hget0] at hx
      refine⟨j,hj, ?_⟩
      cases fr with
      |true=>exact .inr (.inl ⟨t,l,hi⟩)
      | false =>
        refine .inr (.inr (.inl ⟨t,l,hi, ?_⟩))
        rcases hx with⟨cs,hx⟩|⟨t',l',hx⟩|⟨t',l',hx,ho⟩|⟨_,_,_,hx⟩
        · injection hx with hx;cases hx
        · injection hx with hx;cases hx
        · injection hx with hx;cases hx;exact ho
        · injection hx with hx;cases hx
    · rw [qd j hji] at hx
      exact⟨j,hj,hx⟩
  have F:Fr w (Wr h μ) I w (Wr (qe h i (.arr t l false)) μ) I':=by
    refine⟨rfl,rfl,rfl,Nat.le_refl _,fun _ _ _=>rfl,fun g vs e fz _ hv=>⟨vs,hv,rfl,fun _ _=>rfl⟩,fun _ _ hh=>hh,fun g o hw=> .inl (hWr g o hw),fun _ _ h=> .inl h, ?_⟩
    rintro g o (hI|⟨hg,hne,ho⟩)
    · exact .inl hI
    · cases fr with
      |true=>exact .inr (.inl ⟨i,hg,.inr (.inl ⟨t,l,hi⟩)⟩)
      | false =>
        rcases R.blk i _ hi with hnil|⟨g',vs,e,h1,h2,h3,h4,h5⟩
        · exact absurd hnil hne
        · rw [hg] at h1; injection h1 with h1; subst h1
          exact .inl (h5 rfl o ho)
  refine⟨I',⟨?_, ?_, ?_, ?_, ?_,R.laid.step R.disj R.ilt F⟩,F,M,fun g hg hne o ho=> .inr ⟨hg,hne,ho⟩⟩
  · intro a b y z q ha hb ly lz ga gb
    have key: ∀(a:Nat) (y:AB),(qe h i (.arr t l false))[a]? =some y→j8 y→∃y0,h[a]? =some y0∧j8 y0:=by
      intro a y ha ly
      by_cases hai:a=i
      · subst hai;exact⟨_,hi,trivial⟩
      · exact⟨y,(qd a hai).symm.trans ha,ly⟩
    obtain⟨y0,ha0,ly0⟩:=key a y ha ly
    obtain⟨z0,hb0,lz0⟩:=key b z hb lz
    exact R.inj a b y0 z0 q ha0 hb0 ly0 lz0 ga gb
  · intro a y q ha ly ga
    by_cases hai:a=i
    · subst hai;exact R.lt a _ q hi trivial ga
    · exact R.lt a y q ((qd a hai).symm.trans ha) ly ga
  · intro a y ha
    by_cases hai:a=i
    · subst hai
      rw [hget0] at ha;injection ha with ha;subst ha
      rcases R.blk a _ hi with hnil|⟨g',vs,e,h1,h2,h3,h4,h5⟩
      · exact .inl hnil
      · by_cases hne : l = []
        · exact .inl hne
        · exact .inr ⟨g',vs,e,h1,h2,h3,fun k hk=>(h4 k hk).mono (fun _ _ _ _ h=>h) (fun _ _ h=> .inl h),fun _ o ho=> .inr ⟨h1,hne,ho⟩⟩
    · exact zm.mono M F.shape (R.keptI F) F.im (fun _=>rfl) (fun _ _=>rfl) (R.blk a y ((qd a hai).symm.trans ha))
  · rintro q o (hq | ⟨hq, hne, ho⟩) hw
    · exact R.disj q o hq (hWr q o hw)
    · obtain ⟨j, hj, hx⟩ := hw
      by_cases hji:j=i
      · subst hji
        rw [hget0] at hx
        rcases hx with⟨cs,hx⟩|⟨t',l',hx⟩|⟨t',l',hx,ho'⟩|⟨_,_,_,hx⟩
        · injection hx with hx;cases hx
        · injection hx with hx;cases hx
        · injection hx with hx;cases hx;omega
        · injection hx with hx;cases hx
      · rw [qd j hji] at hx
        have: ∃y,h[j]? =some y∧j8 y:=by
          rcases hx with⟨cs,hx⟩|⟨t',l',hx⟩|⟨t',l',hx,_⟩|⟨_,_,_,hx⟩
          · exact⟨_,hx,trivial⟩
          · exact⟨_,hx,trivial⟩
          · exact⟨_,hx,trivial⟩
          · exact⟨_,hx,trivial⟩
        obtain⟨y,hy,ly⟩:=this
        exact hji (R.inj j i y _ q hy hi ly trivial hj hq)
  · rintro q o (hq | ⟨hq, _, _⟩)
    · exact R.ilt q o hq
    · exact R.lt i _ q hi trivial hq
end
end Go.AM
namespace Go.AM
set_option linter.unusedSectionVars false
variable [Lay]
def kw(w:World)(I:Nat→Nat→Prop)(h:qa)(μ:Nat→Option Nat)(ρ:Operand→Value):List (TypeId×Operand)→List AV→Prop
  |[],[]=>True
  |(_,x)::r,v::vs=>Rep w I h μ (ρ x) v∧kw w I h μ ρ r vs
  |_,_=>False
theorem kw.len{w:World}{I:Nat→Nat→Prop}{h:qa}{μ:Nat→Option Nat}{ρ:Operand→Value}: ∀{l:List (TypeId×Operand)} {vs:List AV},kw w I h μ ρ l vs→vs.length=l.length
  |[],[],_=>rfl
  |_::_,_::_,hr=>by simp [kw.len hr.2]
  |[],_::_,hr=>hr.elim
  |(_,_)::_,[],hr=>hr.elim
section
variable {E:Env} {w:World} {I:Nat→Nat→Prop} {h:qa} {μ:Nat→Option Nat} {ρ:Operand→Value} {g:Nat→AB} {b0:Nat} {fr:FR}
variable {dst:Option Tmp} {ty:TypeId} {pos:String} {aft:Array Edge} {gd:Option (Nat×Bool)}
theorem jk{P:Program}{s:Sem Value}{v:Value}{w':World}(hs:s.run P w= .ok v w'):(do pure (Next.value (←s)):Sem Next).run P w= .ok (.value v) w':=by
  rw [Sem.run_bind,hs];rfl
theorem qui{P:Program}{s:Sem Unit}{w':World}(hs:s.run P w= .ok () w'):(do s;pure Next.skip:Sem Next).run P w= .ok .skip w':=by
  rw [Sem.run_bind,hs];rfl
theorem q7o(R:RelH w I μ h){x:Operand}{vs:List AV}(hv:kw w I h μ ρ (q8 E ⟨dst,.move x,ty,pos,aft,gd⟩) vs)
    (hf:qj E ⟨dst,.move x,ty,pos,aft,gd⟩ vs g b0=some fr):kj E ⟨dst,.move x,ty,pos,aft,gd⟩ ρ w I h μ fr:=by
  match vs,hv with
  | [v], hv =>
    simp only [qj,Option.some.injEq] at hf
    subst hf
    exact .quiet R rfl (ρ x) rfl hv.1
theorem q0l(R:RelH w I μ h){x:Operand}{vs:List AV}(hv:kw w I h μ ρ (q8 E ⟨dst,.assign x,ty,pos,aft,gd⟩) vs)
    (hf:qj E ⟨dst,.assign x,ty,pos,aft,gd⟩ vs g b0=some fr):kj E ⟨dst,.assign x,ty,pos,aft,gd⟩ ρ w I h μ fr:=by
  match vs,hv with
  | [v], hv =>
    simp only [qj,Option.some.injEq] at hf
    subst hf
    exact .quiet R rfl (ρ x) rfl hv.1
theorem qlt{P:Program}{c a b:Operand}{t:Bool}(hc:ρ c= .bool t):
    (execOp ρ ⟨dst,.pick c a b,ty,pos,aft,gd⟩).run P w= .ok (.value (if t then ρ a else ρ b)) w:=by
  show(do pure (Next.value (if←asBool (ρ c) then ρ a else ρ b)):Sem Next).run P w=_
  rw [Sem.run_bind,hc]
  cases t <;>rfl
theorem q7p (R : RelH w I μ h) {c a b : Operand} {vs : List AV} (hv : kw w I h μ ρ (q8 E ⟨dst, .pick c a b, ty, pos, aft, gd⟩) vs)
    (hf:qj E ⟨dst,.pick c a b,ty,pos,aft,gd⟩ vs g b0=some fr):kj E ⟨dst,.pick c a b,ty,pos,aft,gd⟩ ρ w I h μ fr:=by
  match vs,hv with
  | [vc, va, vb], hv =>
    obtain⟨hc,ha,hb,_⟩:=hv
    simp only [qj,q9d] at hf
    split at hf
    · cases hf
      exact .quiet R rfl _ (qlt (qu hc rfl)) ha
    · cases hf
      exact .quiet R rfl _ (qlt (qu hc rfl)) hb
    · rename_i t
      have hrun:=qlt (P:=E.P) (w:=w) (a:=a) (b:=b) (dst:=dst) (ty:=ty) (pos:=pos) (aft:=aft) (gd:=gd) (qu hc rfl)
      split at hf
      · rename_i x y hx hy
        cases hf
        refine .quiet R rfl _ hrun ?_
        rw [qu ha hx,qu hb hy]
        cases t <;>exact .bool _
      · split at hf
        · rename_i k x k' y _
          split at hf
          · cases hf
            obtain rfl:= ‹k=k'›
            refine .quiet R rfl _ hrun ?_
            rw [jg ha,jg hb]
            cases t <;>exact .int _ _
          · cases hf
        · cases hf
          refine .quiet R rfl _ hrun ?_
          rw [ji ha,ji hb]
          cases t <;>exact .str _
        · cases hf
    · cases hf
theorem qt4 (R : RelH w I μ h) {x : Operand} {vs : List AV} (hv : kw w I h μ ρ (q8 E ⟨dst, .nilCheck x, ty, pos, aft, gd⟩) vs)
    (hf:qj E ⟨dst,.nilCheck x,ty,pos,aft,gd⟩ vs g b0=some fr):kj E ⟨dst,.nilCheck x,ty,pos,aft,gd⟩ ρ w I h μ fr:=by
  match vs,hv with
  | [v], hv =>
    have hx:=hv.1
    have hrun: ∀a,ρ x= .pointer (some a)→(execOp ρ ⟨dst,.nilCheck x,ty,pos,aft,gd⟩).run E.P w= .ok (.value (.pointer (some a))) w:=by
      intro a ha
      show(match ρ x with
        | .pointer none| .nilIface| .nilFunc=>runtimePanic .nilDeref
        | .func (.method name) first captured=>_
        |x=>pure (Next.value x):Sem Next).run E.P w=_
      rw [ha];rfl
    simp only [qj] at hf
    split at hf
    · cases hf
      obtain⟨a,ha⟩: ∃a,ρ x= .pointer (some a):=by generalize ρ x=q at hx;cases hx;exact⟨_,rfl⟩
      exact .quiet R rfl _ (hrun a ha) (ha▸hx)
    · cases hf
      obtain⟨a,ha⟩: ∃a,ρ x= .pointer (some a):=by generalize ρ x=q at hx;cases hx;exact⟨_,rfl⟩
      exact .quiet R rfl _ (hrun a ha) (ha▸hx)
    · cases hf
      obtain⟨a,ha⟩: ∃a,ρ x= .pointer (some a):=by generalize ρ x=q at hx;cases hx;exact⟨_,rfl⟩
      exact .quiet R rfl _ (hrun a ha) (ha▸hx)
    · cases hf
theorem qt3 (R : RelH w I μ h) {f : Fn} {a c : Array Operand} {vs : List AV} (hv : kw w I h μ ρ (q8 E ⟨dst, .makeFunc f a c, ty, pos, aft, gd⟩) vs)
    (hf:qj E ⟨dst,.makeFunc f a c,ty,pos,aft,gd⟩ vs g b0=some fr):kj E ⟨dst,.makeFunc f a c,ty,pos,aft,gd⟩ ρ w I h μ fr:=by
  simp only [qj,Option.some.injEq] at hf
  subst hf
  have key: ∀(l:List Operand) (r:List Operand) (vs:List AV),kw w I h μ ρ (l.map (fun x=>((0:TypeId),x))++r.map (fun x=>((0:TypeId),x))) vs→
      ((vs.take l.length).length = l.length ∧ (vs.drop l.length).length = r.length ∧
        (∀(i:Nat) (v:Value) (x:AV),(l.map ρ)[i]? =some v→(vs.take l.length)[i]? =some x→Rep w I h μ v x)∧
        (∀(i:Nat) (v:Value) (x:AV),(r.map ρ)[i]? =some v→(vs.drop l.length)[i]? =some x→Rep w I h μ v x)):=by
    intro l
    induction l with
    | nil =>
      intro r vs hr
      simp only [List.map_nil,List.nil_append] at hr
      refine⟨rfl, ?_,fun i v x hv _=>by simp at hv, ?_⟩
      · have:=hr.len;simpa using this
      · simp only [List.length_nil, List.drop_zero]
        clear hv
        induction r generalizing vs with
        |nil=>intro i v x hv _;simp at hv
        | cons y r ih =>
          match vs,hr with
          | u :: vs, hr =>
            intro i v x hv hx
            cases i with
            |zero=>simp at hv hx;subst hv;subst hx;exact hr.1
            |succ i=>exact ih vs hr.2 i v x (by simpa using hv) (by simpa using hx)
    | cons y l ih =>
      intro r vs hr
      match vs,hr with
      | u :: vs, hr =>
        obtain⟨h1,h2,h3,h4⟩:=ih r vs hr.2
        refine⟨by simpa using h1,by simpa using h2, ?_,by simpa using h4⟩
        intro i v x hv hx
        cases i with
        |zero=>simp at hv hx;subst hv;subst hx;exact hr.1
        |succ i=>exact h3 i v x (by simpa using hv) (by simpa using hx)
  obtain⟨h1,h2,h3,h4⟩:=key a.toList c.toList vs (by simpa [q8] using hv)
  simp only [Array.length_toList] at h1 h2 h3 h4
  refine .quiet R rfl (.func f (a.map ρ) (c.map ρ)) rfl ?_
  refine .fn f _ _ _ _ (by simp [h1]) (by simp [h2]) (fun i v x hv hx=>h3 i v x ?_ hx) (fun i v x hv hx=>h4 i v x ?_ hx)
  · simpa [Array.getElem?_map,List.getElem?_map] using hv
  · simpa [Array.getElem?_map,List.getElem?_map] using hv
theorem qwm (R : RelH w I μ h) {x : Operand} {i : Nat} {vs : List AV} (hv : kw w I h μ ρ (q8 E ⟨dst, .extract x i, ty, pos, aft, gd⟩) vs)
    (hf:qj E ⟨dst,.extract x i,ty,pos,aft,gd⟩ vs g b0=some fr):kj E ⟨dst,.extract x i,ty,pos,aft,gd⟩ ρ w I h μ fr:=by
  match vs,hv with
  | [v], hv =>
    have hx:=hv.1
    cases v with
    | tup cs =>
      simp only [qj] at hf
      split at hf
      · rename_i c hc
        cases hf
        generalize hq:ρ x=q at hx
        cases hx with
        | tup us _ hl hcs =>
          have hi:i<us.size:=by
            have:=(List.getElem?_eq_some_iff.1 hc).1
            omega
          refine .quiet R rfl us[i] ?_ (hcs i _ _ (by simp [hi]) hc)
          refine jk (s:=Instr.extract (ρ x) i) ?_
          rw [hq]
          simp [Instr.extract,hi]
      · cases hf
    |_=>simp [qj] at hf
theorem qn2{a p:AV}{n:Nat}{v:Value}(ha:qvo a n=some p)(r:Rep w I h μ v a): ∃q,v= .pointer (some q)∧q.spot=none∧Rep w I h μ (.pointer (some ⟨q.block,q.off+n,none⟩)) p:=by
  cases r with
  |ptr b j g hp=>cases ha;exact⟨_,rfl,rfl,.ptr b (j+n) g hp⟩
  | eptr t b i j g hp =>
    cases ha
    refine⟨_,rfl,rfl, ?_⟩
    have:=Rep.eptr (w:=w) (I:=I) t b i (j+n) g hp
    simpa [Nat.add_assoc] using this
  | iptr t x j g o cs hr hc =>
    cases ha
    refine⟨_,rfl,rfl, ?_⟩
    have:=Rep.iptr (h:=h) (μ:=μ) t x (j+n) g o cs hr hc
    simpa [Nat.add_assoc] using this
  |_=>cases ha
theorem qru (hE : EnvOK E) (R : RelH w I μ h) {t : TypeId} {x : Operand} {i : Nat} {vs : List AV} (hv : kw w I h μ ρ (q8 E ⟨dst, .fieldAddr t x i, ty, pos, aft, gd⟩) vs)
    (hf:qj E ⟨dst,.fieldAddr t x i,ty,pos,aft,gd⟩ vs g b0=some fr):kj E ⟨dst,.fieldAddr t x i,ty,pos,aft,gd⟩ ρ w I h μ fr:=by
  match vs,hv with
  | [v], hv =>
    have hx:=hv.1
    simp only [qj] at hf
    split at hf
    · rename_i fs hud
      split at hf
      · rename_i u off hfs
        split at hf
        · rename_i p hp
          obtain⟨hck,hf⟩:=ql hf
          cases hf
          obtain⟨q,hq,hsp,hr⟩:=qn2 hp hx
          have hu:=hE.und t (j7 (by rw [hud];rfl))
          rw [hud] at hu
          obtain⟨fields,hu,hfl⟩:=hu
          simp only [Bool.and_eq_true,Nat.ble_eq] at hck
          obtain⟨iu,hiu,hsz,_⟩:=hE.info u (j0 hck.2)
          have hfi: ∃f,fields[i]? =some f∧f.type=u∧f.offset=off:=by
            rw [←hfl,List.getElem?_map] at hfs
            cases hq':fields.toList[i]? with
            |none=>rw [hq'] at hfs;cases hfs
            | some f =>
              rw [hq'] at hfs
              simp at hfs
              exact⟨f,by simpa using hq',hfs.1,hfs.2⟩
          obtain⟨f,hfi,rfl,rfl⟩:=hfi
          refine .quiet R rfl _ (jk (s:=Instr.fieldAt t (ρ x) i) ?_) hr
          rw [hq]
          have hne: ¬iu.size=0:=by omega
          obtain⟨qb,qo,qs⟩:=q
          simp only at hsp
          subst hsp
          simp [Instr.fieldAt,run_underlying hu,hfi,Instr.sureAddr,fieldPlace,sizeOf,typeInfo,hiu,hne,Addr.add_lit]
        · cases hf
      · cases hf
    · cases hf
end
end Go.AM
namespace Go.AM
set_option linter.unusedSectionVars false
variable [Lay]
section
variable {E:Env} {w:World} {I:Nat→Nat→Prop} {h:qa} {μ:Nat→Option Nat} {ρ:Operand→Value} {g:Nat→AB} {b0:Nat} {fr:FR}
variable {dst:Option Tmp} {ty:TypeId} {pos:String} {aft:Array Edge} {gd:Option (Nat×Bool)}
theorem qw2(s:Str):(⟨s.toArray⟩:ByteArray).toList=s:=by rw [ByteArray.toList_eq]
theorem qwx(s:ByteArray):s=⟨s.data.toList.toArray⟩:=by cases s;simp
theorem qat{P:Program}{t:TypeId}{ms:Array (String×TypeId)}(hu:P.underlying t=some (.interface ms))(a:TypeId)(b:Value)(w:World):(Op.equal t (.iface a b) .nilIface).run P w= .ok false w:=by
  unfold Op.equal
  rw [show Op.maxDepth=9999+1 from rfl]
  unfold Op.equalIn
  simp [run_underlying hu]
theorem v8{P:Program}{op:BinOp}{t u:TypeId}{x y:Operand}{v:Value}(hg:(eqGuard op t x y (ρ x) (ρ y)).run P w= .ok () w)(hb:(binOp op t (ρ x) (ρ y)).run P w= .ok v w):
    (execOp ρ ⟨dst,.binOp op t x y u,ty,pos,aft,gd⟩).run P w= .ok (.value v) w:=by
  refine jk (s:=do eqGuard op t x y (ρ x) (ρ y);binOp op t (ρ x) (ρ y)) ?_
  rw [Sem.run_bind,hg]
  exact hb
theorem qb1{P:Program}{t:TypeId}(hu:P.underlying t=some .bool){a b:Bool}:(Op.equal t (.bool a) (.bool b)).run P w= .ok (a==b) w:=by
  show(Op.equalIn (9999+1) t (.bool a) (.bool b)).run P w=_
  rw [Op.equalIn,Sem.run_bind,run_underlying hu]
  rfl
theorem q7w{P:Program}{t:TypeId}{k k':IntKind}{a b:Int}(hb:0≤b):(binOp .shl t (.int k a) (.int k' b)).run P w= .ok (.int k (qnq k a b)) w:=by
  show(Op.shift .shl k a k' b).run P w=_
  unfold Op.shift
  rw [if_neg (by omega)]
  rfl
theorem q7x{P:Program}{t:TypeId}{k k':IntKind}{a b:Int}(hb:0≤b):(binOp .shr t (.int k a) (.int k' b)).run P w= .ok (.int k (ja k a b)) w:=by
  show(Op.shift .shr k a k' b).run P w=_
  unfold Op.shift
  rw [if_neg (by omega)]
  rfl
theorem qvs{op:BinOp}(ho:op= .and∨op= .or∨op= .xor∨op= .andNot)(t:TypeId)(k:IntKind)(a b:Int):binOp op t (.int k a) (.int k b)=Op.intBits op k a b:=by
  rcases ho with rfl|rfl|rfl|rfl <;>simp [binOp]
theorem q4p (hE : EnvOK E) (R : RelH w I μ h) {op : BinOp} {t u : TypeId} {x y : Operand} {vs : List AV} (hv : kw w I h μ ρ (q8 E ⟨dst, .binOp op t x y u, ty, pos, aft, gd⟩) vs)
    (hf:qj E ⟨dst,.binOp op t x y u,ty,pos,aft,gd⟩ vs g b0=some fr) (hc: ∀c∈fr.cs,c.p):kj E ⟨dst,.binOp op t x y u,ty,pos,aft,gd⟩ ρ w I h μ fr:=by
  match vs,hv with
  | [vx, vy], hv =>
    obtain⟨hx,hy,_⟩:=hv
    simp only [qj,jdo] at hf
    split at hf
    · rename_i k a k' b
      have ex:=jg hx
      have ey:=jg hy
      have hg:(eqGuard op t x y (ρ x) (ρ y)).run E.P w= .ok () w:=by rw [ex,eqGuard_at_int];rfl
      split at hf
      all_goals first
        | (split at hf
           · obtain rfl := ‹k = k'›
             cases hf
             refine .quiet R rfl _ (v8 hg (v:= ?_) ?_) ?_
             rotate_left
             · rw [ex, ey]
               first
                 |(rw [binOp_add];rfl)|(rw [binOp_sub];rfl)|(rw [binOp_mul];rfl)|(rw [binOp_eql];rfl)|(rw [binOp_neq];rfl)|(rw [binOp_lss];rfl)|(rw [binOp_leq];rfl)|(rw [binOp_gtr];rfl)|(rw [binOp_geq];rfl)
                 |(rw [binOp_quo];have hn: ¬b=0:=hc _ (List.mem_singleton.2 rfl);unfold Op.intDiv;rw [if_neg hn];rfl)
                 |(rw [binOp_rem];have hn: ¬b=0:=hc _ (List.mem_singleton.2 rfl);unfold Op.intDiv;rw [if_neg hn];rfl)
                 |(rw [qvs (by simp)];rfl)
             · first|exact .int _ _|exact .bool _
           · cases hf)
        | (cases hf
           have hb0:0≤b:=hc ⟨_,inferInstance⟩ (by simp)
           refine .quiet R rfl _ (v8 hg ?_) (.int _ _)
           rw [ex,ey]
           first
             |exact q7w hb0
             |exact q7x hb0)
        |cases hf
    · rename_i a b
      have ex:=ji hx
      have ey:=ji hy
      have hg:(eqGuard op t x y (ρ x) (ρ y)).run E.P w= .ok () w:=by rw [ex,eqGuard_at_string];rfl
      have hb: ∀v,(Op.stringOp op ⟨a.toArray⟩ ⟨b.toArray⟩).run E.P w= .ok v w→(binOp op t (ρ x) (ρ y)).run E.P w= .ok v w:=by
        intro v hv
        rw [ex,ey]
        have:binOp op t (.string ⟨a.toArray⟩) (.string ⟨b.toArray⟩)=Op.stringOp op ⟨a.toArray⟩ ⟨b.toArray⟩:=by cases op <;>rfl
        rw [this];exact hv
      split at hf
      all_goals first
        | (cases hf; refine .quiet R rfl _ (v8 hg (hb _ ?_)) (.bool _)
           simp only [Op.stringOp,qw2];first|rfl|(simp;done))
        | (cases hf
           have hl:=hc _ (List.mem_singleton.2 rfl)
           refine .quiet R rfl (.string ⟨(a++b).toArray⟩) (v8 hg (hb _ ?_)) (.str _)
           have hs:(⟨a.toArray⟩:ByteArray)++⟨b.toArray⟩=⟨(a++b).toArray⟩:=by
             rw [qwx (⟨a.toArray⟩++⟨b.toArray⟩:ByteArray)]
             simp [ByteArray.data_append]
           simp only [Op.stringOp,qfp,hs]
           rw [if_neg (by simp only [IntKind.max_i64];omega)]
           rfl)
        |cases hf
    · rename_i xs ys
      obtain⟨hck,hf⟩:=ql hf
      have hmem:t∈E.eqs:=by simpa using hck
      obtain⟨us,hus⟩: ∃us,ρ x= .agg us:=by generalize ρ x=q at hx;cases hx;exact⟨_,rfl⟩
      obtain⟨us',hus'⟩: ∃us,ρ y= .agg us:=by generalize ρ y=q at hy;cases hy;exact⟨_,rfl⟩
      rw [hus] at hx;rw [hus'] at hy
      split at hf
      · have hb := ‹eqT E (E.ti t).ud xs ys = some _›
        cases hf
        obtain⟨h1,h2⟩:=hE.eqs t hmem w I h μ us us' xs ys _ hx hy hb .eql (.inl rfl) x y
        refine .quiet R rfl (.bool _) (v8 (by rw [hus,hus'];exact h1) ?_) (.bool _)
        rw [hus,hus']
        show(do pure (Value.bool (←Op.equal t (.agg us) (.agg us'))):Sem Value).run E.P w=_
        rw [Sem.run_bind,h2];rfl
      · have hb := ‹eqT E (E.ti t).ud xs ys = some _›
        cases hf
        obtain⟨h1,h2⟩:=hE.eqs t hmem w I h μ us us' xs ys _ hx hy hb .neq (.inr rfl) x y
        refine .quiet R rfl (.bool (!_)) (v8 (by rw [hus,hus'];exact h1) ?_) (.bool _)
        rw [hus,hus']
        show(do pure (Value.bool (!(←Op.equal t (.agg us) (.agg us')))):Sem Value).run E.P w=_
        rw [Sem.run_bind,h2];rfl
      · cases hf
    · split at hf
      · rename_i hud
        cases hf
        have hu:=hE.und t (j7 (by rw [hud];rfl))
        rw [hud] at hu
        obtain⟨ms,hu⟩:=hu
        obtain⟨tt,vv,ex⟩: ∃a b,ρ x= .iface a b:=by generalize ρ x=q at hx;cases hx;exact⟨_,_,rfl⟩
        have ey:ρ y= .nilIface:=by generalize ρ y=q at hy;cases hy;rfl
        refine .quiet R rfl (.bool false) (v8 (by rw [ex,ey];rfl) ?_) .f
        rw [ex,ey]
        show(do pure (Value.bool (←Op.equal t (.iface tt vv) .nilIface)):Sem Value).run E.P w=_
        rw [Sem.run_bind,qat hu];rfl
      · rename_i hud
        cases hf
        have hu:=hE.und t (j7 (by rw [hud];rfl))
        rw [hud] at hu
        obtain⟨ms,hu⟩:=hu
        obtain⟨tt,vv,ex⟩: ∃a b,ρ x= .iface a b:=by generalize ρ x=q at hx;cases hx;exact⟨_,_,rfl⟩
        have ey:ρ y= .nilIface:=by generalize ρ y=q at hy;cases hy;rfl
        refine .quiet R rfl (.bool true) (v8 (by rw [ex,ey];rfl) ?_) .t
        rw [ex,ey]
        show(do pure (Value.bool (!(←Op.equal t (.iface tt vv) .nilIface))):Sem Value).run E.P w=_
        rw [Sem.run_bind,qat hu];rfl
      · cases hf
    · split at hf
      · rename_i hud ha hb
        cases hf
        have hu:=hE.und t (j7 (by rw [hud];rfl))
        rw [hud] at hu
        have ex:=qu hx ha
        have ey:=qu hy hb
        refine .quiet R rfl _ (v8 (by rw [ex,eqGuard_at_bool];rfl) (v:= .bool (_==_)) ?_) (.bool _)
        rw [ex,ey]
        show(do pure (Value.bool (←Op.equal t (.bool _) (.bool _))):Sem Value).run E.P w=_
        rw [Sem.run_bind,qb1 hu];rfl
      · rename_i hud ha hb
        cases hf
        have hu:=hE.und t (j7 (by rw [hud];rfl))
        rw [hud] at hu
        have ex:=qu hx ha
        have ey:=qu hy hb
        refine .quiet R rfl _ (v8 (by rw [ex,eqGuard_at_bool];rfl) (v:= .bool (!(_==_))) ?_) (.bool _)
        rw [ex,ey]
        show(do pure (Value.bool (!(←Op.equal t (.bool _) (.bool _)))):Sem Value).run E.P w=_
        rw [Sem.run_bind,qb1 hu];rfl
      · cases hf
theorem q7q(R:RelH w I μ h){op:UnOp}{t:TypeId}{x:Operand}{vs:List AV}(hv:kw w I h μ ρ (q8 E ⟨dst,.unOp op t x,ty,pos,aft,gd⟩) vs)
    (hf:qj E ⟨dst,.unOp op t x,ty,pos,aft,gd⟩ vs g b0=some fr):kj E ⟨dst,.unOp op t x,ty,pos,aft,gd⟩ ρ w I h μ fr:=by
  match vs,hv with
  | [v], hv =>
    have hx:=hv.1
    have hrun: ∀u,(Op.unary op (ρ x)).run E.P w= .ok u w→(execOp ρ ⟨dst,.unOp op t x,ty,pos,aft,gd⟩).run E.P w= .ok (.value u) w:=fun u hu=>jk (s:=Op.unary op (ρ x)) hu
    simp only [qj,unA] at hf
    split at hf
    · cases hf
      refine .quiet R rfl (.bool false) (hrun _ ?_) .f
      rw [qu hx rfl];rfl
    · cases hf
      refine .quiet R rfl (.bool true) (hrun _ ?_) .t
      rw [qu hx rfl];rfl
    · cases hf
      refine .quiet R rfl _ (hrun (.bool _) ?_) (.bool _)
      rw [qu hx rfl];rfl
    · cases hf
      refine .quiet R rfl _ (hrun (.int _ _) ?_) (.int _ _)
      rw [jg hx];rfl
    · cases hf
      refine .quiet R rfl _ (hrun (.int _ _) ?_) (.int _ _)
      rw [jg hx]
      simp only [Op.unary]
      unfold u9
      simp only [Bool.cond_eq_ite]
      rfl
    · cases hf
theorem qt2 (hE : EnvOK E) (R : RelH w I μ h) {s d : TypeId} {x : Operand} {v : AV} (hx : Rep w I h μ (ρ x) v) (hf : qkf (E.ti s) (E.ti d) v = some fr) : kj E ⟨dst, .convert s d x, ty, pos, aft, gd⟩ ρ w I h μ fr := by
    simp only [qkf] at hf
    split at hf
    · rename_i hud
      obtain⟨hck,hf⟩:=ql hf
      cases hf
      have hd:=hE.und d (j7 (by rw [hud];rfl))
      rw [hud] at hd
      have hs:(E.P.underlying s).isSome=true:=by
        have:=hE.und s (j0 (by simpa using hck))
        revert this
        cases (E.ti s).ud <;>simp only [qes] <;>intro hq <;>first|(rw [hq];rfl)|(obtain⟨_,hq⟩:=hq;rw [hq];rfl)|(obtain⟨_,hq,_⟩:=hq;rw [hq];rfl)
      refine .quiet R rfl _ (jk (s:=convert s d (ρ x)) (v:= .int _ _) ?_) (.int _ _)
      rw [jg hx]
      obtain⟨q,hq⟩:=Option.isSome_iff_exists.1 hs
      simp only [convert,Sem.run_bind,run_underlying hq,run_underlying hd,Result.andThen_ok]
      rfl
    · rename_i hus hud
      cases hf
      have hd:=hE.und d (j7 (by rw [hud];rfl))
      rw [hud] at hd
      have hs:=hE.und s (j7 (by rw [hus];rfl))
      rw [hus] at hs
      refine .quiet R rfl _ (jk (s:=convert s d (ρ x)) (v:= .string _) ?_) (.str _)
      rw [ji hx]
      simp only [convert,Sem.run_bind,run_underlying hs,run_underlying hd,Result.andThen_ok]
      rfl
    · cases hf
theorem qhm(hE:EnvOK E)(R:RelH w I μ h){t:TypeId}{x:Operand}{vs:List AV}(hv:kw w I h μ ρ (q8 E ⟨dst,.makeInterface t x,ty,pos,aft,gd⟩) vs)
    (hf:qj E ⟨dst,.makeInterface t x,ty,pos,aft,gd⟩ vs g b0=some fr):kj E ⟨dst,.makeInterface t x,ty,pos,aft,gd⟩ ρ w I h μ fr:=by
  match vs,hv with
  | [v], hv =>
    have hx:=hv.1
    simp only [qj] at hf
    split at hf
    · cases hf
    · cases hf
    · rename_i hno hni
      cases hf
      have hu:=hE.und t (j7 (by revert hno;cases (E.ti t).ud <;>simp [UD.isOther]))
      refine .quiet R rfl _ (jk (s:=Instr.makeInterface t (ρ x)) (v:= .iface t (ρ x)) ?_) (.iface _ _ _ hx)
      revert hu hno hni
      cases (E.ti t).ud <;>simp only [qes] <;>intro hno hni hu <;>first|exact(hni trivial).elim|(simp [Instr.makeInterface,run_underlying hu];done)|(obtain⟨_,hu,_⟩:=hu;simp [Instr.makeInterface,run_underlying hu];done)|exact(hno trivial).elim
end
end Go.AM
namespace Go.AM
set_option linter.unusedSectionVars false
variable [Lay]
section
variable {E:Env} {w:World} {I:Nat→Nat→Prop} {h:qa} {μ:Nat→Option Nat} {ρ:Operand→Value} {g:Nat→AB} {b0:Nat} {fr:FR}
variable {dst:Option Tmp} {ty:TypeId} {pos:String} {aft:Array Edge} {gd:Option (Nat×Bool)}
theorem wi{P:Program}{b:Builtin}{as:Array Operand}{ts:Array TypeId}{v:Value}{w':World}{s:Sem Value}
    (hb:builtin b ts ty (as.map fun| .const _=>true|_=>false) (as.map ρ)=(do pure (Next.value (←s)))) (hs:s.run P w= .ok v w'):
    (execOp ρ ⟨dst,.call { callee:= .builtin b,args:=as,argTypes:=ts },ty,pos,aft,gd⟩).run P w= .ok (.value v) w':=by
  show(do let d←resolve ρ { callee:= .builtin b,args:=as,argTypes:=ts } ty;invoke d.target d.args:Sem Next).run P w=_
  rw [Sem.run_bind]
  exact(congrArg (fun z=>Sem.run P z w) hb).trans (jk hs)
theorem q8e{as:Array Operand}{ts:Array TypeId}{t:TypeId}(hs:as.size=ts.size)(ht:ts.toList=[t]): ∃x,as= #[x]∧ts= #[t]:=by
  have h1:ts= #[t]:=by rw [←Array.toArray_toList (xs:=ts),ht]
  subst h1
  match as,hs with
  |⟨[x]⟩,_=>exact⟨x,rfl,rfl⟩
theorem q8f{as:Array Operand}{ts:Array TypeId}{t u:TypeId}(hs:as.size=ts.size)(ht:ts.toList=[t,u]): ∃x y,as= #[x,y]∧ts= #[t,u]:=by
  have h1:ts= #[t,u]:=by rw [←Array.toArray_toList (xs:=ts),ht]
  subst h1
  match as,hs with
  |⟨[x,y]⟩,_=>exact⟨x,y,rfl,rfl⟩
theorem qek{P:Program}{t e:TypeId}(hu:P.underlying t=some (.slice e))(a:Option Addr)(n cap:Nat):(Builtin.len_ #[t] ty #[.slice a n cap]).run P w= .ok (.int .i64 (n:Int)) w:=by
  unfold Builtin.len_
  simp [run_underlying hu,goInt]
theorem quh{P:Program}{t:TypeId}(hu:P.underlying t=some .string)(s:ByteArray):(Builtin.len_ #[t] ty #[.string s]).run P w= .ok (.int .i64 (s.size:Int)) w:=by
  unfold Builtin.len_
  simp [run_underlying hu,goInt]
theorem yn(G:GOK g h){v:Value}{t t':Ty}{b:Nat}{full fr':Bool}{l:List t'.den}(r:Rep w I h μ v (.own t b full))(hb:g b= .arr t' l fr'):
    ∃ a cap, v = .slice a l.length cap ∧ t' = t ∧ l.length ≤ cap ∧ (full = true → cap = l.length) ∧
      ((l.length=0∧cap=0)∨∃q vs e,μ b=some q∧a=some ⟨q,0,none⟩∧js t w q vs e∧cap*t.sz≤vs.size)∧h[b]? =some (.arr t' l fr'):=by
  cases r with
  | own _ _ _ a n cap ho =>
    have hb':=G.some hb (by simp)
    obtain⟨x,hx,h1,h2⟩:=ho
    rw [hb'] at hx;injection hx with hx;subst hx
    obtain⟨rfl,rfl,h3,h4,h5⟩:=h2 _ _ _ rfl
    exact⟨a,cap,rfl,rfl,h3,h4,h5,hb'⟩
theorem jas(hE:EnvOK E)(R:RelH w I μ h)(G:GOK g h){as:Array Operand}{ts:Array TypeId}{t:TypeId}{x:AV}(hs:as.size=ts.size)(ht:ts.toList=[t])
    (hv:kw w I h μ ρ (q8 E ⟨dst,.call { callee:= .builtin .len,args:=as,argTypes:=ts },ty,pos,aft,gd⟩) [x])
    (hf:jad (E.ti t).ud g x=some fr):kj E ⟨dst,.call { callee:= .builtin .len,args:=as,argTypes:=ts },ty,pos,aft,gd⟩ ρ w I h μ fr:=by
  obtain⟨o,rfl,rfl⟩:=q8e hs ht
  have hx:Rep w I h μ (ρ o) x:=hv.1
  unfold jad at hf
  split at hf
  · rename_i s hud
    cases hf
    have hu:=hE.und t (j7 (by rw [hud];rfl))
    rw [hud] at hu
    refine .quiet R rfl (.int .i64 (s.length:Int)) (wi rfl ?_) (.int _ _)
    have e:=quh (w:=w) (ty:=ty) hu ⟨s.toArray⟩
    rw [qfp] at e
    simpa [ji hx] using e
  · rename_i e _ l full hud
    cases hf
    have hu:=hE.und t (j7 (by rw [hud];rfl))
    rw [hud] at hu
    obtain⟨a,cap,hq⟩: ∃a cap,ρ o= .slice a l.length cap:=by
      generalize ρ o=q at hx
      cases hx with
      |sl _ _ _ a n cap hr _=>cases hr;exact⟨_,_,rfl⟩
    refine .quiet R rfl (.int .i64 (l.length:Int)) (wi rfl ?_) (.int _ _)
    simpa [hq] using qek (w:=w) (ty:=ty) hu a l.length cap
  · rename_i e hud
    cases hf
    have hu:=hE.und t (j7 (by rw [hud];rfl))
    rw [hud] at hu
    have hq:ρ o= .slice none 0 0:=by generalize ρ o=q at hx;cases hx;rfl
    refine .quiet R rfl (.int .i64 0) (wi rfl ?_) (.int _ _)
    simpa [hq] using qek (w:=w) (ty:=ty) hu none 0 0
  · rename_i e _ b _ hud
    split at hf
    · rename_i t' l fr' hb
      cases hf
      have hu:=hE.und t (j7 (by rw [hud];rfl))
      rw [hud] at hu
      obtain⟨a,cap,hq,_⟩:=yn G hx hb
      refine .quiet R rfl (.int .i64 (l.length:Int)) (wi rfl ?_) (.int _ _)
      simpa [hq] using qek (w:=w) (ty:=ty) hu a l.length cap
    · cases hf
  · cases hf
theorem qn1{cs:List DP}{x:Option FR}{fr:FR}(h:q6b cs x=some fr): ∃fr0,x=some fr0∧fr=⟨fr0.v,fr0.ws,cs++fr0.cs⟩:=by
  unfold q6b at h
  split at h
  · rename_i fr0;cases h;exact⟨fr0,rfl,rfl⟩
  · cases h
theorem qjz{k:IntKind}{l:List Int}: ∀(n i j:Nat) (c:AV),(gh k l i n)[j]? =some c→j<n∧c= .int k (elt (.int k) l (i+j))
  |0,_,_,_,h=>by simp [gh] at h
  | n + 1, i, j, c, h => by
    cases j with
    | zero =>
      simp [gh] at h
      exact⟨by omega,h.symm⟩
    | succ j =>
      simp only [gh,List.getElem?_cons_succ] at h
      obtain⟨h1,h2⟩:=qjz n (i+1) j c h
      exact⟨by omega,by rw [h2,Nat.add_assoc,Nat.add_comm 1 j]⟩
theorem qh8{k:IntKind}{l:List Int}: ∀(n i:Nat),(gh k l i n).length=n
  |0,_=>rfl
  |n+1,i=>by simp [gh,qh8 n]
theorem qql{w:World}{I:Nat→Nat→Prop}{k:IntKind}{l:List Int}{us:Array Value}(h: ∀i (hi:i<l.length),RD w I (.int k) (l[i]:Int) ((us.toList.drop (i*(Ty.int k).sz)).take (Ty.int k).sz))(i:Nat)(hi:i<l.length):us[i]? =some (.int k l[i]):=by
  have h1:=h i hi
  simp only [Ty.sz,Nat.mul_one] at h1
  generalize hq:(us.toList.drop i).take 1=q at h1
  cases h1 with
  | int =>
    have:=congrArg (·[0]?) hq
    simpa [List.getElem?_take,List.getElem?_drop] using this
theorem q4b (hE : EnvOK E) (R : RelH w I μ h) (G : GOK g h) {t : TypeId} {p : Value} {v : AV} (hx : Rep w I h μ p v) (hf : qx8 (E.ti t) g v = some fr) (hc : ∀ c ∈ fr.cs, c.p) :
    ∃q v',p= .pointer (some q)∧(Instr.loadAt t p).run E.P w= .ok v' w∧fr.ws=[]∧Rep w I h μ v' fr.v:=by
    have fin: ∀{fr:FR} {a:Addr} {cs:List Value} {as:List AV},(E.ti t).kn=true→cs.length=(E.ti t).size→as.length=cs.length→(∀j v,cs[j]? =some v→w.cell? (a.add j)=some v)→
        (∀(k:Nat) (v:Value) (c:AV),cs[k]? =some v→as[k]? =some c→Rep w I h μ v c)→gk (E.ti t) as=some fr→p= .pointer (some a)→
        ∃q v',p= .pointer (some q)∧(Instr.loadAt t p).run E.P w= .ok v' w∧fr.ws=[]∧Rep w I h μ v' fr.v:=by
      intro fr a cs as hk hl hla hcell hrep hval hp
      obtain⟨v',hrun,hws,_,hr⟩:=q7d hE hk hl hla hcell hrep hval
      exact⟨a,v',hp,by rw [hp];exact hrun,hws,hr⟩
    have hadd: ∀(q o j:Nat),(⟨q,o,none⟩:Addr).add j=⟨q,o+j,none⟩:=fun q o j=>Addr.add_lit q o j
    unfold qx8 at hf
    split at hf
    · rename_i b j
      split at hf
      · rename_i cs hb
        obtain⟨hck,hf⟩:=ql hf
        have hck:j+(E.ti t).size≤cs.length:=by simpa using hck
        have hb':=G.some hb (by simp)
        obtain⟨q,us,e,h1,h2,h3,h4⟩:=R.blk b _ hb'
        obtain⟨hp,hpq⟩:zk h μ b q∧p= .pointer (some ⟨q,j,none⟩):=by
          generalize p=y at hx
          cases hx with
          | ptr _ _ q' hp =>
            obtain⟨z,hz,hz1,hz2⟩:=id hp
            rw [hb'] at hz;injection hz with hz;subst hz
            have:=hz2 (by simp)
            rw [h1] at this;injection this with this;subst this
            exact⟨hp,rfl⟩
        by_cases hk:(E.ti t).kn=true
        · refine fin (cs := (us.toList.drop j).take (E.ti t).size) hk (by simp; omega) (by simp; omega) ?_ ?_ hf hpq
          · intro i v hi
            rw [hadd,cell_of_row w q _ us e _ h2]
            rw [List.getElem?_take] at hi
            split at hi
            · simpa using hi
            · cases hi
          · intro i v c hi hc
            rw [List.getElem?_take] at hi hc
            split at hi
            · rename_i hlt
              rw [if_pos hlt] at hc
              exact h4 (j+i) v c (by simpa using hi) (by simpa using hc)
            · cases hi
        · rcases hE.knows t with e | e
          · exact absurd e hk
          · rw [e] at hck hf
            simp only [gk] at hf
            have hd:(default:TI).ud.isAgg=false:=rfl
            rw [hd] at hf
            simp only at hf
            split at hf
            · rename_i v0 hv0
              have:=congrArg List.length hv0
              have hd2:(default:TI).size=1099511627776:=rfl
              rw [hd2] at this hck
              simp only [List.length_take,List.length_drop,List.length_singleton] at this
              omega
            · cases hf
      · rename_i k l fr' hb
        obtain⟨hck,hf2⟩:=ql hf
        clear hf
        simp only [Bool.and_eq_true,Nat.ble_eq] at hck
        obtain⟨⟨hj,hz1⟩,hz2⟩:=hck
        have hj:j=0:=Nat.eq_of_beq_eq_true hj
        subst hj
        obtain⟨fr0,hf0,rfl⟩:=qn1 hf2
        have hln:(E.ti t).size≤(l:List Int).length:=hc ⟨_,inferInstance⟩ (by simp)
        have hb':=G.some hb (by simp)
        rcases R.blk b _ hb' with hnil|⟨q,us,e,h1,h2,h3,h4,h5⟩
        · have : (l : List Int).length = 0 := by rw [show (l : List Int) = [] from hnil]; rfl
          omega
        · obtain ⟨hp, hpq⟩ : zk h μ b q ∧ p = .pointer (some ⟨q, 0, none⟩) := by
            generalize p=y at hx
            cases hx with
            | ptr _ _ q' hp =>
              obtain⟨z,hz,hz1,hz2⟩:=id hp
              rw [hb'] at hz;injection hz with hz;subst hz
              have:=hz2 (by simp)
              rw [h1] at this;injection this with this;subst this
              exact⟨hp,rfl⟩
          have h3:(l:List Int).length*1≤us.size:=h3
          have hcell:=qql (l:=l) h4
          refine fin (fr:=fr0) (cs:=us.toList.take (E.ti t).size) (j0 hz2) (by simp;omega) (by rw [qh8];simp;omega) ?_ ?_ hf0 hpq
          · intro i v hi
            rw [hadd,cell_of_row w q _ us e _ h2.choose_spec.1]
            rw [List.getElem?_take] at hi
            split at hi
            · simpa using hi
            · cases hi
          · intro i v c hi hc'
            obtain⟨g1,g2⟩:=qjz _ _ _ _ hc'
            rw [Nat.zero_add] at g2
            rw [List.getElem?_take,if_pos g1] at hi
            have hil:i<(l:List Int).length:=by omega
            have h6:=hcell i hil
            have h7:v= .int k (l[i]'hil):=by
              have:us[i]? =some v:=by simpa using hi
              rw [h6] at this
              exact(Option.some.inj this).symm
            rw [h7,g2,qg9 hil]
            exact .int k _
      · cases hf
    · rename_i t' b i j
      split at hf
      · rename_i t2 l fr' hb
        split at hf
        · rename_i he
          subst he
          · obtain ⟨hck, hf⟩ := ql hf
            obtain⟨fr0,hf0,hfr⟩:=qn1 hf
            clear hf
            subst hfr
            have hf:=hf0
            clear hf0
            have hck:j+(E.ti t).size≤t2.sz:=by simpa using hck
            have hb':=G.some hb (by simp)
            have hil:i<l.length:=hc ⟨_,inferInstance⟩ (by simp)
            have hx0':l[i]=elt t2 l i:=(qg9 hil).symm
            generalize elt t2 l i=x0 at hf hx0'
            rcases R.blk b _ hb' with hnil|⟨q,us,e,h1,h2,h3,h4,h5⟩
            · subst hnil;simp at hil
            · have hrd := h4 i hil
              rw [hx0'] at hrd
              have hpq:p= .pointer (some ⟨q,i*t2.sz+j,none⟩):=by
                generalize p=y at hx
                cases hx with
                | eptr _ _ _ _ q' hp =>
                  obtain⟨z,hz,hz1,hz2⟩:=hp
                  rw [hb'] at hz;injection hz with hz;subst hz
                  have:=hz2 (by simp)
                  rw [h1] at this;injection this with this;subst this
                  rfl
              have hlt:i*t2.sz+t2.sz≤l.length*t2.sz:=by
                have:=Nat.mul_le_mul_right t2.sz hil
                rw [Nat.succ_mul] at this
                exact this
              by_cases hk:(E.ti t).kn=true
              · refine fin (fr := fr0) (cs := (us.toList.drop (i * t2.sz + j)).take (E.ti t).size) hk (by simp; omega) (by simp [w6]; omega) ?_ ?_ hf hpq
                · intro k v hi
                  rw [hadd,cell_of_row w q _ us e _ h2.choose_spec.1]
                  rw [List.getElem?_take] at hi
                  split at hi
                  · simpa using hi
                  · cases hi
                · intro k v c hi hc
                  rw [List.getElem?_take] at hi hc
                  split at hi
                  · rename_i hlt
                    rw [if_pos hlt] at hc
                    refine hrd.rep (j+k) v c ?_ (by simpa using hc)
                    rw [List.getElem?_take,if_pos (by omega),List.getElem?_drop]
                    rw [List.getElem?_drop] at hi
                    rw [←hi];congr 1;omega
                  · cases hi
              · rcases hE.knows t with e | e
                · exact absurd e hk
                · rw [e] at hck hf
                  simp only [gk] at hf
                  have hd:(default:TI).ud.isAgg=false:=rfl
                  rw [hd] at hf
                  simp only at hf
                  split at hf
                  · rename_i v0 hv0
                    have:=congrArg List.length hv0
                    have hd2:(default:TI).size=1099511627776:=rfl
                    rw [hd2] at this hck
                    simp only [List.length_take,List.length_drop,List.length_singleton,w6] at this
                    omega
                  · cases hf
        · cases hf
      · cases hf
    · rename_i t' x0 j
      obtain⟨hck,hf⟩:=ql hf
      have hck:j+(E.ti t).size≤t'.sz:=by simpa using hck
      obtain⟨q,o,cs,hrd,hcs,hpq⟩: ∃q o cs,RD w I t' x0 cs∧(∀(k:Nat) (u:Value),cs[k]? =some u→w.cell? ⟨q,o+k,none⟩=some u∧I q (o+k))∧p= .pointer (some ⟨q,o+j,none⟩):=by
        generalize p=y at hx
        cases hx with
        |iptr _ _ _ q o cs hr hc=>exact⟨q,o,cs,hr,hc,rfl⟩
      have hlen:=hrd.len
      by_cases hk:(E.ti t).kn=true
      · refine fin (cs := (cs.drop j).take (E.ti t).size) hk (by simp; omega) (by simp [w6]; omega) ?_ ?_ hf hpq
        · intro k v hi
          rw [hadd]
          rw [List.getElem?_take] at hi
          split at hi
          · rw [List.getElem?_drop] at hi
            have:=(hcs _ _ hi).1
            rwa [←Nat.add_assoc] at this
          · cases hi
        · intro k v c hi hc
          rw [List.getElem?_take] at hi hc
          split at hi
          · rename_i hlt
            rw [if_pos hlt] at hc
            exact hrd.rep (j+k) v c (by simpa using hi) (by simpa using hc)
          · cases hi
      · rcases hE.knows t with e | e
        · exact absurd e hk
        · rw [e] at hck hf
          simp only [gk] at hf
          have hd:(default:TI).ud.isAgg=false:=rfl
          rw [hd] at hf
          simp only at hf
          split at hf
          · rename_i v0 hv0
            have:=congrArg List.length hv0
            have hd2:(default:TI).size=1099511627776:=rfl
            rw [hd2] at this hck
            simp only [List.length_take,List.length_drop,List.length_singleton,w6] at this
            omega
          · cases hf
    · cases hf
theorem q7n(hE:EnvOK E)(R:RelH w I μ h)(G:GOK g h){t:TypeId}{x:Operand}{vs:List AV}(hv:kw w I h μ ρ (q8 E ⟨dst,.load t x,ty,pos,aft,gd⟩) vs)
    (hf:qj E ⟨dst,.load t x,ty,pos,aft,gd⟩ vs g b0=some fr) (hc: ∀c∈fr.cs,c.p):kj E ⟨dst,.load t x,ty,pos,aft,gd⟩ ρ w I h μ fr:=by
  match vs,hv with
  | [v], hv =>
    simp only [qj] at hf
    obtain⟨q,v',_,hrun,hws,hr⟩:=q4b hE R G hv.1 hf hc
    exact .quiet R hws v' (jk (s:=Instr.loadAt t (ρ x)) hrun) hr
end
end Go.AM
namespace Go.AM
set_option linter.unusedSectionVars false
variable [Lay]
section
variable {E:Env} {w:World} {I:Nat→Nat→Prop} {h:qa} {μ:Nat→Option Nat} {ρ:Operand→Value} {g:Nat→AB} {b0:Nat} {fr:FR}
variable {dst:Option Tmp} {ty:TypeId} {pos:String} {aft:Array Edge} {gd:Option (Nat×Bool)}
theorem qb2{P:Program}{t e:TypeId}{ie:TypeInfo}(hu:P.underlying t=some (.slice e))(hi:P.info? e=some ie)(a:Addr)(n cap:Nat)(k:IntKind)(i:Int)(h0:0≤i)(h1:i<(n:Int)):
    (Instr.indexAt t (.slice (some a) n cap) (.int k i)).run P w= .ok (.pointer (some (a.add (i.toNat*ie.size)))) w:=by
  simp [Instr.indexAt,run_underlying hu,asIntOf,h0,h1,sizeOf,typeInfo,hi]
theorem zz{P:Program}{t e:TypeId}{m:Nat}{ie:TypeInfo}(hu:P.underlying t=some (.array m e))(hi:P.info? e=some ie)(a:Addr)(k:IntKind)(i:Int)(h0:0≤i)(h1:i<(m:Int)):
    (Instr.indexAt t (.pointer (some a)) (.int k i)).run P w= .ok (.pointer (some (a.add (i.toNat*ie.size)))) w:=by
  simp [Instr.indexAt,run_underlying hu,asIntOf,h0,h1,sizeOf,typeInfo,hi,Instr.sureAddr]
theorem qpc: ∀{l:List (Nat×(IntKind×List Int))} {q:Nat} {x:IntKind×List Int},qyr l q=some x→(q,x)∈l
  |[],_,_,h=>by cases h
  | (g, y) :: r, q, x, h => by
    unfold qyr at h
    split at h
    · rename_i e
      have:g=q:=Nat.eq_of_beq_eq_true e
      subst this
      injection h with h
      subst h
      exact List.mem_cons_self ..
    · exact List.mem_cons_of_mem _ (qpc h)
theorem qwo (hE : EnvOK E) (R : RelH w I μ h) (hρ : ∀ q, ρ (.global q) = .pointer (some ⟨q, 0, none⟩)) {t : TypeId} {q : Nat} {i : Operand} {vi : AV} (hi : Rep w I h μ (ρ i) vi)
    (hf:qlz E (E.ti t).ud q vi=some fr) (hc: ∀c∈fr.cs,c.p):kj E ⟨dst,.indexAddr t (.global q) i,ty,pos,aft,gd⟩ ρ w I h μ fr:=by
  unfold qlz at hf
  split at hf
  · rename_i k0 n m e k l hud htab
    have ei:=jg hi
    split at hf
    · rename_i k' hty
      split at hf
      · rename_i hk _
        subst hk
        cases hf
        have hu:=hE.und t (j7 (by rw [hud];rfl))
        rw [hud] at hu
        obtain⟨hes,hek,_⟩:=hE.ty e _ hty
        obtain⟨ie,hie,hsz,_⟩:=hE.info e hek
        have h0:0≤n:=hc ⟨_,inferInstance⟩ (by simp)
        have h1:n<(m:Int):=hc ⟨_,inferInstance⟩ (by simp)
        have h2:n<(l.length:Int):=hc ⟨_,inferInstance⟩ (by simp)
        have hil:n.toNat<l.length:=by omega
        obtain⟨⟨e',fz,hcell⟩,hI⟩:=R.laid.1 _ (hE.tabs _ (qpc htab))
        simp only at hcell hI
        have hx0:elt (.int k') l n.toNat=l[n.toNat]:=qg9 hil
        have hr:Rep w I h μ (.pointer (some ⟨q,n.toNat+0,none⟩)) (.iptr (.int k') (elt (.int k') l n.toNat) 0):=by
          refine .iptr (.int k') _ 0 q n.toNat [.int k' l[n.toNat]] (by rw [hx0];exact .int k' _) fun j u hj=> ?_
          match j,hj with
          | 0, hj =>
            injection hj with hj
            subst hj
            refine⟨?_,hI _ (by simpa using hil)⟩
            simp [World.cell?,hcell,hil]
          |j+1,hj=>simp at hj
        refine .quiet R rfl _ (jk (s:=Instr.indexAt t (ρ (.global q)) (ρ i)) ?_) hr
        rw [hρ,ei,zz hu hie _ _ _ h0 h1,hsz,hes,Addr.add_lit]
        simp [Ty.sz]
      · cases hf
    · cases hf
  · cases hf
theorem qrv (hE : EnvOK E) (R : RelH w I μ h) (G : GOK g h) (hρ : ∀ q, ρ (.global q) = .pointer (some ⟨q, 0, none⟩)) {t : TypeId} {x i : Operand} {vs : List AV} (hv : kw w I h μ ρ (q8 E ⟨dst, .indexAddr t x i, ty, pos, aft, gd⟩) vs)
    (hf:qj E ⟨dst,.indexAddr t x i,ty,pos,aft,gd⟩ vs g b0=some fr) (hc: ∀c∈fr.cs,c.p):kj E ⟨dst,.indexAddr t x i,ty,pos,aft,gd⟩ ρ w I h μ fr:=by
  match vs,hv with
  | [vx, vi], hv =>
    obtain⟨hx,hi,_⟩:=hv
    simp only [qj] at hf
    split at hf
    · exact qwo hE R hρ hi hf hc
    unfold qky at hf
    split at hf
    · rename_i k n
      have ei:=jg hi
      split at hf
      · rename_i m e hud
        split at hf
        · rename_i k' b hbig
          cases hf
          have hu:=hE.und t (j7 (by rw [hud];rfl))
          rw [hud] at hu
          have hty:(E.ti e).ty=some (.int k'):=by
            unfold q9l at hbig
            split at hbig
            · split at hbig
              · rename_i k'' hty
                injection hbig with hbig
                subst hbig
                exact hty
              · cases hbig
            · cases hbig
          obtain⟨hes,hek,_⟩:=hE.ty e _ hty
          obtain⟨ie,hie,hsz,_⟩:=hE.info e hek
          have h0:0≤n:=hc ⟨_,inferInstance⟩ (by simp)
          have h1:n<(m:Int):=hc ⟨_,inferInstance⟩ (by simp)
          obtain⟨q,hq,hp⟩: ∃q,ρ x= .pointer (some ⟨q,0,none⟩)∧zk h μ b q:=by
            generalize ρ x=v at hx
            cases hx with
            |ptr _ _ q hp=>exact⟨q,rfl,hp⟩
          have hr:Rep w I h μ (.pointer (some ⟨q,n.toNat*(Ty.int k').sz+0,none⟩)) (.eptr (.int k') b n.toNat 0):= .eptr (.int k') b n.toNat 0 q hp
          refine .quiet R rfl _ (jk (s:=Instr.indexAt t (ρ x) (ρ i)) ?_) hr
          rw [hq,ei,zz hu hie _ _ _ h0 h1,hsz,hes,Addr.add_lit]
          simp
        obtain⟨hck,hf⟩:=ql hf
        split at hf
        · rename_i p hp
          cases hf
          have hu:=hE.und t (j7 (by rw [hud];rfl))
          rw [hud] at hu
          obtain⟨ie,hie,hsz,_⟩:=hE.info e (j0 (by simpa using hck))
          obtain⟨⟨qb,qo,qs⟩,hq,hsp,hr⟩:=qn2 hp hx
          simp only at hsp;subst hsp
          have h0:0≤n:=hc ⟨_,inferInstance⟩ (by simp)
          have h1:n<(m:Int):=hc ⟨_,inferInstance⟩ (by simp)
          refine .quiet R rfl _ (jk (s:=Instr.indexAt t (ρ x) (ρ i)) ?_) hr
          rw [hq,ei,zz hu hie _ _ _ h0 h1,hsz,Addr.add_lit]
        · cases hf
      · rename_i e hud
        have hu:=hE.und t (j7 (by rw [hud];rfl))
        rw [hud] at hu
        split at hf
        · rename_i u l full
          obtain⟨hck,hf⟩:=ql hf
          have hck:(E.ti e).size=u.sz∧(E.ti e).size≤1000000:=by simpa using hck
          obtain⟨ie,hie,hsz,_⟩:=hE.info e (j0 hck.2)
          · cases hf
            have h0:0≤n:=hc ⟨_,inferInstance⟩ (by simp)
            have h1:n<(l.length:Int):=hc ⟨_,inferInstance⟩ (by simp)
            have hil:n.toNat<l.length:=by omega
            have hx0':l[n.toNat]=elt u l n.toNat:=(qg9 hil).symm
            generalize elt u l n.toNat=x0 at hx0'
            obtain⟨a,cap,cs,hq,hel,hat⟩: ∃(a:Option Addr) (cap:Nat) (cs:Nat→List Value),ρ x= .slice a l.length cap∧(∀i (h:i<l.length),RD w I u l[i] (cs i))∧
                (0<l.length→∃g o,a=some ⟨g,o,none⟩∧∀i,i<l.length→∀(j:Nat) (v:Value),(cs i)[j]? =some v→w.cell? ⟨g,o+(i*u.sz+j),none⟩=some v∧I g (o+(i*u.sz+j))):=by
              generalize ρ x=q at hx
              cases hx with
              | sl _ _ _ a m cap hr _ =>
                cases hr with
                |sl _ _ _ _ cs hcap hel hat=>exact⟨a,cap,cs,rfl,hel,hat⟩
            obtain⟨q,o,rfl,hcells⟩:=hat (by omega)
            have hrd:=hel n.toNat hil
            rw [hx0'] at hrd
            have hr:Rep w I h μ (.pointer (some ⟨q,(o+n.toNat*u.sz)+0,none⟩)) (.iptr u x0 0):=
              .iptr u x0 0 q (o+n.toNat*u.sz) (cs n.toNat) hrd (fun k v hk=>by have:=hcells n.toNat hil k v hk;rw [←Nat.add_assoc] at this;exact this)
            refine .quiet R rfl _ (jk (s:=Instr.indexAt t (ρ x) (ρ i)) ?_) hr
            rw [hq,ei,qb2 hu hie _ _ _ _ _ h0 (by omega),hsz,hck.1,Addr.add_lit]
            rfl
        · rename_i u b full
          obtain⟨hck,hf⟩:=ql hf
          have hck:(E.ti e).size=u.sz∧(E.ti e).size≤1000000:=by simpa using hck
          obtain⟨ie,hie,hsz,_⟩:=hE.info e (j0 hck.2)
          split at hf
          · rename_i u' l fr' hb
            cases hf
            have h0:0≤n:=hc ⟨_,inferInstance⟩ (by simp)
            have h1:n<(l.length:Int):=hc ⟨_,inferInstance⟩ (by simp)
            obtain⟨a,cap,hq,rfl,h3,h4,h5,hb'⟩:=yn G hx hb
            rcases h5 with⟨h5,_⟩|⟨q,us,e',h6,rfl,h8,h9⟩
            · omega
            · have hr : Rep w I h μ (.pointer (some ⟨q, n.toNat * u'.sz + 0, none⟩)) (.eptr u' b n.toNat 0) := .eptr u' b n.toNat 0 q ⟨_, hb', by simp, fun _ => h6⟩
              refine .quiet R rfl _ (jk (s:=Instr.indexAt t (ρ x) (ρ i)) ?_) hr
              rw [hq,ei,qb2 hu hie _ _ _ _ _ h0 h1,hsz,hck.1,Addr.add_lit]
              simp
          · cases hf
        · cases hf
      · cases hf
    · cases hf
theorem q4u (hE : EnvOK E) (R : RelH w I μ h) {t : TypeId} {x i : Operand} {vs : List AV} (hv : kw w I h μ ρ (q8 E ⟨dst, .index t x i, ty, pos, aft, gd⟩) vs)
    (hf:qj E ⟨dst,.index t x i,ty,pos,aft,gd⟩ vs g b0=some fr) (hc: ∀c∈fr.cs,c.p):kj E ⟨dst,.index t x i,ty,pos,aft,gd⟩ ρ w I h μ fr:=by
  match vs,hv with
  | [vx, vi], hv =>
    obtain⟨hx,hi,_⟩:=hv
    simp only [qj] at hf
    unfold q30 at hf
    split at hf
    · rename_i k n
      have ei:=jg hi
      split at hf
      · rename_i s hud
        cases hf
        have hu:=hE.und t (j7 (by rw [hud];rfl))
        rw [hud] at hu
        have h0:0≤n:=hc ⟨_,inferInstance⟩ (by simp)
        have h1:n<(s.length:Int):=hc ⟨_,inferInstance⟩ (by simp)
        refine .quiet R rfl (.int .u8 (bt s n)) (jk (s:=Instr.index t (ρ x) (ρ i)) ?_) (.int _ _)
        rw [ei,ji hx]
        have hlt:n.toNat<s.length:=by omega
        have qd:(⟨s.toArray⟩:ByteArray)[n.toNat]? =some s[n.toNat]:=by
          have hsz:n.toNat<(⟨s.toArray⟩:ByteArray).size:=by rw [qfp];exact hlt
          rw [getElem?_pos (⟨s.toArray⟩:ByteArray) n.toNat hsz]
          rfl
        have hu':E.P.underlying t=some .string:=hu
        simp only [Instr.index,asIntOf,Sem.run_bind,Sem.run_pure,Result.andThen_ok,run_underlying hu',if_pos h0,qd]
        simp [bt,List.getD_eq_getElem?_getD,hlt]
      · rename_i m e cs hud
        obtain⟨hck,hf⟩:=ql hf
        simp only [Bool.and_eq_true,decide_eq_true_eq,Nat.ble_eq] at hck
        obtain⟨⟨⟨⟨h0,h1⟩,h2⟩,h3⟩,h4⟩:=hck
        have hu:=hE.und t (j7 (by rw [hud];rfl))
        rw [hud] at hu
        obtain⟨ie,hie,hsz,_⟩:=hE.info e (j0 h3)
        have hue:=hE.und e (j0 h3)
        obtain⟨us,hq,hl,hrep⟩: ∃us,ρ x= .agg us∧us.size=cs.length∧∀(i:Nat) (v:Value) (c:AV),us[i]? =some v→cs[i]? =some c→Rep w I h μ v c:=by
          generalize ρ x=q at hx
          cases hx with
          |agg us _ hl hcs=>exact⟨us,rfl,hl,hcs⟩
        have hu':E.P.underlying t=some (.array m e):=hu
        unfold gk at hf
        cases hag:(E.ti e).ud.isAgg with
        | true =>
          rw [hag] at hf
          cases hf
          have hagg:(isAgg e).run E.P w= .ok true w:=by
            unfold isAgg
            revert hue hag
            cases (E.ti e).ud <;>simp [qes,UD.isAgg]
            · intro h1;simp [run_underlying h1]
            · intro x h1 h2;simp [run_underlying h1]
          refine .quiet R rfl (.agg (us.extract (n.toNat*ie.size) (n.toNat*ie.size+ie.size))) (jk (s:=Instr.index t (ρ x) (ρ i)) ?_) ?_
          · rw [ei, hq]
            simp only [Instr.index,asIntOf,Sem.run_bind,Sem.run_pure,Result.andThen_ok,run_underlying hu',h0,h1,and_self,if_true]
            simp [part,hagg,sizeOf,typeInfo,hie]
          · refine .agg _ _ (by rw [hsz]; simp; omega) fun j v c hj hcj => ?_
            rw [Array.getElem?_extract] at hj
            rw [List.getElem?_take] at hcj
            split at hj
            · rename_i hlt
              split at hcj
              · rw [List.getElem?_drop] at hcj
                refine hrep _ v c hj ?_
                rw [hsz];exact hcj
              · cases hcj
            · cases hj
        | false =>
          rw [hag] at hf
          simp only at hf
          split at hf
          · rename_i v0 hv0
            cases hf
            have hl1:=congrArg List.length hv0
            simp at hl1
            have hs1:(E.ti e).size=1:=by omega
            have hagg:(isAgg e).run E.P w= .ok false w:=by
              unfold isAgg
              revert hue hag
              cases (E.ti e).ud with
              | other =>
                rintro⟨d,hd,hn⟩ _
                rw [Sem.run_bind,run_underlying hd]
                cases d <;>first|(exact hn.elim)|simp
              |_=>simp [qes,UD.isAgg] <;>first|(intro h1;simp [run_underlying h1];done)|(intro _ h1;simp [run_underlying h1])
            have hlt:n.toNat*ie.size<us.size:=by rw [hsz,hs1];rw [hs1] at h4;omega
            refine .quiet R rfl us[n.toNat*ie.size] (jk (s:=Instr.index t (ρ x) (ρ i)) ?_) ?_
            · rw [ei, hq]
              simp only [Instr.index,asIntOf,Sem.run_bind,Sem.run_pure,Result.andThen_ok,run_underlying hu',h0,h1,and_self,if_true]
              simp [part,hagg,sizeOf,typeInfo,hie,hlt]
            · refine hrep (n.toNat * ie.size) _ v0 (by simp [hlt]) ?_
              have:=congrArg (fun l=>l[0]?) hv0
              simp only [List.getElem?_take,List.getElem?_drop,hs1] at this
              rw [hsz,hs1]
              simpa using this
          · cases hf
      · cases hf
    · cases hf
theorem q4t (hE : EnvOK E) (R : RelH w I μ h) {t : TypeId} {x : Operand} {i : Nat} {vs : List AV} (hv : kw w I h μ ρ (q8 E ⟨dst, .field t x i, ty, pos, aft, gd⟩) vs)
    (hf:qj E ⟨dst,.field t x i,ty,pos,aft,gd⟩ vs g b0=some fr):kj E ⟨dst,.field t x i,ty,pos,aft,gd⟩ ρ w I h μ fr:=by
  match vs,hv with
  | [vx], hv =>
    have hx:=hv.1
    cases vx with
    | agg cs =>
      simp only [qj] at hf
      split at hf
      · rename_i fs hud
        split at hf
        · rename_i u off hfs
          obtain⟨hck,hf⟩:=ql hf
          simp only [Bool.and_eq_true,Nat.ble_eq] at hck
          have hu:=hE.und t (j7 (by rw [hud];rfl))
          rw [hud] at hu
          obtain⟨fields,hu,hfl⟩:=hu
          obtain⟨iu,hiu,hsz,_⟩:=hE.info u (j0 hck.2)
          have hue:=hE.und u (j0 hck.2)
          have hfi: ∃f,fields[i]? =some f∧f.type=u∧f.offset=off:=by
            rw [←hfl,List.getElem?_map] at hfs
            cases hq':fields.toList[i]? with
            |none=>rw [hq'] at hfs;cases hfs
            | some f =>
              rw [hq'] at hfs
              simp at hfs
              exact⟨f,by simpa using hq',hfs.1,hfs.2⟩
          obtain⟨f,hfi,rfl,rfl⟩:=hfi
          obtain⟨us,hq,hl,hrep⟩: ∃us,ρ x= .agg us∧us.size=cs.length∧∀(i:Nat) (v:Value) (c:AV),us[i]? =some v→cs[i]? =some c→Rep w I h μ v c:=by
            generalize ρ x=q at hx
            cases hx with
            |agg us _ hl hcs=>exact⟨us,rfl,hl,hcs⟩
          unfold gk at hf
          cases hag:(E.ti f.type).ud.isAgg with
          | true =>
            rw [hag] at hf
            cases hf
            have hagg:(isAgg f.type).run E.P w= .ok true w:=by
              unfold isAgg
              revert hue hag
              cases (E.ti f.type).ud <;>simp [qes,UD.isAgg]
              · intro h1;simp [run_underlying h1]
              · intro x h1 h2;simp [run_underlying h1]
            refine .quiet R rfl (.agg (us.extract f.offset (f.offset+iu.size))) (jk (s:=Instr.field t (ρ x) i) ?_) ?_
            · rw [hq]
              simp [Instr.field,run_underlying hu,hfi,part,hagg,sizeOf,typeInfo,hiu,asAgg]
            · refine .agg _ _ (by simp; omega) fun j v c hj hcj => ?_
              rw [Array.getElem?_extract] at hj
              rw [List.getElem?_take] at hcj
              split at hj
              · split at hcj
                · rw [List.getElem?_drop] at hcj
                  exact hrep _ v c hj hcj
                · cases hcj
              · cases hj
          | false =>
            rw [hag] at hf
            simp only at hf
            split at hf
            · rename_i v0 hv0
              cases hf
              have hl1:=congrArg List.length hv0
              simp at hl1
              have hagg:(isAgg f.type).run E.P w= .ok false w:=by
                unfold isAgg
                revert hue hag
                cases (E.ti f.type).ud with
                | other =>
                  rintro⟨d,hd,hn⟩ _
                  rw [Sem.run_bind,run_underlying hd]
                  cases d <;>first|(exact hn.elim)|simp
                |_=>simp [qes,UD.isAgg] <;>first|(intro h1;simp [run_underlying h1];done)|(intro _ h1;simp [run_underlying h1])
              have hlt:f.offset<us.size:=by omega
              refine .quiet R rfl us[f.offset] (jk (s:=Instr.field t (ρ x) i) ?_) ?_
              · rw [hq]
                simp [Instr.field,run_underlying hu,hfi,part,hagg,asAgg,hlt]
              · refine hrep f.offset _ v0 (by simp [hlt]) ?_
                have:=congrArg (fun l=>l[0]?) hv0
                simp only [List.getElem?_take,List.getElem?_drop] at this
                split at this
                · simpa using this
                · simp at this
            · cases hf
        · cases hf
      · cases hf
    |_=>simp [qj] at hf
theorem qtv{P:Program}: ∀(ls:List Value) (as:List AV) (k:IntKind) (a m:Int),(∀(i:Nat) (v:Value) (c:AV),ls[i]? =some v→as[i]? =some c→Rep w I h μ v c)→ls.length=as.length→
    qff a as=some m→(ls.foldlM Builtin.min2 (.int k a)).run P w= .ok (.int k m) w
  | [], [], k, a, m, _, _, hm => by
    cases hm
    rfl
  | v :: ls, c :: as, k, a, m, hr, hl, hm => by
    have hc:=hr 0 v c rfl rfl
    cases c with
    | int k2 n =>
      have ev:=jg hc
      subst ev
      simp only [qff] at hm
      have ih:=qtv (P:=P) ls as k (min a n) m (fun i v c h1 h2=>hr (i+1) v c (by simpa using h1) (by simpa using h2)) (by simpa using hl) hm
      have hmin:(if n<a then n else a)=min a n:=by omega
      rw [List.foldlM_cons,Sem.run_bind]
      show(((pure (.int k (if n<a then n else a)):Sem Value).run P w).andThen fun a w'=>(List.foldlM Builtin.min2 a ls).run P w')=_
      rw [hmin]
      exact ih
    |_=>simp [qff] at hm
  |[],_::_,_,_,_,_,hl,_=>by simp at hl
  |_::_,[],_,_,_,_,hl,_=>by simp at hl
theorem qhq: ∀(as:List Operand) (ts:List TypeId) (vs:List AV),as.length=ts.length→kw w I h μ ρ ((as.zip ts).map fun p=>(p.2,p.1)) vs→
    vs.length=as.length∧∀(i:Nat) (v:Value) (c:AV),(as.map ρ)[i]? =some v→vs[i]? =some c→Rep w I h μ v c
  | [], [], vs, _, hv => by
    match vs,hv with
    |[],_=>exact⟨rfl,fun i v c h1 _=>by simp at h1⟩
  | a :: as, t :: ts, vs, hl, hv => by
    match vs,hv with
    | u :: vs, hv =>
      obtain⟨h1,h2⟩:=qhq as ts vs (by simpa using hl) hv.2
      refine⟨by simp [h1],fun i v c e1 e2=> ?_⟩
      cases i with
      |zero=>simp at e1 e2;subst e1;subst e2;exact hv.1
      |succ i=>exact h2 i v c (by simpa using e1) (by simpa using e2)
  |[],_::_,_,hl,_=>by simp at hl
  |_::_,[],_,hl,_=>by simp at hl
theorem jau (R : RelH w I μ h) {as : Array Operand} {ts : Array TypeId} {vs : List AV} {m : AV} (hs : as.size = ts.size)
    (hv:kw w I h μ ρ (q8 E ⟨dst,.call { callee:= .builtin .min,args:=as,argTypes:=ts },ty,pos,aft,gd⟩) vs)
    (hm:jag vs=some m):kj E ⟨dst,.call { callee:= .builtin .min,args:=as,argTypes:=ts },ty,pos,aft,gd⟩ ρ w I h μ ⟨m,[],[]⟩:=by
  obtain⟨hl,hr⟩:=qhq as.toList ts.toList vs (by simpa using hs) hv
  match vs,hm with
  | .int k a :: r, hm =>
    simp only [jag] at hm
    split at hm
    · rename_i m' hm'
      cases hm
      have hl0:as.toList.map ρ≠[]:=by
        intro e
        have:=congrArg List.length e
        simp at this hl
        simp [this] at hl
      obtain⟨v0,ls,hls⟩:=List.exists_cons_of_ne_nil hl0
      have h0:=hr 0 v0 _ (by rw [hls];rfl) rfl
      have e0:=jg h0
      subst e0
      have hlen:ls.length=r.length:=by
        have:=congrArg List.length hls
        simp at this hl
        omega
      have hrun:=qtv (P:=E.P) ls r k a m' (fun i v c h1 h2=>hr (i+1) v c (by rw [hls];simpa using h1) (by simpa using h2)) hlen hm'
      refine .quiet R rfl (.int k m') (wi rfl ?_) (.int _ _)
      unfold Builtin.min_
      have:(as.map ρ).toList= .int k a::ls:=by rw [←hls];simp
      simp only [this]
      exact hrun
    · cases hm
theorem qtt{P:Program}: ∀(ls:List Value) (as:List AV) (k:IntKind) (a m:Int),(∀(i:Nat) (v:Value) (c:AV),ls[i]? =some v→as[i]? =some c→Rep w I h μ v c)→ls.length=as.length→
    qfd a as=some m→(ls.foldlM Builtin.max2 (.int k a)).run P w= .ok (.int k m) w
  | [], [], k, a, m, _, _, hm => by
    cases hm
    rfl
  | v :: ls, c :: as, k, a, m, hr, hl, hm => by
    have hc:=hr 0 v c rfl rfl
    cases c with
    | int k2 n =>
      have ev:=jg hc
      subst ev
      simp only [qfd] at hm
      have ih:=qtt (P:=P) ls as k (max a n) m (fun i v c h1 h2=>hr (i+1) v c (by simpa using h1) (by simpa using h2)) (by simpa using hl) hm
      have hmin:(if n>a then n else a)=max a n:=by omega
      rw [List.foldlM_cons,Sem.run_bind]
      show(((pure (.int k (if n>a then n else a)):Sem Value).run P w).andThen fun a w'=>(List.foldlM Builtin.max2 a ls).run P w')=_
      rw [hmin]
      exact ih
    |_=>simp [qfd] at hm
  |[],_::_,_,_,_,_,hl,_=>by simp at hl
  |_::_,[],_,_,_,_,hl,_=>by simp at hl
theorem jat (R : RelH w I μ h) {as : Array Operand} {ts : Array TypeId} {vs : List AV} {m : AV} (hs : as.size = ts.size)
    (hv:kw w I h μ ρ (q8 E ⟨dst,.call { callee:= .builtin .max,args:=as,argTypes:=ts },ty,pos,aft,gd⟩) vs)
    (hm:jae vs=some m):kj E ⟨dst,.call { callee:= .builtin .max,args:=as,argTypes:=ts },ty,pos,aft,gd⟩ ρ w I h μ ⟨m,[],[]⟩:=by
  obtain⟨hl,hr⟩:=qhq as.toList ts.toList vs (by simpa using hs) hv
  match vs,hm with
  | .int k a :: r, hm =>
    simp only [jae] at hm
    split at hm
    · rename_i m' hm'
      cases hm
      have hl0:as.toList.map ρ≠[]:=by
        intro e
        have:=congrArg List.length e
        simp at this hl
        simp [this] at hl
      obtain⟨v0,ls,hls⟩:=List.exists_cons_of_ne_nil hl0
      have h0:=hr 0 v0 _ (by rw [hls];rfl) rfl
      have e0:=jg h0
      subst e0
      have hlen:ls.length=r.length:=by
        have:=congrArg List.length hls
        simp at this hl
        omega
      have hrun:=qtt (P:=E.P) ls r k a m' (fun i v c h1 h2=>hr (i+1) v c (by rw [hls];simpa using h1) (by simpa using h2)) hlen hm'
      refine .quiet R rfl (.int k m') (wi rfl ?_) (.int _ _)
      unfold Builtin.max_
      have:(as.map ρ).toList= .int k a::ls:=by rw [←hls];simp
      simp only [this]
      exact hrun
    · cases hm
end
end Go.AM
namespace Go.AM
set_option linter.unusedSectionVars false
variable [Lay]
section
variable {E:Env} {w:World} {I:Nat→Nat→Prop} {h:qa} {μ:Nat→Option Nat} {ρ:Operand→Value} {g:Nat→AB} {b0:Nat} {fr:FR}
variable {dst:Option Tmp} {ty:TypeId} {pos:String} {aft:Array Edge} {gd:Option (Nat×Bool)}
theorem RD.cut {t : Ty} {s : List t.den} {a : Option Addr} {cap : Nat} (r : RD w I (.sl t) s [.slice a s.length cap]) (l hh m : Nat) (h1 : l ≤ hh) (h2 : hh ≤ m) (h3 : hh ≤ s.length) (sz : Nat) (hsz : sz = t.sz) :
    RD w I (.sl t) ((s.take hh).drop l) [.slice (if m=l then a else a.map (·.add (l*sz))) (hh-l) (m-l)]:=by
  subst hsz
  cases r with
  | sl _ _ _ _ cs hcap hel hat =>
    have hlen:((s.take hh).drop l).length=hh-l:=by simp;omega
    have key:=RD.sl (w:=w) (I:=I) t ((s.take hh).drop l) (if m=l then a else a.map (·.add (l*t.sz))) (m-l) (fun i=>cs (l+i)) (by rw [hlen];omega)
      (fun i hi=>by
        have hi':l+i<s.length:=by rw [hlen] at hi;omega
        have:=hel (l+i) hi'
        simpa [List.getElem_drop,List.getElem_take] using this)
      (fun h0=>by
        rw [hlen] at h0
        obtain⟨q,o,rfl,hr⟩:=hat (by omega)
        have hml: ¬m=l:=by omega
        refine⟨q,o+l*t.sz, ?_,fun i hi j u hu=> ?_⟩
        · simp [hml,Addr.add_lit]
        · rw [hlen] at hi
          have:=hr (l+i) (by omega) j u hu
          rw [show o+l*t.sz+(i*t.sz+j)=o+((l+i)*t.sz+j) by rw [Nat.add_mul];omega]
          exact this)
    rwa [hlen] at key
theorem qjo{P:Program}{t e:TypeId}{ie:TypeInfo}(hu:P.underlying t=some (.slice e))(hi:P.info? e=some ie)(a:Option Addr)(n cap:Nat)(lo hi' mx:Option Value)(l hh m:Nat)
    (hb:(Instr.sliceBounds true n cap lo hi' mx).run P w= .ok (l,hh,m) w):
    (Instr.sliceAt t (.slice a n cap) lo hi' mx).run P w= .ok (.slice (if m=l then a else a.map (·.add (l*ie.size))) (hh-l) (m-l)) w:=by
  have h1:(Instr.sliceAt t (.slice a n cap) lo hi' mx).run P w=(Instr.slice t (.slice a n cap) lo hi' mx).run P w:=by
    simp [Instr.sliceAt,run_underlying hu]
  rw [h1]
  simp [Instr.slice,run_underlying hu,hb,sizeOf,typeInfo,hi]
theorem q5b{P:Program}{t:TypeId}(hu:P.underlying t=some .string)(s:ByteArray)(lo hi':Option Value)(l hh m:Nat)
    (hb:(Instr.sliceBounds false s.size s.size lo hi' none).run P w= .ok (l,hh,m) w):
    (Instr.sliceAt t (.string s) lo hi' none).run P w= .ok (.string (s.extract l hh)) w:=by
  have h1:(Instr.sliceAt t (.string s) lo hi' none).run P w=(Instr.slice t (.string s) lo hi' none).run P w:=by
    simp [Instr.sliceAt,run_underlying hu]
  rw [h1]
  simp [Instr.slice,run_underlying hu,hb]
def q0e(lo:Option AV):Option Int:=match lo with|none=>some 0|some (.int _ n)=>some n|_=>none
def qtb(hi:Option AV)(n:Nat):Option Int:=match hi with|none=>some (n:Int)|some (.int _ n)=>some n|_=>none
def uw(w:World)(I:Nat→Nat→Prop)(h:qa)(μ:Nat→Option Nat):Option Value→Option AV→Prop
  |none,none=>True
  |some v,some a=>Rep w I h μ v a
  |_,_=>False
theorem zo{P:Program}{v:Value}{k:IntKind}{n:Int}(r:Rep w I h μ v (.int k n))(y:Nat)(c:BoundsCode)(h0:0≤n)(h1:n≤(y:Int)):(Instr.sliceBound v y c).run P w= .ok n.toNat w:=by
  rw [jg r]
  exact run_sliceBound w k n y c h0 h1
theorem qqp{P:Program}{isS:Bool}{n cap:Nat}{lo hi:Option Value}{alo ahi:Option AV}{l hh:Int}(rl:uw w I h μ lo alo)(rh:uw w I h μ hi ahi)
    (el:q0e alo=some l) (eh:qtb ahi n=some hh) (h0:0≤l) (h1:l≤hh) (h2:hh≤(n:Int)) (h3:n≤cap):
    (Instr.sliceBounds isS n cap lo hi none).run P w= .ok (l.toNat,hh.toNat,cap) w:=by
  unfold Instr.sliceBounds
  have hhh:((hh.toNat:Nat):Int)=hh:=Int.toNat_of_nonneg (by omega)
  match lo,alo,rl,hi,ahi,rh with
  | none, none, _, none, none, _ =>
    cases el;cases eh
    simp
  | some v, some a, rl, none, none, _ =>
    cases eh
    cases a <;>simp only [q0e,Option.some.injEq] at el <;>try cases el
    have:=zo (P:=P) rl n .sliceB h0 (by omega)
    simp [this]
  | none, none, _, some v, some a, rh =>
    cases el
    cases a <;>simp only [qtb,Option.some.injEq] at eh <;>try cases eh
    have:=zo (P:=P) rh cap (if isS then .sliceAcap else .sliceAlen) (by omega) (by omega)
    cases isS <;>simp at this <;>simp [this]
  | some v, some a, rl, some v2, some a2, rh =>
    cases a <;>simp only [q0e,Option.some.injEq] at el <;>try cases el
    cases a2 <;>simp only [qtb,Option.some.injEq] at eh <;>try cases eh
    have e1:=zo (P:=P) rh cap (if isS then .sliceAcap else .sliceAlen) (by omega) (by omega)
    have e2:=zo (P:=P) rl hh.toNat .sliceB h0 (by omega)
    cases isS <;>simp at e1 <;>simp [e1,e2]
theorem qxm{P:Program}{n cap:Nat}{lo:Option Value}{hi mx:Value}{alo:Option AV}{ahi:AV}{km:IntKind}{l hh m:Int}(rl:uw w I h μ lo alo)(rh:Rep w I h μ hi ahi)(rm:Rep w I h μ mx (.int km m))
    (el:q0e alo=some l) (eh:qtb (some ahi) n=some hh) (h0:0≤l) (h1:l≤hh) (h2:hh≤m) (h3:m≤(n:Int)) (h4:n≤cap):
    (Instr.sliceBounds true n cap lo (some hi) (some mx)).run P w= .ok (l.toNat,hh.toNat,m.toNat) w:=by
  unfold Instr.sliceBounds
  have e0:=zo (P:=P) rm cap .slice3Acap (by omega) (by omega)
  cases ahi <;>simp only [qtb,Option.some.injEq] at eh <;>try cases eh
  have e1:=zo (P:=P) rh m.toNat .slice3B (by omega) (by omega)
  match lo,alo,rl with
  | none, none, _ =>
    cases el
    simp [e0,e1]
  | some v, some a, rl =>
    cases a <;>simp only [q0e,Option.some.injEq] at el <;>try cases el
    have e2:=zo (P:=P) rl hh.toNat .slice3C h0 (by omega)
    simp [e0,e1,e2]
theorem qs7(s:Str)(l hh:Nat):(⟨s.toArray⟩:ByteArray).extract l hh=⟨((s.take hh).drop l).toArray⟩:=by
  rw [qwx ((⟨s.toArray⟩:ByteArray).extract l hh)]
  congr 2
  rw [Lib.extract_data]
  simp [List.drop_take]
theorem q9s (hE : EnvOK E) (R : RelH w I μ h) (G : GOK g h) {t : TypeId} {v : Value} {x : AV} {lo hi mx : Option Value} {alo ahi amx : Option AV} (rx : Rep w I h μ v x) (rl : uw w I h μ lo alo) (rh : uw w I h μ hi ahi) (rm : uw w I h μ mx amx)
    (hmh:amx.isSome=true→ahi.isSome=true) (hf:qaj (E.ti t).ud E g x alo ahi amx=some fr) (hc: ∀c∈fr.cs,c.p):
    ∃v' I',(Instr.sliceAt t v lo hi mx).run E.P w= .ok v' w∧Rep w I' (qg h fr.ws) μ v' fr.v∧RelH w I' μ (qg h fr.ws)∧Fr w (Wr h μ) I w (Wr (qg h fr.ws) μ) I'∧HM h μ (qg h fr.ws) μ:=by
  have quiet: ∀{v':Value},(Instr.sliceAt t v lo hi mx).run E.P w= .ok v' w→fr.ws=[]→Rep w I h μ v' fr.v→
      ∃v' I',(Instr.sliceAt t v lo hi mx).run E.P w= .ok v' w∧Rep w I' (qg h fr.ws) μ v' fr.v∧RelH w I' μ (qg h fr.ws)∧Fr w (Wr h μ) I w (Wr (qg h fr.ws) μ) I'∧HM h μ (qg h fr.ws) μ:=by
    intro v' h1 h2 h3
    refine⟨v',I,h1, ?_, ?_, ?_, ?_⟩ <;>rw [h2] <;>simp only [qg]
    · exact h3
    · exact R
    · exact Fr.refl _ _ _
    · exact HM.refl _ _
  unfold qaj at hf
  split at hf
  · cases hf
  · rename_i l hl
    have el:q0e alo=some l:=hl
    split at hf
    · rename_i s hud
      split at hf
      · rename_i hh hhe
        cases hf
        have eh:qtb ahi s.length=some hh:=hhe
        have h0:0≤l:=hc ⟨_,inferInstance⟩ (by simp)
        have h1:l≤hh:=hc ⟨_,inferInstance⟩ (by simp)
        have h2:hh≤(s.length:Int):=hc ⟨_,inferInstance⟩ (by simp)
        have hu:=hE.und t (j7 (by rw [hud];rfl))
        rw [hud] at hu
        obtain rfl:mx=none:=by cases mx with|none=>rfl|some _=>exact rm.elim
        have hb:=qqp (P:=E.P) (isS:=false) (n:=s.length) (cap:=s.length) rl rh el eh h0 h1 h2 (Nat.le_refl _)
        rw [ji rx] at*
        refine quiet (q5b hu _ lo hi l.toNat hh.toNat s.length (by rw [qfp];exact hb)) rfl ?_
        rw [qs7]
        exact .str _
      · cases hf
    · rename_i e u s full hud
      obtain⟨hck,hf⟩:=ql hf
      have hck:(E.ti e).size=u.sz∧(E.ti e).size≤1000000:=by simpa using hck
      obtain⟨ie,hie,hsz,_⟩:=hE.info e (j0 hck.2)
      have hu:=hE.und t (j7 (by rw [hud];rfl))
      rw [hud] at hu
      obtain⟨a,cap,hq,hr,hcap,hful⟩: ∃a cap,v= .slice a s.length cap∧RD w I (.sl u) s [.slice a s.length cap]∧s.length≤cap∧(full=true→cap=s.length):=by
        cases rx with
        | sl _ _ _ a n cap hr hfl =>
          have hr2:=hr
          cases hr2 with
          |sl _ _ _ _ cs hcap hel hat=>exact⟨a,cap,rfl,hr,hcap,hfl⟩
      split at hf
      · cases hf
      · rename_i hh hhe
        have eh:qtb ahi s.length=some hh:=hhe
        split at hf
        · cases hf
          have h0:0≤l:=hc ⟨_,inferInstance⟩ (by simp)
          have h1:l≤hh:=hc ⟨_,inferInstance⟩ (by simp)
          have h2:hh≤(s.length:Int):=hc ⟨_,inferInstance⟩ (by simp)
          obtain rfl:mx=none:=by cases mx with|none=>rfl|some _=>exact rm.elim
          have hb:=qqp (P:=E.P) (isS:=true) (n:=s.length) (cap:=cap) rl rh el eh h0 h1 h2 hcap
          subst hq
          refine quiet (qjo hu hie a s.length cap lo hi none l.toNat hh.toNat cap hb) rfl ?_
          refine .sl u _ _ _ _ _ (hr.cut l.toNat hh.toNat cap (by omega) (by omega) (by omega) ie.size (hsz.trans hck.1)) ?_
          intro hfl
          simp only [Bool.and_eq_true,decide_eq_true_eq] at hfl
          have:=hful hfl.1
          omega
        · rename_i km m _
          cases hf
          have h0:0≤l:=hc ⟨_,inferInstance⟩ (by simp)
          have h1:l≤hh:=hc ⟨_,inferInstance⟩ (by simp)
          have h2:hh≤m:=hc ⟨_,inferInstance⟩ (by simp)
          have h3:m≤(s.length:Int):=hc ⟨_,inferInstance⟩ (by simp)
          obtain⟨vm,rfl,rm⟩: ∃vm,mx=some vm∧Rep w I h μ vm (.int km m):=by cases mx with|none=>exact rm.elim|some vm=>exact⟨vm,rfl,rm⟩
          obtain⟨ah,rfl⟩: ∃ah,ahi=some ah:=Option.isSome_iff_exists.1 (hmh rfl)
          obtain⟨vh,rfl,rh⟩: ∃vh,hi=some vh∧Rep w I h μ vh ah:=by cases hi with|none=>exact rh.elim|some vh=>exact⟨vh,rfl,rh⟩
          have hb:=qxm (P:=E.P) rl rh rm el eh h0 h1 h2 h3 hcap
          subst hq
          refine quiet (qjo hu hie a s.length cap lo _ _ l.toNat hh.toNat m.toNat hb) rfl ?_
          refine .sl u _ _ _ _ _ (hr.cut l.toNat hh.toNat m.toNat (by omega) (by omega) (by omega) ie.size (hsz.trans hck.1)) ?_
          intro hfl
          simp only [decide_eq_true_eq] at hfl
          omega
        · cases hf
    · rename_i e u b full hud
      obtain⟨hck,hf⟩:=ql hf
      have hck:(E.ti e).size=u.sz∧(E.ti e).size≤1000000:=by simpa using hck
      obtain⟨ie,hie,hsz,_⟩:=hE.info e (j0 hck.2)
      have hu:=hE.und t (j7 (by rw [hud];rfl))
      rw [hud] at hu
      split at hf
      · rename_i u' s fr' hb
        obtain⟨a,cap,rfl,he,hcap,hful,hat,hb'⟩:=yn G rx hb
        rw [dif_pos he] at hf
        subst he
        obtain⟨I',R',F',M',him⟩:=R.freeze hb'
        -- read as data, once it is frozen
        have hr : RD w I' (.sl u') s [.slice a s.length cap] := by
          rcases R'.blk b _ (by rw [qi _ h b b (by have:=(List.getElem?_eq_some_iff.1 hb').1;omega),if_pos rfl]) with hnil|⟨q,us,e',q1,q2,q3,q4,q5⟩
          · subst hnil
            exact .sl u' [] a cap (fun _=>[]) (Nat.zero_le _) (fun i hi=>by simp at hi) (fun h0=>by simp at h0)
          · rcases hat with ⟨h5, h6⟩ | ⟨q', us', e2, h6, rfl, h8, h9⟩
            · have : s = [] := List.eq_nil_of_length_eq_zero h5
              subst this
              exact .sl u' [] a cap (fun _=>[]) (Nat.zero_le _) (fun i hi=>by simp at hi) (fun h0=>by simp at h0)
            · rw [q1] at h6; injection h6 with h6; subst h6
              refine .sl u' s (some ⟨q,0,none⟩) cap (fun k=>(us.toList.drop (k*u'.sz)).take u'.sz) hcap q4 (fun h0=>⟨q,0,rfl,fun i hi j v hv=> ?_⟩)
              rw [List.getElem?_take] at hv
              split at hv
              · rename_i hj
                rw [List.getElem?_drop] at hv
                refine⟨?_, ?_⟩
                · rw [cell_of_row w q _ us e' _ q2.choose_spec.1]
                  simpa using hv
                · refine him q q1 (by rintro rfl; simp at h0) _ ?_
                  have:=Nat.mul_le_mul_right u'.sz (Nat.succ_le_of_lt hi)
                  rw [Nat.succ_mul] at this
                  omega
              · cases hv
        have fin: ∀{v':Value} {x':AV},(Instr.sliceAt t (.slice a s.length cap) lo hi mx).run E.P w= .ok v' w→fr.ws=[(b,.arr u' s false)]→fr.v=x'→Rep w I' (qe h b (.arr u' s false)) μ v' x'→
            ∃v' I',(Instr.sliceAt t (.slice a s.length cap) lo hi mx).run E.P w= .ok v' w∧Rep w I' (qg h fr.ws) μ v' fr.v∧RelH w I' μ (qg h fr.ws)∧Fr w (Wr h μ) I w (Wr (qg h fr.ws) μ) I'∧HM h μ (qg h fr.ws) μ:=by
          intro v' x' h1 h2 h3 h4
          subst h3
          refine⟨v',I',h1, ?_, ?_, ?_, ?_⟩ <;>rw [h2] <;>simp only [qg]
          · exact h4
          · exact R'
          · exact F'
          · exact M'
        split at hf
        · cases hf
        · rename_i hh hhe
          have eh:qtb ahi s.length=some hh:=hhe
          split at hf
          · cases hf
            have h0:0≤l:=hc ⟨_,inferInstance⟩ (by simp)
            have h1:l≤hh:=hc ⟨_,inferInstance⟩ (by simp)
            have h2:hh≤(s.length:Int):=hc ⟨_,inferInstance⟩ (by simp)
            obtain rfl:mx=none:=by cases mx with|none=>rfl|some _=>exact rm.elim
            have hb:=qqp (P:=E.P) (isS:=true) (n:=s.length) (cap:=cap) rl rh el eh h0 h1 h2 hcap
            refine fin (qjo hu hie a s.length cap lo hi none l.toNat hh.toNat cap hb) rfl rfl ?_
            refine .sl u' _ _ _ _ _ (hr.cut l.toNat hh.toNat cap (by omega) (by omega) (by omega) ie.size (hsz.trans hck.1)) ?_
            intro hfl
            simp only [Bool.and_eq_true,decide_eq_true_eq] at hfl
            have:=hful hfl.1
            omega
          · rename_i km m _
            cases hf
            have h0:0≤l:=hc ⟨_,inferInstance⟩ (by simp)
            have h1:l≤hh:=hc ⟨_,inferInstance⟩ (by simp)
            have h2:hh≤m:=hc ⟨_,inferInstance⟩ (by simp)
            have h3:m≤(s.length:Int):=hc ⟨_,inferInstance⟩ (by simp)
            obtain⟨vm,rfl,rm⟩: ∃vm,mx=some vm∧Rep w I h μ vm (.int km m):=by cases mx with|none=>exact rm.elim|some vm=>exact⟨vm,rfl,rm⟩
            obtain⟨ah,rfl⟩: ∃ah,ahi=some ah:=Option.isSome_iff_exists.1 (hmh rfl)
            obtain⟨vh,rfl,rh⟩: ∃vh,hi=some vh∧Rep w I h μ vh ah:=by cases hi with|none=>exact rh.elim|some vh=>exact⟨vh,rfl,rh⟩
            have hb:=qxm (P:=E.P) rl rh rm el eh h0 h1 h2 h3 hcap
            refine fin (qjo hu hie a s.length cap lo _ _ l.toNat hh.toNat m.toNat hb) rfl rfl ?_
            refine .sl u' _ _ _ _ _ (hr.cut l.toNat hh.toNat m.toNat (by omega) (by omega) (by omega) ie.size (hsz.trans hck.1)) ?_
            intro hfl
            simp only [decide_eq_true_eq] at hfl
            omega
          · cases hf
      · cases hf
    · cases hf
end
end Go.AM
