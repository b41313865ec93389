import Derived.Test.YtjmmcdbogbpedaaGreatDoorBMLib
import Derived.Test.YtjmmcdbogbpedaaGreatDoorPrn
import Derived.Test.YtjmmcdbogbpedaaGreatDoorS7P
import Derived.Test.YtjmmcdbogbpedaaGreatDoorRGPartP
import Derived.Test.YtjmmcdbogbpedaaGreatDoorTRepo
noncomputable section
namespace Go.Plain
open Go.AM
set_option linter.unusedVariables false
abbrev z2v:Y2p→Option (Y2p):=qtt
abbrev z2u:(Int×(Y2p×Y2p))→Option ((Y2p×Y2p)):=yb
def qif(self:Fu (Y18×Y3j) Y3j):Fu (Y18×Y3j) Y3j:=fun((x30,x28,x29),c,c1,c2,c3)=>
 if(decide (x30<x29)) then(if((0:Int)≤x30) then
 if(x30<(x28.length:Int)) then
 if(qi (c3.length+[(elt y02 x28 x30.toNat)].length) 24) then
 self (((w64 (x30+(1:Int))),(x28,x29)),(c,(c1,(c2,(c3++[(elt y02 x28 x30.toNat)]))))) else none else none else none) else
 some (c,(c1,(c2,c3)))
def qqj:Fu (Y18×Y3j) Y3j:=qt qif
theorem qux q:qqj q=qif qqj q:=qw q
def qdr(self:Fu (Y1n×Y3k) Y3k):Fu (Y1n×Y3k) Y3k:=fun((x53,x51,x52),c,c1,c2,c3,c4)=>
 if(decide (x53<x52)) then(if((0:Int)≤x53) then
 if(x53<(x51.length:Int)) then
 if((0:Int)≤(min ((elt y00 x51 x53.toNat).2.length:Int) (1200:Int))) then
 if((min ((elt y00 x51 x53.toNat).2.length:Int) (1200:Int))≤((elt y00 x51 x53.toNat).2.length:Int)) then
 if(qi (c3.length+[((elt y00 x51 x53.toNat).1,(List.take (min ((elt y00 x51 x53.toNat).2.length:Int) (1200:Int)).toNat (elt y00 x51 x53.toNat).2))].length) 32) then
 self (((w64 (x53+(1:Int))),(x51,x52)),(c,(c1,(c2,((c3++[((elt y00 x51 x53.toNat).1,(List.take (min ((elt y00 x51 x53.toNat).2.length:Int) (1200:Int)).toNat (elt y00 x51 x53.toNat).2))]),c4))))) else none else none else none else none else none) else
 some (c,(c1,(c2,(c3,c4))))
def qid:Fu (Y1n×Y3k) Y3k:=qt qdr
theorem qqh q:qid q=qdr qid q:=qw q
def qds(self:Fu Y3n Y3m):Fu Y3n Y3m:=fun((x83,x81,x82),c,c1,c2,c3,c4)=>
 if(decide (x83<x82)) then(if((0:Int)≤x83) then
 if(x83<(x81.length:Int)) then
 if((0:Int)≤(min ((elt y0l x81 x83.toNat).2.1.length:Int) (12:Int))) then
 if((min ((elt y0l x81 x83.toNat).2.1.length:Int) (12:Int))≤((elt y0l x81 x83.toNat).2.1.length:Int)) then
 if((0:Int)≤(min ((elt y0l x81 x83.toNat).2.2.1.length:Int) (8:Int))) then
 if((min ((elt y0l x81 x83.toNat).2.2.1.length:Int) (8:Int))≤((elt y0l x81 x83.toNat).2.2.1.length:Int)) then
 if((0:Int)≤(min ((elt y0l x81 x83.toNat).2.2.2.length:Int) (66:Int))) then
 if((min ((elt y0l x81 x83.toNat).2.2.2.length:Int) (66:Int))≤((elt y0l x81 x83.toNat).2.2.2.length:Int)) then
 if(qi (c4.length+[((elt y0l x81 x83.toNat).1,((List.take (min ((elt y0l x81 x83.toNat).2.1.length:Int) (12:Int)).toNat (elt y0l x81 x83.toNat).2.1),((List.take (min ((elt y0l x81 x83.toNat).2.2.1.length:Int) (8:Int)).toNat (elt y0l x81 x83.toNat).2.2.1),(List.take (min ((elt y0l x81 x83.toNat).2.2.2.length:Int) (66:Int)).toNat (elt y0l x81 x83.toNat).2.2.2))))].length) 88) then
 self (((w64 (x83+(1:Int))),(x81,x82)),(c,(c1,(c2,(c3,(c4++[((elt y0l x81 x83.toNat).1,((List.take (min ((elt y0l x81 x83.toNat).2.1.length:Int) (12:Int)).toNat (elt y0l x81 x83.toNat).2.1),((List.take (min ((elt y0l x81 x83.toNat).2.2.1.length:Int) (8:Int)).toNat (elt y0l x81 x83.toNat).2.2.1),(List.take (min ((elt y0l x81 x83.toNat).2.2.2.length:Int) (66:Int)).toNat (elt y0l x81 x83.toNat).2.2.2))))])))))) else none else none else none else none else none else none else none else none else none) else
 some (c1,(c,(c2,(c3,c4))))
def qie:Fu Y3n Y3m:=qt qds
theorem qqi q:qie q=qds qie q:=qw q
def z0a:Fu Y32 Y32:=fun g=>
 if((0:Int)≤(min (g.1.2.2.1.length:Int) (3:Int))) then
 if((min (g.1.2.2.1.length:Int) (3:Int))≤(g.1.2.2.1.length:Int)) then
 qqj (((0:Int),((List.take (min (g.1.2.2.1.length:Int) (3:Int)).toNat g.1.2.2.1),((List.take (min (g.1.2.2.1.length:Int) (3:Int)).toNat g.1.2.2.1).length:Int))),((g.1.2.1,g.1.2.2.2),(((0:Int),(0:Int)),(g,[]))))>>=fun r=>
 if((0:Int)≤(min (r.2.2.1.1.1.length:Int) (20:Int))) then
 if((min (r.2.2.1.1.1.length:Int) (20:Int))≤(r.2.2.1.1.1.length:Int)) then
 qid (((0:Int),((List.take (min (r.2.2.1.1.1.length:Int) (20:Int)).toNat r.2.2.1.1.1),((List.take (min (r.2.2.1.1.1.length:Int) (20:Int)).toNat r.2.2.1.1.1).length:Int))),(r.1,(r.2.1,(r.2.2.1,([],r.2.2.2)))))>>=fun r1=>
 if((0:Int)≤(min (r1.2.2.1.2.length:Int) (18:Int))) then
 if((min (r1.2.2.1.2.length:Int) (18:Int))≤(r1.2.2.1.2.length:Int)) then
 qie (((0:Int),((List.take (min (r1.2.2.1.2.length:Int) (18:Int)).toNat r1.2.2.1.2),((List.take (min (r1.2.2.1.2.length:Int) (18:Int)).toNat r1.2.2.1.2).length:Int))),(r1.1,(r1.2.1,(r1.2.2.2.1,(r1.2.2.2.2,[])))))>>=fun r2=>
 some ((r2.2.2.1,(r2.2.1.1,(r2.2.2.2.1,r2.2.1.2))),r2.2.2.2.2) else none else none else none else none else none else none
def qjq(self:Fu Y1p Y06):Fu Y1p Y06:=fun(x7,l,x5,x6)=>
 if(decide (x7<x6)) then(if((0:Int)≤x7) then
 if(x7<(x5.length:Int)) then
 if((0:Int)≤x7) then
 if(x7≤(l.length:Int)) then
 z0x ((List.take x7.toNat l),(elt .str x5 x7.toNat))>>=fun s=>
 if s then some (.inl false) else
 self ((w64 (x7+(1:Int))),(l,(x5,x6))) else none else none else none else none) else
 some (.inr ())
def qrw:Fu Y1p Y06:=qt qjq
theorem qvz q:qrw q=qjq qrw q:=qw q
def z1r:Fu Y01 (Bool):=fun l=>
 qrw ((0:Int),(l,(l,(l.length:Int))))>>=fun r=>
 Sum.elim (fun r1=>some r1) (fun r1=>some true) r
def qib(self:Fu Y2t (Y2w⊕(Y0g×Y28))):Fu Y2t (Y2w⊕(Y0g×Y28)):=fun((x59,l,x57,x58),c)=>
 if(decide (x59<x58)) then(if((0:Int)≤x59) then
 if(x59<(x57.length:Int)) then
 z1a (l,(elt .str x57 x59.toNat))>>=fun f=>
 if(f.2 !=(0:Int)) then some (.inl (false,c)) else
 self (((w64 (x59+(1:Int))),(l,(x57,x58))),c) else none else none) else
 some (.inr (l,c))
def qqe:Fu Y2t (Y2w⊕(Y0g×Y28)):=qt qib
theorem quv q:qqe q=qib qqe q:=qw q
def z3y:Fu Y31 Y2w:=fun(d,c)=>
 z0x (c.2.1,d)>>=fun s=>
 some ((!s),c)
def qjz(self:Fu Y2s Y2v):Fu Y2s Y2v:=fun((x8,s,x7),c)=>
 if(decide (x8<x7)) then(if((0:Int)≤x8) then
 if(x8<(s.length:Int)) then
 z3y ((elt .str s x8.toNat),c)>>=fun z=>
 if z.1 then some (.inl (x8,z.2)) else
 self (((w64 (x8+(1:Int))),(s,x7)),z.2) else none else none) else
 some (.inr c)
def qr3:Fu Y2s Y2v:=qt qjz
theorem qv8 q:qr3 q=qjz qr3 q:=qw q
def z22:Fu (Y01×Y28) (Int×Y28):=fun(s,c)=>
 qr3 (((0:Int),(s,(s.length:Int))),c)>>=fun r=>
 Sum.elim (fun r1=>some r1) (fun r1=>some ((-1:Int),r1)) r
def z3l:Fu (Y01×Y28) Y2w:=fun(s,c)=>
 z22 (s,c)>>=fun m=>
 some ((decide (m.1≥(0:Int))),m.2)
def z3z:Fu Y31 Y2w:=fun(d,c)=>
 z0x (c.2.2.1,d)>>=fun s=>
 some ((!s),c)
def qj0(self:Fu Y2s Y2v):Fu Y2s Y2v:=fun((x8,s,x7),c)=>
 if(decide (x8<x7)) then(if((0:Int)≤x8) then
 if(x8<(s.length:Int)) then
 z3z ((elt .str s x8.toNat),c)>>=fun z=>
 if z.1 then some (.inl (x8,z.2)) else
 self (((w64 (x8+(1:Int))),(s,x7)),z.2) else none else none) else
 some (.inr c)
def qr4:Fu Y2s Y2v:=qt qj0
theorem qv9 q:qr4 q=qj0 qr4 q:=qw q
def z23:Fu (Y01×Y28) (Int×Y28):=fun(s,c)=>
 qr4 (((0:Int),(s,(s.length:Int))),c)>>=fun r=>
 Sum.elim (fun r1=>some r1) (fun r1=>some ((-1:Int),r1)) r
def z3m:Fu (Y01×Y28) Y2w:=fun(s,c)=>
 z23 (s,c)>>=fun s1=>
 some ((decide (s1.1≥(0:Int))),s1.2)
def z33:Fu (Y1w×Y28) Y2w:=fun(m,c)=>
 z14 m>>=fun b=>
 z3l (b,c)>>=fun m1=>
 if m1.1 then some (true,m1.2) else
 z3m (m.2.2.2,m1.2)>>=fun s=>
 some s
def qdn(self:Fu Y2t Y2u):Fu Y2t Y2u:=fun((x78,l,x76,x77),c)=>
 if(decide (x78<x77)) then(if((0:Int)≤x78) then
 if(x78<(x76.length:Int)) then
 z1a (l,(elt .str x76 x78.toNat))>>=fun f=>
 z2d f.1>>=fun p=>
 z38 (l,(elt .str x76 x78.toNat))>>=fun o=>
 if(o.2 !=(0:Int)) then some (.inl (false,c)) else
 if(p.2 !=(0:Int)) then some (.inl (false,c)) else
 z33 (p.1,c)>>=fun l1=>
 if l1.1 then some (.inl (false,l1.2)) else
 self (((w64 (x78+(1:Int))),(l,(x76,x77))),l1.2) else none else none) else
 some (.inr c)
def qex:Fu Y2t Y2u:=qt qdn
theorem qqc q:qex q=qdn qex q:=qw q
def qjj(self:Fu Y0v Y08):Fu Y0v Y08:=fun(x7,s,x6)=>
 if(decide (x7<x6)) then(if((0:Int)≤x7) then
 if(x7<(s.length:Int)) then
 z39 (bt s x7)>>=fun s1=>
 if s1 then(self ((w64 (x7+(1:Int))),(s,x6))) else
 if(decide ((bt s x7)≥(65:Int))) then(if(decide ((bt s x7)≤(90:Int))) then(self ((w64 (x7+(1:Int))),(s,x6))) else
 if((bt s x7)==(95:Int)) then(self ((w64 (x7+(1:Int))),(s,x6))) else
 if(decide (x7>(0:Int))) then(if((bt s x7)==(46:Int)) then(self ((w64 (x7+(1:Int))),(s,x6))) else
 if((bt s x7)==(45:Int)) then(self ((w64 (x7+(1:Int))),(s,x6))) else
 some (.inl false)) else
 some (.inl false)) else
 if((bt s x7)==(95:Int)) then(self ((w64 (x7+(1:Int))),(s,x6))) else
 if(decide (x7>(0:Int))) then(if((bt s x7)==(46:Int)) then(self ((w64 (x7+(1:Int))),(s,x6))) else
 if((bt s x7)==(45:Int)) then(self ((w64 (x7+(1:Int))),(s,x6))) else
 some (.inl false)) else
 some (.inl false) else none else none) else
 some (.inr s)
def qrq:Fu Y0v Y08:=qt qjj
theorem qvs q:qrq q=qjj qrq q:=qw q
def z1k:Fu Str (Bool):=fun s=>
 qrq ((0:Int),(s,(s.length:Int)))>>=fun r=>
 Sum.elim (fun r1=>some r1) (fun r1=>if(r1 !=[]) then some (decide ((r1.length:Int)≤(128:Int))) else
 some false) r
def qdo(self:Fu Y2z Y2u):Fu Y2z Y2u:=fun((x117,x115,x116),c)=>
 if(decide (x117<x116)) then(if((0:Int)≤x117) then
 if(x117<(x115.length:Int)) then
 z1k (elt y00 x115 x117.toNat).1>>=fun t=>
 if(!t) then some (.inl (false,c)) else
 z0x (c.2.2.1,(elt y00 x115 x117.toNat).2)>>=fun s=>
 if(!s) then some (.inl (false,c)) else
 if(decide (x117>(0:Int))) then(if((0:Int)≤(w64 (x117-(1:Int)))) then
 if((w64 (x117-(1:Int)))<(c.2.2.2.length:Int)) then
 if(!(Op.bytesLess (elt y00 c.2.2.2 (w64 (x117-(1:Int))).toNat).1 (elt y00 x115 x117.toNat).1)) then some (.inl (false,c)) else
 self (((w64 (x117+(1:Int))),(x115,x116)),c) else none else none) else
 self (((w64 (x117+(1:Int))),(x115,x116)),c) else none else none) else
 some (.inr c)
def qey:Fu Y2z Y2u:=qt qdo
theorem qqd q:qey q=qdo qey q:=qw q
def z08:Fu (Y0g×Y28) Y2w:=fun(l,c)=>
 jo c.1>>=fun n=>
 if(!n) then some (false,c) else
 z1r c.2.1>>=fun u=>
 if(!u) then some (false,c) else
 z1r c.2.2.1>>=fun u1=>
 if(!u1) then some (false,c) else
 if(decide ((c.2.2.2.length:Int)>(64:Int))) then some (false,c) else
 qqe (((0:Int),(l,(c.2.1,(c.2.1.length:Int)))),c)>>=fun r=>
 Sum.elim (fun r1=>some r1) (fun r1=>qex (((0:Int),(r1.1,(r1.2.2.2.1,(r1.2.2.2.1.length:Int)))),r1.2)>>=fun r2=>
 Sum.elim (fun r3=>some r3) (fun r3=>qey (((0:Int),(r3.2.2.2,(r3.2.2.2.length:Int))),r3)>>=fun r4=>
 Sum.elim (fun r5=>some r5) (fun r5=>some (true,r5)) r4) r2) r
def qi7(self:Fu Y3c (Bool⊕Y32)):Fu Y3c (Bool⊕Y32):=fun((x9,x7,x8),c)=>
 if(decide (x9<x8)) then(if((0:Int)≤x9) then
 if(x9<(x7.length:Int)) then
 z08 (c.1.1,(elt y0l x7 x9.toNat))>>=fun m=>
 if(!m.1) then some (.inl false) else
 if(decide (x9>(0:Int))) then(if((0:Int)≤(w64 (x9-(1:Int)))) then
 if((w64 (x9-(1:Int)))<(c.2.length:Int)) then
 if(!(Op.bytesLess (elt y0l c.2 (w64 (x9-(1:Int))).toNat).1 (elt y0l x7 x9.toNat).1)) then some (.inl false) else
 self (((w64 (x9+(1:Int))),(x7,x8)),c) else none else none) else
 self (((w64 (x9+(1:Int))),(x7,x8)),c) else none else none) else
 some (.inr c)
def qre:Fu Y3c (Bool⊕Y32):=qt qi7
theorem qvg q:qre q=qi7 qre q:=qw q
def z43:Fu (Y00×Str) (Bool×Str):=fun(o,c)=>
 some ((o.1==c),c)
def qjy(self:Fu Y1i Y0d):Fu Y1i Y0d:=fun((x8,s,x7),c)=>
 if(decide (x8<x7)) then(if((0:Int)≤x8) then
 if(x8<(s.length:Int)) then
 z43 ((elt y00 s x8.toNat),c)>>=fun d=>
 if d.1 then some (.inl (x8,d.2)) else
 self (((w64 (x8+(1:Int))),(s,x7)),d.2) else none else none) else
 some (.inr c)
def qr2:Fu Y1i Y0d:=qt qjy
theorem qv7 q:qr2 q=qjy qr2 q:=qw q
def z1z:Fu Y0w Y02:=fun(s,c)=>
 qr2 (((0:Int),(s,(s.length:Int))),c)>>=fun r=>
 Sum.elim (fun r1=>some r1) (fun r1=>some ((-1:Int),r1)) r
def z3x:Fu Y0w Y02:=fun(l,c)=>
 z1z (l,c)>>=fun e=>
 some e
def z2i:Fu (Y1u×Str) (Int):=fun(b,d)=>
 z3x (b.1,d)>>=fun e=>
 some e.1
def qin(self:Fu Y2l Y2d):Fu Y2l Y2d:=fun((x10,x8,x9),c)=>
 if(decide (x10<x9)) then(if((0:Int)≤x10) then
 if(x10<(x8.length:Int)) then
 if(decide (((elt y00 x8 x10.toNat).2.length:Int)>(4096:Int))) then some (.inl false) else
 z36 (elt y00 x8 x10.toNat)>>=fun f=>
 if(f !=(0:Int)) then some (.inl false) else
 z2i (c,(elt y00 x8 x10.toNat).1)>>=fun o=>
 if(o !=x10) then some (.inl false) else
 self (((w64 (x10+(1:Int))),(x8,x9)),c) else none else none) else
 some (.inr c)
def qqs:Fu Y2l Y2d:=qt qin
theorem qu0 q:qqs q=qin qqs q:=qw q
def qdz(self:Fu (Y18×Y1u) Y2d):Fu (Y18×Y1u) Y2d:=fun((x39,x37,x38),c)=>
 if(decide (x39<x38)) then(if((0:Int)≤x39) then
 if(x39<(x37.length:Int)) then
 if(decide (((elt y02 x37 x39.toNat).2.length:Int)>(4096:Int))) then some (.inl false) else
 if(decide ((elt y02 x37 x39.toNat).1<(1:Int))) then some (.inl false) else
 if(decide ((elt y02 x37 x39.toNat).1>c.2.2.2)) then some (.inl false) else
 if(decide (x39>(0:Int))) then(if((0:Int)≤(w64 (x39-(1:Int)))) then
 if((w64 (x39-(1:Int)))<(c.2.2.1.length:Int)) then
 if(decide ((elt y02 c.2.2.1 (w64 (x39-(1:Int))).toNat).1≥(elt y02 x37 x39.toNat).1)) then some (.inl false) else
 self (((w64 (x39+(1:Int))),(x37,x38)),c) else none else none) else
 self (((w64 (x39+(1:Int))),(x37,x38)),c) else none else none) else
 some (.inr c)
def qe1:Fu (Y18×Y1u) Y2d:=qt qdz
theorem qqr q:qe1 q=qdz qe1 q:=qw q
def qjh(self:Fu Y23 (Int)):Fu Y23 (Int):=fun(x9,n,x7,x8)=>
 if(decide (x9<x8)) then(if((0:Int)≤x9) then
 if(x9<(x7.length:Int)) then
 self ((w64 (x9+(1:Int))),((w64 (n+((elt y00 x7 x9.toNat).2.length:Int))),(x7,x8))) else none else none) else
 some n
def qro:Fu Y23 (Int):=qt qjh
theorem qvq q:qro q=qjh qro q:=qw q
def z1i:Fu Y1u (Int):=fun b=>
 qro ((0:Int),((0:Int),(b.1,(b.1.length:Int))))>>=fun r=>
 some r
def z0g:Fu Y1u (Bool):=fun b=>
 qqs (((0:Int),(b.1,(b.1.length:Int))),b)>>=fun r=>
 Sum.elim (fun r1=>some r1) (fun r1=>qe1 (((0:Int),(r1.2.2.1,(r1.2.2.1.length:Int))),r1)>>=fun r2=>
 Sum.elim (fun r3=>some r3) (fun r3=>if(decide ((r3.1.length:Int)≤(64:Int))) then(if(decide ((r3.2.2.1.length:Int)≤(16:Int))) then(if(decide (r3.2.2.2≥(0:Int))) then(if(decide (r3.2.2.2≤(1099511627776:Int))) then(if(decide (r3.2.1≥(0:Int))) then(if(decide (r3.2.1≤(1048576:Int))) then(z1i r3>>=fun u=>
 some (decide (u≤r3.2.1))) else
 some false) else
 some false) else
 some false) else
 some false) else
 some false) else
 some false) r2) r
def z11:Fu Y32 (Bool):=fun g=>
 qre (((0:Int),(g.2,(g.2.length:Int))),g)>>=fun r=>
 Sum.elim (fun r1=>some r1) (fun r1=>if(decide ((r1.2.length:Int)≤(16:Int))) then(z0g r1.1>>=fun r2=>
 some r2) else
 some false) r
def qi5(self:Fu ((Str×(Int×Y2q))×Y32) Y3h):Fu ((Str×(Int×Y2q))×Y32) Y3h:=fun((s,x11,x9,x10),c)=>
 if(decide (x11<x10)) then(if((0:Int)≤x11) then
 if(x11<(x9.length:Int)) then
 if(!(Op.bytesLess (elt y0l x9 x11.toNat).1 s)) then some (.inl (x11,((elt y0l x9 x11.toNat).1==s))) else
 self ((s,((w64 (x11+(1:Int))),(x9,x10))),c) else none else none) else
 some (.inr c)
def qra:Fu ((Str×(Int×Y2q))×Y32) Y3h:=qt qi5
theorem qve q:qra q=qi5 qra q:=qw q
def z0w:Fu Y35 (Int×Bool):=fun(g,s)=>
 qra ((s,((0:Int),(g.2,(g.2.length:Int)))),g)>>=fun r=>
 Sum.elim (fun r1=>some r1) (fun r1=>some ((r1.2.length:Int),false)) r
def z34:Fu Y0g (Y0g×Bool):=fun s=>
 if((s.length:Int)≤(s.length:Int)) then
 if((s.length:Int)≤(s.length:Int)) then
 some ((List.take (s.length:Int).toNat s),(decide ((s.length:Int)=(s.length:Int)))) else none else none
def qjr(self:Fu ((Int×(Int×(Y0g×Y11)))×Y2b) (Y11×Y2b)):Fu ((Int×(Int×(Y0g×Y11)))×Y2b) (Y11×Y2b):=fun((x28,n,x26,data,d,x27),c,c1)=>
 if(decide (x28<x27)) then(if((0:Int)≤x28) then
 if(x28<(x26.length:Int)) then
 self (((w64 (x28+(1:Int))),((w64 (n+((elt y00 x26 x28.toNat).2.length:Int))),(x26,(data,(d,x27))))),(c,c1)) else none else none) else
 some ((data,(d,n)),(c,c1))
def qrx:Fu ((Int×(Int×(Y0g×Y11)))×Y2b) (Y11×Y2b):=qt qjr
theorem qv0 q:qrx q=qjr qrx q:=qw q
def z1s:Fu (Y1u×Y00) (Y1u×Int):=fun(b,d,data)=>
 z1a (b.1,d)>>=fun f=>
 if(f.2==(0:Int)) then some (b,(0:Int)) else
 qrx (((0:Int),((data.length:Int),(b.1,(data,(d,(b.1.length:Int)))))),(([],((0:Int),([],(0:Int)))),b))>>=fun r=>
 if((r.2.2.1.length:Int)==(64:Int)) then some (r.2.2,(13:Int)) else
 if(decide (r.1.2.2>r.2.2.2.1)) then some (r.2.2,(12:Int)) else
 z34 r.2.2.1>>=fun o=>
 if(o.2=true) then
 if((o.1.length=0)∨(0<[(r.1.2.1,r.1.1)].length)) then
 if(qi (o.1.length+[(r.1.2.1,r.1.1)].length) 32) then
 some (((o.1++[(r.1.2.1,r.1.1)]),r.2.2.2),(0:Int)) else none else none else none
def z42:Fu Y01 (Y01×Bool):=fun s=>
 if((s.length:Int)≤(s.length:Int)) then
 if((s.length:Int)≤(s.length:Int)) then
 some ((List.take (s.length:Int).toNat s),(decide ((s.length:Int)=(s.length:Int)))) else none else none
def z2s:Fu Y0a Y01:=fun(l,s)=>
 z0x (l,s)>>=fun s1=>
 if s1 then some l else
 z42 l>>=fun s2=>
 if(s2.2=true) then
 if((s2.1.length=0)∨(0<[s].length)) then
 if(qi (s2.1.length+[s].length) 16) then
 some (s2.1++[s]) else none else none else none
def z3h:Fu (Y28×(Str×(Y32×(Str×Y1u)))) (Int×(Y28×(Str×(Y32×(Str×Y1u))))):=fun(c,c1,c2,c3,c4)=>
 z2d c1>>=fun p=>
 if(p.2 !=(0:Int)) then some (p.2,(c,(c1,(c2,(c3,c4))))) else
 z33 (p.1,c)>>=fun l=>
 if l.1 then some ((9:Int),(l.2,(c1,(c2,(c3,c4))))) else
 z34 c2.1.1>>=fun o=>
 if(o.2=true) then
 if((o.1.length=0)∨(0<[(c3,c1)].length)) then
 if(qi (o.1.length+[(c3,c1)].length) 32) then
 z38 ((o.1++[(c3,c1)]),c3)>>=fun o1=>
 if(o1.2 !=(0:Int)) then some (o1.2,(l.2,(c1,(c2,(c3,c4))))) else
 z1s (c2.1,(c3,c1))>>=fun k=>
 if(k.2 !=(0:Int)) then some (k.2,(l.2,(c1,(c2,(c3,k.1))))) else
 z2s (l.2.2.2.1,c3)>>=fun a=>
 some ((0:Int),((l.2.1,(l.2.2.1,(a,l.2.2.2.2))),(c1,(c2,(c3,k.1))))) else none else none else none
def z3n:Fu ((Y32×Y0e)×(Str×(Y32×(Str×Y1u)))) (Y3a×(Str×(Y32×(Str×Y1u)))):=fun((g,r,names),c,c1,c2,c3)=>
 z11 g>>=fun r1=>
 if(!r1) then some (((([],((0:Int),([],(0:Int)))),[]),(1:Int)),(c,(c1,(c2,c3)))) else
 jo r>>=fun n=>
 if(!n) then some (((([],((0:Int),([],(0:Int)))),[]),(5:Int)),(c,(c1,(c2,c3)))) else
 if(!names) then some (((([],((0:Int),([],(0:Int)))),[]),(5:Int)),(c,(c1,(c2,c3)))) else
 z0w (g,r)>>=fun r2=>
 if r2.2 then(if((0:Int)≤r2.1) then
 if(r2.1<(g.2.length:Int)) then
 z3h ((elt y0l g.2 r2.1.toNat),(c,(c1,(c2,c3))))>>=fun p=>
 if(p.1 !=(0:Int)) then some (((([],((0:Int),([],(0:Int)))),[]),p.1),p.2.2) else
 z2v g.2>>=fun r3=>
 if r2.2 then(if((0:Int)≤r2.1) then
 if(r2.1<(r3.length:Int)) then
 if(r2.1.toNat<r3.length) then
 some (((g.1,(List.set r3 r2.1.toNat p.2.1)),(0:Int)),p.2.2) else none else none else none) else
 if((r3.length:Int)==(16:Int)) then some (((([],((0:Int),([],(0:Int)))),[]),(13:Int)),p.2.2) else
 z2u (r2.1,(r3,[p.2.1]))>>=fun r4=>
 some (((g.1,r4.1),(0:Int)),p.2.2) else none else none) else
 z3h ((r,([],([],[]))),(c,(c1,(c2,c3))))>>=fun p=>
 if(p.1 !=(0:Int)) then some (((([],((0:Int),([],(0:Int)))),[]),p.1),p.2.2) else
 z2v g.2>>=fun r3=>
 if r2.2 then(if((0:Int)≤r2.1) then
 if(r2.1<(r3.length:Int)) then
 if(r2.1.toNat<r3.length) then
 some (((g.1,(List.set r3 r2.1.toNat p.2.1)),(0:Int)),p.2.2) else none else none else none) else
 if((r3.length:Int)==(16:Int)) then some (((([],((0:Int),([],(0:Int)))),[]),(13:Int)),p.2.2) else
 z2u (r2.1,(r3,[p.2.1]))>>=fun r4=>
 some (((g.1,r4.1),(0:Int)),p.2.2)
def z2e:Fu Y34 (Y32×Y03):=fun(g,r,data)=>
 z30 data>>=fun o=>
 z3n ((g,(r,true)),(data,(g,(o,([],((0:Int),([],(0:Int))))))))>>=fun c=>
 if(c.1.2 !=(0:Int)) then some ((([],((0:Int),([],(0:Int)))),[]),([],c.1.2)) else
 some ((c.2.2.2.2,c.1.1.2),(c.2.2.2.1,(0:Int)))
def z3a:Fu (Y28×Y35) (Int×(Y28×Y35)):=fun(c,c1,c2)=>
 z1a (c1.1.1,c2)>>=fun f=>
 if(f.2 !=(0:Int)) then some ((9:Int),(c,(c1,c2))) else
 z2s (c.2.1,c2)>>=fun a=>
 some ((0:Int),((c.1,(a,c.2.2)),(c1,c2)))
def z3o:Fu ((Y32×Y0e)×Y35) (Y3a×Y35):=fun((g,r,names),c,c1)=>
 z11 g>>=fun r1=>
 if(!r1) then some (((([],((0:Int),([],(0:Int)))),[]),(1:Int)),(c,c1)) else
 jo r>>=fun n=>
 if(!n) then some (((([],((0:Int),([],(0:Int)))),[]),(5:Int)),(c,c1)) else
 if(!names) then some (((([],((0:Int),([],(0:Int)))),[]),(5:Int)),(c,c1)) else
 z0w (g,r)>>=fun r2=>
 if r2.2 then(if((0:Int)≤r2.1) then
 if(r2.1<(g.2.length:Int)) then
 z3a ((elt y0l g.2 r2.1.toNat),(c,c1))>>=fun l=>
 if(l.1 !=(0:Int)) then some (((([],((0:Int),([],(0:Int)))),[]),l.1),l.2.2) else
 z2v g.2>>=fun r3=>
 if r2.2 then(if((0:Int)≤r2.1) then
 if(r2.1<(r3.length:Int)) then
 if(r2.1.toNat<r3.length) then
 some (((g.1,(List.set r3 r2.1.toNat l.2.1)),(0:Int)),l.2.2) else none else none else none) else
 if((r3.length:Int)==(16:Int)) then some (((([],((0:Int),([],(0:Int)))),[]),(13:Int)),l.2.2) else
 z2u (r2.1,(r3,[l.2.1]))>>=fun r4=>
 some (((g.1,r4.1),(0:Int)),l.2.2) else none else none) else
 z3a ((r,([],([],[]))),(c,c1))>>=fun l=>
 if(l.1 !=(0:Int)) then some (((([],((0:Int),([],(0:Int)))),[]),l.1),l.2.2) else
 z2v g.2>>=fun r3=>
 if r2.2 then(if((0:Int)≤r2.1) then
 if(r2.1<(r3.length:Int)) then
 if(r2.1.toNat<r3.length) then
 some (((g.1,(List.set r3 r2.1.toNat l.2.1)),(0:Int)),l.2.2) else none else none else none) else
 if((r3.length:Int)==(16:Int)) then some (((([],((0:Int),([],(0:Int)))),[]),(13:Int)),l.2.2) else
 z2u (r2.1,(r3,[l.2.1]))>>=fun r4=>
 some (((g.1,r4.1),(0:Int)),l.2.2)
def z2b:Fu Y34 Y3a:=fun(g,r,d)=>
 z3o ((g,(r,true)),(g,d))>>=fun l=>
 some l.1
def z3r:Fu Y34 (Bool):=fun(g,r,d)=>
 z0w (g,r)>>=fun r1=>
 if r1.2 then(if((0:Int)≤r1.1) then
 if(r1.1<(g.2.length:Int)) then
 z0x ((elt y0l g.2 r1.1.toNat).2.1,d)>>=fun s=>
 if s then some true else
 if((0:Int)≤r1.1) then
 if(r1.1<(g.2.length:Int)) then
 z0x ((elt y0l g.2 r1.1.toNat).2.2.1,d)>>=fun s1=>
 some s1 else none else none else none else none) else
 some false
def z3s:Fu Unit (Bool):=fun _=>
 z30 ([99]:Str)>>=fun o=>
 z2w (false,(o,([],[])))>>=fun p=>
 z2e ((([(o,([99]:Str))],((1000:Int),([],(0:Int)))),[]),(([97]:Str),p.1))>>=fun p1=>
 z2b ((([(o,([99]:Str))],((1000:Int),([],(0:Int)))),[]),(([97]:Str),o))>>=fun l=>
 z2e (l.1,(([97]:Str),p.1))>>=fun p2=>
 if(p.2==(0:Int)) then(if(p1.2.2==(9:Int)) then(if(l.2==(0:Int)) then(if(p2.2.2==(0:Int)) then(z30 p.1>>=fun o1=>
 if(p2.2.1==o1) then(z3r (p2.1,(([97]:Str),p2.2.1))>>=fun h=>
 some h) else
 some false) else
 some false) else
 some false) else
 some false) else
 some false
def z3b:Fu Y00 (Bool):=fun(digest,data)=>
 z2l digest>>=fun p=>
 if p.2 then(z04 data>>=fun s=>
 some (s==p.1)) else
 some false
def qjo(self:Fu Y24 Y09):Fu Y24 Y09:=fun(x10,digest,x8,x9)=>
 if(decide (x10<x9)) then(if((0:Int)≤x10) then
 if(x10<(x8.length:Int)) then
 if((elt y00 x8 x10.toNat).1==digest) then some (.inl x10) else
 self ((w64 (x10+(1:Int))),(digest,(x8,x9))) else none else none) else
 some (.inr ())
def qrv:Fu Y24 Y09:=qt qjo
theorem qvx q:qrv q=qjo qrv q:=qw q
def z1p:Fu (Y1u×Str) (Int):=fun(b,digest)=>
 qrv ((0:Int),(digest,(b.1,(b.1.length:Int))))>>=fun r=>
 Sum.elim (fun r1=>some r1) (fun r1=>some (-1:Int)) r
def qim(self:Fu Y2l Y2d):Fu Y2l Y2d:=fun((x11,x9,x10),c)=>
 if(decide (x11<x10)) then(if((0:Int)≤x11) then
 if(x11<(x9.length:Int)) then
 if(decide (((elt y00 x9 x11.toNat).2.length:Int)>(4096:Int))) then some (.inl false) else
 z3b (elt y00 x9 x11.toNat)>>=fun f=>
 if(!f) then some (.inl false) else
 z1p (c,(elt y00 x9 x11.toNat).1)>>=fun a=>
 if(a !=x11) then some (.inl false) else
 self (((w64 (x11+(1:Int))),(x9,x10)),c) else none else none) else
 some (.inr c)
def qqq:Fu Y2l Y2d:=qt qim
theorem quz q:qqq q=qim qqq q:=qw q
def qdy(self:Fu Y2o Y2d):Fu Y2o Y2d:=fun((x40,last,x38,x39),c)=>
 if(decide (x40<x39)) then(if((0:Int)≤x40) then
 if(x40<(x38.length:Int)) then
 if(decide (((elt y02 x38 x40.toNat).2.length:Int)>(4096:Int))) then some (.inl false) else
 if(decide ((elt y02 x38 x40.toNat).1≤last)) then some (.inl false) else
 if(decide ((elt y02 x38 x40.toNat).1>c.2.2.2)) then some (.inl false) else
 self (((w64 (x40+(1:Int))),((elt y02 x38 x40.toNat).1,(x38,x39))),c) else none else none) else
 some (.inr c)
def qe0:Fu Y2o Y2d:=qt qdy
theorem qqp q:qe0 q=qdy qe0 q:=qw q
def q55(self:Fu Y23 (Int)):Fu Y23 (Int):=fun(x9,n,x7,x8)=>
 if(decide (x9<x8)) then(if((0:Int)≤x9) then
 if(x9<(x7.length:Int)) then
 self ((w64 (x9+(1:Int))),((w64 (n+((elt y00 x7 x9.toNat).2.length:Int))),(x7,x8))) else none else none) else
 some n
def jlh:Fu Y23 (Int):=qt q55
def z2g:Fu Y1u (Int):=fun b=>
 jlh ((0:Int),((0:Int),(b.1,(b.1.length:Int))))>>=fun r=>
 some r
def z0f:Fu Y1u (Bool):=fun b=>
 qqq (((0:Int),(b.1,(b.1.length:Int))),b)>>=fun r=>
 Sum.elim (fun r1=>some r1) (fun r1=>qe0 (((0:Int),((0:Int),(r1.2.2.1,(r1.2.2.1.length:Int)))),r1)>>=fun r2=>
 Sum.elim (fun r3=>some r3) (fun r3=>if(decide ((r3.1.length:Int)≤(64:Int))) then(if(decide ((r3.2.2.1.length:Int)≤(16:Int))) then(if(decide (r3.2.2.2≥(0:Int))) then(if(decide (r3.2.2.2≤(1099511627776:Int))) then(if(decide (r3.2.1≥(0:Int))) then(if(decide (r3.2.1≤(1048576:Int))) then(z2g r3>>=fun u=>
 some (decide (u≤r3.2.1))) else
 some false) else
 some false) else
 some false) else
 some false) else
 some false) else
 some false) r2) r
def z2t:Fu Int (Bool):=fun c=>
 if(decide (c≥(97:Int))) then(if(decide (c≤(122:Int))) then some true else
 if(decide (c≥(48:Int))) then some (decide (c≤(57:Int))) else
 some false) else
 if(decide (c≥(48:Int))) then some (decide (c≤(57:Int))) else
 some false
def qjt(self:Fu Y02 Y08):Fu Y02 Y08:=fun(i,s)=>
 if(decide (i<(s.length:Int))) then(if((0:Int)≤i) then
 if(i<(s.length:Int)) then
 if((bt s i) !=(45:Int)) then some (.inl false) else
 self ((w64 (i+(1:Int))),s) else none else none) else
 some (.inr s)
def qyx:Fu Y02 Y08:=qt qjt
theorem qv2 q:qyx q=qjt qyx q:=qw q
def z1u:Fu Str (Bool):=fun s=>
 if(s==([46]:Str)) then some true else
 if(s==([95]:Str)) then some true else
 if(s==([95,95]:Str)) then some true else
 qyx ((0:Int),s)>>=fun r=>
 Sum.elim (fun r1=>some r1) (fun r1=>some (decide ((r1.length:Int)>(0:Int)))) r
def qjg(self:Fu Y0z Y06):Fu Y0z Y06:=fun(i,s,now)=>
 if(decide (i<(s.length:Int))) then(if((0:Int)≤i) then
 if(i<(s.length:Int)) then
 z2t (bt s i)>>=fun s1=>
 if(!s1) then(if((0:Int)≤i) then
 if(i≤(w64 (i+(1:Int)))) then
 if((w64 (i+(1:Int)))≤(s.length:Int)) then
 if((now.length+(List.drop i.toNat (List.take (w64 (i+(1:Int))).toNat s)).length)≤9223372036854775807) then
 self ((w64 (i+(1:Int))),(s,(now++(List.drop i.toNat (List.take (w64 (i+(1:Int))).toNat s))))) else none else none else none else none) else
 if(now !=[]) then(z1u now>>=fun m=>
 if(!m) then some (.inl false) else
 self ((w64 (i+(1:Int))),(s,[]))) else
 self ((w64 (i+(1:Int))),(s,[])) else none else none) else
 some (.inr ())
def qrn:Fu Y0z Y06:=qt qjg
theorem qvp q:qrn q=qjg qrn q:=qw q
def z1h:Fu Str (Bool):=fun s=>
 if(s==[]) then some false else
 if((0:Int)<(s.length:Int)) then
 z2t (bt s (0:Int))>>=fun s1=>
 if(!s1) then some false else
 if((0:Int)≤(w64 ((s.length:Int)-(1:Int)))) then
 if((w64 ((s.length:Int)-(1:Int)))<(s.length:Int)) then
 z2t (bt s (w64 ((s.length:Int)-(1:Int))))>>=fun s2=>
 if(!s2) then some false else
 qrn ((0:Int),(s,[]))>>=fun r=>
 Sum.elim (fun r1=>some r1) (fun r1=>some true) r else none else none else none
def qja(self:Fu Y1o Y08):Fu Y1o Y08:=fun(x8,x6,s,x7)=>
 if(decide (x8<x7)) then(if((0:Int)≤x8) then
 if(x8<(x6.length:Int)) then
 z1h (elt .str x6 x8.toNat)>>=fun p=>
 if(!p) then some (.inl false) else
 self ((w64 (x8+(1:Int))),(x6,(s,x7))) else none else none) else
 some (.inr s)
def qrh:Fu Y1o Y08:=qt qja
theorem qvj q:qrh q=qja qrh q:=qw q
def z15:Fu Str (Bool):=fun s=>
 z1l (s,(47:Int))>>=fun s1=>
 qrh ((0:Int),(s1,(s,(s1.length:Int))))>>=fun r=>
 Sum.elim (fun r1=>some r1) (fun r1=>some (decide ((r1.length:Int)≤(128:Int)))) r
def qiu(self:Fu Y1h Y06):Fu Y1h Y06:=fun(x9,s,x7,x8)=>
 if(decide (x9<x8)) then(if((0:Int)≤x9) then
 if(x9<(x7.length:Int)) then
 if((elt .str x7 x9.toNat)==s) then some (.inl true) else
 self ((w64 (x9+(1:Int))),(s,(x7,x8))) else none else none) else
 some (.inr ())
def qqz:Fu Y1h Y06:=qt qiu
theorem qu6 q:qqz q=qiu qqz q:=qw q
def z0n:Fu Y0a (Bool):=fun(l,s)=>
 qqz ((0:Int),(s,(l,(l.length:Int))))>>=fun r=>
 Sum.elim (fun r1=>some r1) (fun r1=>some false) r
def qjs(self:Fu (Int×(Y01×Y0p)) Y06):Fu (Int×(Y01×Y0p)) Y06:=fun(x11,l,all1,x9,x10)=>
 if(decide (x11<x10)) then(if((0:Int)≤x11) then
 if(x11<(x9.length:Int)) then
 z10 (all1,(elt .str x9 x11.toNat))>>=fun f=>
 if(f.2 !=(0:Int)) then some (.inl false) else
 if((0:Int)≤x11) then
 if(x11≤(l.length:Int)) then
 z0n ((List.take x11.toNat l),(elt .str x9 x11.toNat))>>=fun h=>
 if h then some (.inl false) else
 self ((w64 (x11+(1:Int))),(l,(all1,(x9,x10)))) else none else none else none else none) else
 some (.inr ())
def qry:Fu (Int×(Y01×Y0p)) Y06:=qt qjs
theorem qv1 q:qry q=qjs qry q:=qw q
def z1t:Fu Y17 (Bool):=fun(l,all1)=>
 qry ((0:Int),(l,(all1,(l,(l.length:Int)))))>>=fun r=>
 Sum.elim (fun r1=>some r1) (fun r1=>some true) r
def qit(self:Fu Y30 (Bool⊕Y2e)):Fu Y30 (Bool⊕Y2e):=fun((x12,x10,x11),c,c1)=>
 if(decide (x12<x11)) then(if((0:Int)≤x12) then
 if(x12<(x10.length:Int)) then
 z0n (c.2.1,(elt .str x10 x12.toNat))>>=fun h=>
 if(!h) then some (.inl true) else
 self (((w64 (x12+(1:Int))),(x10,x11)),(c,c1)) else none else none) else
 some (.inr (c,c1))
def qqy:Fu Y30 (Bool⊕Y2e):=qt qit
theorem qu5 q:qqy q=qit qqy q:=qw q
def qd2(self:Fu Y2s Y06):Fu Y2s Y06:=fun((x25,x23,x24),c)=>
 if(decide (x25<x24)) then(if((0:Int)≤x25) then
 if(x25<(x23.length:Int)) then
 z0n (c.2.2.1,(elt .str x23 x25.toNat))>>=fun h=>
 if(!h) then some (.inl true) else
 self (((w64 (x25+(1:Int))),(x23,x24)),c) else none else none) else
 some (.inr ())
def qe3:Fu Y2s Y06:=qt qd2
theorem qqx q:qe3 q=qd2 qe3 q:=qw q
def z0m:Fu Y2e (Bool):=fun(r,m)=>
 z13 m>>=fun b=>
 qqy (((0:Int),(b,(b.length:Int))),(r,m))>>=fun r1=>
 Sum.elim (fun r2=>some r2) (fun r2=>qe3 (((0:Int),(r2.2.2.2.2,(r2.2.2.2.2.length:Int))),r2.1)>>=fun r3=>
 Sum.elim (fun r4=>some r4) (fun r4=>some false) r3) r1
def qiv(self:Fu Y2t (Bool⊕Y28)):Fu Y2t (Bool⊕Y28):=fun((x41,all1,x39,x40),c)=>
 if(decide (x41<x40)) then(if((0:Int)≤x41) then
 if(x41<(x39.length:Int)) then
 z10 (all1,(elt .str x39 x41.toNat))>>=fun f=>
 z0e f.1>>=fun p=>
 z0s (all1,((0:Int),((elt .str x39 x41.toNat),(1:Int))))>>=fun w=>
 if(p.2 !=(0:Int)) then some (.inl false) else
 if(w.1 !=(0:Int)) then some (.inl false) else
 z0m (c,p.1)>>=fun l=>
 if l then some (.inl false) else
 self (((w64 (x41+(1:Int))),(all1,(x39,x40))),c) else none else none) else
 some (.inr c)
def qq1:Fu Y2t (Bool⊕Y28):=qt qiv
theorem qu7 q:qq1 q=qiv qq1 q:=qw q
def qji(self:Fu Y02 Y08):Fu Y02 Y08:=fun(i,s)=>
 if(decide (i<(s.length:Int))) then(if((0:Int)≤i) then
 if(i<(s.length:Int)) then
 z2t (bt s i)>>=fun s1=>
 if(!s1) then(if(decide ((bt s i)<(65:Int))) then(if((bt s i) !=(95:Int)) then(if((bt s i) !=(46:Int)) then(if((bt s i) !=(45:Int)) then some (.inl false) else
 self ((w64 (i+(1:Int))),s)) else
 self ((w64 (i+(1:Int))),s)) else
 self ((w64 (i+(1:Int))),s)) else
 if(decide ((bt s i)>(90:Int))) then(if((bt s i) !=(95:Int)) then(if((bt s i) !=(46:Int)) then(if((bt s i) !=(45:Int)) then some (.inl false) else
 self ((w64 (i+(1:Int))),s)) else
 self ((w64 (i+(1:Int))),s)) else
 self ((w64 (i+(1:Int))),s)) else
 self ((w64 (i+(1:Int))),s)) else
 self ((w64 (i+(1:Int))),s) else none else none) else
 some (.inr s)
def qrp:Fu Y02 Y08:=qt qji
theorem qvr q:qrp q=qji qrp q:=qw q
def z1j:Fu Str (Bool):=fun s=>
 qrp ((0:Int),s)>>=fun r=>
 Sum.elim (fun r1=>some r1) (fun r1=>if(decide ((r1.length:Int)>(0:Int))) then(if(decide ((r1.length:Int)≤(128:Int))) then(if((0:Int)<(r1.length:Int)) then
 if((bt r1 (0:Int)) !=(46:Int)) then(if((0:Int)<(r1.length:Int)) then
 some ((bt r1 (0:Int)) !=(45:Int)) else none) else
 some false else none) else
 some false) else
 some false) r
def qd3(self:Fu Y2z Y06):Fu Y2z Y06:=fun((x76,x74,x75),c)=>
 if(decide (x76<x75)) then(if((0:Int)≤x76) then
 if(x76<(x74.length:Int)) then
 z1j (elt y00 x74 x76.toNat).1>>=fun t=>
 if(!t) then some (.inl false) else
 z0n (c.2.2.1,(elt y00 x74 x76.toNat).2)>>=fun h=>
 if(!h) then some (.inl false) else
 if(decide (x76>(0:Int))) then(if((0:Int)≤(w64 (x76-(1:Int)))) then
 if((w64 (x76-(1:Int)))<(c.2.2.2.length:Int)) then
 z0y ((elt y00 c.2.2.2 (w64 (x76-(1:Int))).toNat).1,(elt y00 x74 x76.toNat).1)>>=fun l=>
 if(!l) then some (.inl false) else
 self (((w64 (x76+(1:Int))),(x74,x75)),c) else none else none) else
 self (((w64 (x76+(1:Int))),(x74,x75)),c) else none else none) else
 some (.inr ())
def qe4:Fu Y2z Y06:=qt qd3
theorem qq0 q:qe4 q=qd3 qe4 q:=qw q
def z0o:Fu (Y28×Y0g) (Bool):=fun(r,all1)=>
 z15 r.1>>=fun r1=>
 if(!r1) then some false else
 z1t (r.2.1,all1)>>=fun t=>
 if(!t) then some false else
 z1t (r.2.2.1,all1)>>=fun t1=>
 if(!t1) then some false else
 if(decide ((r.2.2.2.length:Int)>(64:Int))) then some false else
 qq1 (((0:Int),(all1,(r.2.2.1,(r.2.2.1.length:Int)))),r)>>=fun r2=>
 Sum.elim (fun r3=>some r3) (fun r3=>qe4 (((0:Int),(r3.2.2.2,(r3.2.2.2.length:Int))),r3)>>=fun r4=>
 Sum.elim (fun r5=>some r5) (fun r5=>some true) r4) r2
def qjm(self:Fu Y3c Y06):Fu Y3c Y06:=fun((x18,x16,x17),c)=>
 if(decide (x18<x17)) then(if((0:Int)≤x18) then
 if(x18<(x16.length:Int)) then
 z0o ((elt y0l x16 x18.toNat),c.1.1)>>=fun m=>
 if(!m) then some (.inl false) else
 if(decide (x18>(0:Int))) then(if((0:Int)≤(w64 (x18-(1:Int)))) then
 if((w64 (x18-(1:Int)))<(c.2.length:Int)) then
 z0y ((elt y0l c.2 (w64 (x18-(1:Int))).toNat).1,(elt y0l x16 x18.toNat).1)>>=fun l=>
 if(!l) then some (.inl false) else
 self (((w64 (x18+(1:Int))),(x16,x17)),c) else none else none) else
 self (((w64 (x18+(1:Int))),(x16,x17)),c) else none else none) else
 some (.inr ())
def qrt:Fu Y3c Y06:=qt qjm
theorem qvv q:qrt q=qjm qrt q:=qw q
def z1n:Fu Y32 (Bool):=fun g=>
 z0f g.1>>=fun r=>
 if(!r) then some false else
 if(decide ((g.2.length:Int)>(16:Int))) then some false else
 qrt (((0:Int),(g.2,(g.2.length:Int))),g)>>=fun r1=>
 Sum.elim (fun r2=>some r2) (fun r2=>some true) r1
def qis(self:Fu Y2y (Bool⊕Y2b)):Fu Y2y (Bool⊕Y2b):=fun((x40,x39),c,c1)=>
 if(decide (x40<x39)) then(if((0:Int)≤x40) then
 if(x40<(c1.1.length:Int)) then
 if((0:Int)≤x40) then
 if(x40<(c.1.length:Int)) then
 if(!(((elt y00 c1.1 x40.toNat).1==(elt y00 c.1 x40.toNat).1)&&(((elt y00 c1.1 x40.toNat).2==(elt y00 c.1 x40.toNat).2)&&true))) then some (.inl false) else
 self (((w64 (x40+(1:Int))),x39),(c,c1)) else none else none else none else none) else
 some (.inr (c,c1))
def qqw:Fu Y2y (Bool⊕Y2b):=qt qis
theorem qu4 q:qqw q=qis qqw q:=qw q
def qd1(self:Fu Y2y Y06):Fu Y2y Y06:=fun((x58,x57),c,c1)=>
 if(decide (x58<x57)) then(if((0:Int)≤x58) then
 if(x58<(c1.2.2.1.length:Int)) then
 if((0:Int)≤x58) then
 if(x58<(c.2.2.1.length:Int)) then
 if(!(((elt y02 c1.2.2.1 x58.toNat).1==(elt y02 c.2.2.1 x58.toNat).1)&&(((elt y02 c1.2.2.1 x58.toNat).2==(elt y02 c.2.2.1 x58.toNat).2)&&true))) then some (.inl false) else
 self (((w64 (x58+(1:Int))),x57),(c,c1)) else none else none else none else none) else
 some (.inr ())
def qe2:Fu Y2y Y06:=qt qd1
theorem qqv q:qe2 q=qd1 qe2 q:=qw q
def z0l:Fu Y2b (Bool):=fun(a,b)=>
 if((a.1.length:Int) !=(b.1.length:Int)) then some false else
 if((a.2.2.1.length:Int) !=(b.2.2.1.length:Int)) then some false else
 if(a.2.1 !=b.2.1) then some false else
 if(a.2.2.2 !=b.2.2.2) then some false else
 qqw (((0:Int),(a.1.length:Int)),(b,a))>>=fun r=>
 Sum.elim (fun r1=>some r1) (fun r1=>qe2 (((0:Int),(r1.2.2.2.1.length:Int)),r1)>>=fun r2=>
 Sum.elim (fun r3=>some r3) (fun r3=>some true) r2) r
def qjv(self:Fu Y1p Y06):Fu Y1p Y06:=fun(x13,b,a,x12)=>
 if(decide (x13<x12)) then(if((0:Int)≤x13) then
 if(x13<(a.length:Int)) then
 if((0:Int)≤x13) then
 if(x13<(b.length:Int)) then
 if((elt .str a x13.toNat) !=(elt .str b x13.toNat)) then some (.inl false) else
 self ((w64 (x13+(1:Int))),(b,(a,x12))) else none else none else none else none) else
 some (.inr ())
def qr0:Fu Y1p Y06:=qt qjv
theorem qv4 q:qr0 q=qjv qr0 q:=qw q
def z1w:Fu Y0i (Bool):=fun(a,b)=>
 if((a.length:Int) !=(b.length:Int)) then some false else
 qr0 ((0:Int),(b,(a,(a.length:Int))))>>=fun r=>
 Sum.elim (fun r1=>some r1) (fun r1=>some true) r
def qjx(self:Fu (Int×(Y0g×Y0k)) Y06):Fu (Int×(Y0g×Y0k)) Y06:=fun(x13,b,a,x12)=>
 if(decide (x13<x12)) then(if((0:Int)≤x13) then
 if(x13<(a.length:Int)) then
 if((0:Int)≤x13) then
 if(x13<(b.length:Int)) then
 if(!(((elt y00 a x13.toNat).1==(elt y00 b x13.toNat).1)&&(((elt y00 a x13.toNat).2==(elt y00 b x13.toNat).2)&&true))) then some (.inl false) else
 self ((w64 (x13+(1:Int))),(b,(a,x12))) else none else none else none else none) else
 some (.inr ())
def qr1:Fu (Int×(Y0g×Y0k)) Y06:=qt qjx
theorem qv6 q:qr1 q=qjx qr1 q:=qw q
def z1y:Fu (Y0g×Y0g) (Bool):=fun(a,b)=>
 if((a.length:Int) !=(b.length:Int)) then some false else
 qr1 ((0:Int),(b,(a,(a.length:Int))))>>=fun r=>
 Sum.elim (fun r1=>some r1) (fun r1=>some true) r
def qjn(self:Fu Y3c Y06):Fu Y3c Y06:=fun((x26,x24,x25),c)=>
 if(decide (x26<x25)) then(if((0:Int)≤x26) then
 if(x26<(x24.length:Int)) then
 if((0:Int)≤x26) then
 if(x26<(c.2.length:Int)) then
 if((elt y0l x24 x26.toNat).1 !=(elt y0l c.2 x26.toNat).1) then some (.inl false) else
 z1w ((elt y0l x24 x26.toNat).2.1,(elt y0l c.2 x26.toNat).2.1)>>=fun s=>
 if(!s) then some (.inl false) else
 z1w ((elt y0l x24 x26.toNat).2.2.1,(elt y0l c.2 x26.toNat).2.2.1)>>=fun s1=>
 if(!s1) then some (.inl false) else
 z1y ((elt y0l x24 x26.toNat).2.2.2,(elt y0l c.2 x26.toNat).2.2.2)>>=fun s2=>
 if(!s2) then some (.inl false) else
 self (((w64 (x26+(1:Int))),(x24,x25)),c) else none else none else none else none) else
 some (.inr ())
def qru:Fu Y3c Y06:=qt qjn
theorem qvw q:qru q=qjn qru q:=qw q
def z1o:Fu (Y32×Y32) (Bool):=fun(a,b)=>
 z0l (a.1,b.1)>>=fun l=>
 if(!l) then some false else
 if((a.2.length:Int) !=(b.2.length:Int)) then some false else
 qru (((0:Int),(a.2,(a.2.length:Int))),b)>>=fun r=>
 Sum.elim (fun r1=>some r1) (fun r1=>some true) r
def z2j:Fu (Y32×(Y32×Y07)) (Bool):=fun(g,want,e,f)=>
 if(e==f) then(z1o (g,want)>>=fun l=>
 some l) else
 some false
def qjd(self:Fu ((Int×(Str×Y2q))×Y28) (Y28⊕Y31)):Fu ((Int×(Str×Y2q))×Y28) (Y28⊕Y31):=fun((x10,name,x8,x9),c)=>
 if(decide (x10<x9)) then(if((0:Int)≤x10) then
 if(x10<(x8.length:Int)) then
 if((elt y0l x8 x10.toNat).1==name) then some (.inl (elt y0l x8 x10.toNat)) else
 self (((w64 (x10+(1:Int))),(name,(x8,x9))),c) else none else none) else
 some (.inr (name,c))
def qrl:Fu ((Int×(Str×Y2q))×Y28) (Y28⊕Y31):=qt qjd
theorem qvm q:qrl q=qjd qrl q:=qw q
def z1e:Fu Y35 Y28:=fun(g,name)=>
 qrl (((0:Int),(name,(g.2,(g.2.length:Int)))),([],([],([],[]))))>>=fun r=>
 Sum.elim (fun r1=>some r1) (fun r1=>some (r1.1,([],([],[])))) r
def z3g:Fu Y0a Y01:=fun(l,s)=>
 z0n (l,s)>>=fun h=>
 if h then some l else
 if(qi (0+l.length) 16) then
 if(qi (l.length+[s].length) 16) then
 some (l++[s]) else none else none
def qju(self:Fu ((Int×(Bool×Y2q))×(Y28×(Y2p×(Y32×Y32)))) (Bool×(Y32×(Y32×(Y28×Y2p))))):Fu ((Int×(Bool×Y2q))×(Y28×(Y2p×(Y32×Y32)))) (Bool×(Y32×(Y32×(Y28×Y2p)))):=fun((x14,done,x12,x13),c,c1,c2,c3)=>
 if(decide (x14<x13)) then(if((0:Int)≤x14) then
 if(x14<(x12.length:Int)) then
 if(!done) then(z0y ((elt y0l x12 x14.toNat).1,c.1)>>=fun l=>
 if(!l) then(if(qi (c1.length+[c].length) 88) then
 if((elt y0l x12 x14.toNat).1 !=c.1) then(if(qi ((c1++[c]).length+[(elt y0l x12 x14.toNat)].length) 88) then
 self (((w64 (x14+(1:Int))),(true,(x12,x13))),(c,(((c1++[c])++[(elt y0l x12 x14.toNat)]),(c2,c3)))) else none) else
 self (((w64 (x14+(1:Int))),(true,(x12,x13))),(c,((c1++[c]),(c2,c3)))) else none) else
 if((elt y0l x12 x14.toNat).1 !=c.1) then(if(qi (c1.length+[(elt y0l x12 x14.toNat)].length) 88) then
 self (((w64 (x14+(1:Int))),(done,(x12,x13))),(c,((c1++[(elt y0l x12 x14.toNat)]),(c2,c3)))) else none) else
 self (((w64 (x14+(1:Int))),(done,(x12,x13))),(c,(c1,(c2,c3))))) else
 if((elt y0l x12 x14.toNat).1 !=c.1) then(if(qi (c1.length+[(elt y0l x12 x14.toNat)].length) 88) then
 self (((w64 (x14+(1:Int))),(done,(x12,x13))),(c,((c1++[(elt y0l x12 x14.toNat)]),(c2,c3)))) else none) else
 self (((w64 (x14+(1:Int))),(done,(x12,x13))),(c,(c1,(c2,c3)))) else none else none) else
 some (done,(c2,(c3,(c,c1))))
def qrz:Fu ((Int×(Bool×Y2q))×(Y28×(Y2p×(Y32×Y32)))) (Bool×(Y32×(Y32×(Y28×Y2p)))):=qt qju
theorem qv3 q:qrz q=qju qrz q:=qw q
def z1v:Fu (Y32×Y28) Y3a:=fun(g,r)=>
 qrz (((0:Int),(false,(g.2,(g.2.length:Int)))),(r,([],((([],((0:Int),([],(0:Int)))),[]),g))))>>=fun r1=>
 if(!r1.1) then(if(qi (r1.2.2.2.2.length+[r1.2.2.2.1].length) 88) then
 if(decide (((r1.2.2.2.2++[r1.2.2.2.1]).length:Int)>(16:Int))) then some ((([],((0:Int),([],(0:Int)))),[]),(13:Int)) else
 some ((r1.2.2.1.1,(r1.2.2.2.2++[r1.2.2.2.1])),(0:Int)) else none) else
 if(decide ((r1.2.2.2.2.length:Int)>(16:Int))) then some ((([],((0:Int),([],(0:Int)))),[]),(13:Int)) else
 some ((r1.2.2.1.1,r1.2.2.2.2),(0:Int))
def z3c:Fu (Y28×Y34) (Int×(Y28×Y34)):=fun(c,c1,c2,c3)=>
 z0w (c1,c2)>>=fun r=>
 if(!r.2) then some ((9:Int),(c,(c1,(c2,c3)))) else
 if((0:Int)≤r.1) then
 if(r.1<(c1.2.length:Int)) then
 z0x ((elt y0l c1.2 r.1.toNat).2.1,c3)>>=fun s=>
 if(!s) then some ((9:Int),(c,(c1,(c2,c3)))) else
 z2s (c.2.1,c3)>>=fun a=>
 some ((0:Int),((c.1,(a,c.2.2)),(c1,(c2,c3)))) else none else none
def z40:Fu ((Y32×Y0e)×Y34) (Y3a×Y34):=fun((g,r,names),c,c1,c2)=>
 z11 g>>=fun r1=>
 if(!r1) then some (((([],((0:Int),([],(0:Int)))),[]),(1:Int)),(c,(c1,c2))) else
 jo r>>=fun n=>
 if(!n) then some (((([],((0:Int),([],(0:Int)))),[]),(5:Int)),(c,(c1,c2))) else
 if(!names) then some (((([],((0:Int),([],(0:Int)))),[]),(5:Int)),(c,(c1,c2))) else
 z0w (g,r)>>=fun r2=>
 if r2.2 then(if((0:Int)≤r2.1) then
 if(r2.1<(g.2.length:Int)) then
 z3c ((elt y0l g.2 r2.1.toNat),(c,(c1,c2)))>>=fun m=>
 if(m.1 !=(0:Int)) then some (((([],((0:Int),([],(0:Int)))),[]),m.1),m.2.2) else
 z2v g.2>>=fun r3=>
 if r2.2 then(if((0:Int)≤r2.1) then
 if(r2.1<(r3.length:Int)) then
 if(r2.1.toNat<r3.length) then
 some (((g.1,(List.set r3 r2.1.toNat m.2.1)),(0:Int)),m.2.2) else none else none else none) else
 if((r3.length:Int)==(16:Int)) then some (((([],((0:Int),([],(0:Int)))),[]),(13:Int)),m.2.2) else
 z2u (r2.1,(r3,[m.2.1]))>>=fun r4=>
 some (((g.1,r4.1),(0:Int)),m.2.2) else none else none) else
 z3c ((r,([],([],[]))),(c,(c1,c2)))>>=fun m=>
 if(m.1 !=(0:Int)) then some (((([],((0:Int),([],(0:Int)))),[]),m.1),m.2.2) else
 z2v g.2>>=fun r3=>
 if r2.2 then(if((0:Int)≤r2.1) then
 if(r2.1<(r3.length:Int)) then
 if(r2.1.toNat<r3.length) then
 some (((g.1,(List.set r3 r2.1.toNat m.2.1)),(0:Int)),m.2.2) else none else none else none) else
 if((r3.length:Int)==(16:Int)) then some (((([],((0:Int),([],(0:Int)))),[]),(13:Int)),m.2.2) else
 z2u (r2.1,(r3,[m.2.1]))>>=fun r4=>
 some (((g.1,r4.1),(0:Int)),m.2.2)
def z2h:Fu (Y32×(Str×Y00)) Y3a:=fun(g,r,from1,d)=>
 jo from1>>=fun n=>
 z40 ((g,(r,n)),(g,(from1,d)))>>=fun c=>
 some c.1
def xg:Fu (Y32×(Str×Y00)) (Bool):=fun(g,repo,from1,d)=>
 z0a g>>=fun f=>
 z2b (f,(repo,d))>>=fun l=>
 z2h (f,(repo,(from1,d)))>>=fun m=>
 z3s ()>>=fun a=>
 if(!a) then some false else
 z1n f>>=fun r=>
 if(!r) then(z2j (l.1,((([],((0:Int),([],(0:Int)))),[]),(l.2,(1:Int))))>>=fun i=>
 if i then(z2j (m.1,((([],((0:Int),([],(0:Int)))),[]),(m.2,(1:Int))))>>=fun i1=>
 some i1) else
 some false) else
 z15 repo>>=fun r1=>
 if(!r1) then(z2j (l.1,((([],((0:Int),([],(0:Int)))),[]),(l.2,(5:Int))))>>=fun i=>
 if i then(z2j (m.1,((([],((0:Int),([],(0:Int)))),[]),(m.2,(5:Int))))>>=fun i1=>
 some i1) else
 some false) else
 z1e (f,repo)>>=fun r2=>
 z3g (r2.2.1,d)>>=fun a1=>
 z1v (f,(r2.1,(a1,r2.2.2)))>>=fun w=>
 z10 (f.1.1,d)>>=fun f1=>
 if(f1.2 !=(0:Int)) then(z2j (l.1,((([],((0:Int),([],(0:Int)))),[]),(l.2,(9:Int))))>>=fun i=>
 if(!i) then some false else
 z15 from1>>=fun r3=>
 if(!r3) then(z2j (m.1,((([],((0:Int),([],(0:Int)))),[]),(m.2,(5:Int))))>>=fun i1=>
 some i1) else
 z1e (f,from1)>>=fun r4=>
 z0n (r4.2.1,d)>>=fun h=>
 if(!h) then(z2j (m.1,((([],((0:Int),([],(0:Int)))),[]),(m.2,(9:Int))))>>=fun i1=>
 some i1) else
 z2j (m.1,(w.1,(m.2,w.2)))>>=fun i1=>
 some i1) else
 z2j (l.1,(w.1,(l.2,w.2)))>>=fun i=>
 if(!i) then some false else
 z15 from1>>=fun r3=>
 if(!r3) then(z2j (m.1,((([],((0:Int),([],(0:Int)))),[]),(m.2,(5:Int))))>>=fun i1=>
 some i1) else
 z1e (f,from1)>>=fun r4=>
 z0n (r4.2.1,d)>>=fun h=>
 if(!h) then(z2j (m.1,((([],((0:Int),([],(0:Int)))),[]),(m.2,(9:Int))))>>=fun i1=>
 some i1) else
 z2j (m.1,(w.1,(m.2,w.2)))>>=fun i1=>
 some i1
end Go.Plain
