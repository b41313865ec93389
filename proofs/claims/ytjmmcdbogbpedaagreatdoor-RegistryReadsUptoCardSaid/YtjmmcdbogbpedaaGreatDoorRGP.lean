import Derived.Test.YtjmmcdbogbpedaaGreatDoorBMLib
import Derived.Test.YtjmmcdbogbpedaaGreatDoorPrn
import Derived.Test.YtjmmcdbogbpedaaGreatDoorS7P
import Derived.Test.YtjmmcdbogbpedaaGreatDoorRGPartP
import Derived.Test.YtjmmcdbogbpedaaGreatDoorTRepo
noncomputable section
namespace Go.Plain
open Go.AM
set_option linter.unusedVariables false
abbrev z3r:Y2n→Option (Y2n):=qtd
abbrev z3q:(Int×(Y2n×Y2n))→Option ((Y2n×Y2n)):=qad
def qid(self:Fu (Y17×Y3f) Y3f):Fu (Y17×Y3f) Y3f:=fun((x30,x28,x29),c,c1,c2,c3)=>
 if(decide (x30<x29)) then(if((0:Int)≤x30) then
 if(x30<(x28.length:Int)) then
 if(qj (c3.length+[(elt y02 x28 x30.toNat)].length) 24) then
 self (((w64 (x30+(1:Int))),(x28,x29)),(c,(c1,(c2,(c3++[(elt y02 x28 x30.toNat)]))))) else none else none else none) else
 some (c,(c1,(c2,c3)))
def qqb:Fu (Y17×Y3f) Y3f:=qu qid
theorem que q:qqb q=qid qqb q:=qx q
def qdt(self:Fu (Y1n×Y3g) Y3g):Fu (Y1n×Y3g) Y3g:=fun((x53,x51,x52),c,c1,c2,c3,c4)=>
 if(decide (x53<x52)) then(if((0:Int)≤x53) then
 if(x53<(x51.length:Int)) then
 if((0:Int)≤(min ((elt y00 x51 x53.toNat).2.length:Int) (1200:Int))) then
 if((min ((elt y00 x51 x53.toNat).2.length:Int) (1200:Int))≤((elt y00 x51 x53.toNat).2.length:Int)) then
 if(qj (c3.length+[((elt y00 x51 x53.toNat).1,(List.take (min ((elt y00 x51 x53.toNat).2.length:Int) (1200:Int)).toNat (elt y00 x51 x53.toNat).2))].length) 32) then
 self (((w64 (x53+(1:Int))),(x51,x52)),(c,(c1,(c2,((c3++[((elt y00 x51 x53.toNat).1,(List.take (min ((elt y00 x51 x53.toNat).2.length:Int) (1200:Int)).toNat (elt y00 x51 x53.toNat).2))]),c4))))) else none else none else none else none else none) else
 some (c,(c1,(c2,(c3,c4))))
def qib:Fu (Y1n×Y3g) Y3g:=qu qdt
theorem qp9 q:qib q=qdt qib q:=qx q
def qdu(self:Fu Y3k Y3j):Fu Y3k Y3j:=fun((x83,x81,x82),c,c1,c2,c3,c4)=>
 if(decide (x83<x82)) then(if((0:Int)≤x83) then
 if(x83<(x81.length:Int)) then
 if((0:Int)≤(min ((elt y0l x81 x83.toNat).2.1.length:Int) (12:Int))) then
 if((min ((elt y0l x81 x83.toNat).2.1.length:Int) (12:Int))≤((elt y0l x81 x83.toNat).2.1.length:Int)) then
 if((0:Int)≤(min ((elt y0l x81 x83.toNat).2.2.1.length:Int) (8:Int))) then
 if((min ((elt y0l x81 x83.toNat).2.2.1.length:Int) (8:Int))≤((elt y0l x81 x83.toNat).2.2.1.length:Int)) then
 if((0:Int)≤(min ((elt y0l x81 x83.toNat).2.2.2.length:Int) (66:Int))) then
 if((min ((elt y0l x81 x83.toNat).2.2.2.length:Int) (66:Int))≤((elt y0l x81 x83.toNat).2.2.2.length:Int)) then
 if(qj (c4.length+[((elt y0l x81 x83.toNat).1,((List.take (min ((elt y0l x81 x83.toNat).2.1.length:Int) (12:Int)).toNat (elt y0l x81 x83.toNat).2.1),((List.take (min ((elt y0l x81 x83.toNat).2.2.1.length:Int) (8:Int)).toNat (elt y0l x81 x83.toNat).2.2.1),(List.take (min ((elt y0l x81 x83.toNat).2.2.2.length:Int) (66:Int)).toNat (elt y0l x81 x83.toNat).2.2.2))))].length) 88) then
 self (((w64 (x83+(1:Int))),(x81,x82)),(c,(c1,(c2,(c3,(c4++[((elt y0l x81 x83.toNat).1,((List.take (min ((elt y0l x81 x83.toNat).2.1.length:Int) (12:Int)).toNat (elt y0l x81 x83.toNat).2.1),((List.take (min ((elt y0l x81 x83.toNat).2.2.1.length:Int) (8:Int)).toNat (elt y0l x81 x83.toNat).2.2.1),(List.take (min ((elt y0l x81 x83.toNat).2.2.2.length:Int) (66:Int)).toNat (elt y0l x81 x83.toNat).2.2.2))))])))))) else none else none else none else none else none else none else none else none else none) else
 some (c1,(c,(c2,(c3,c4))))
def qic:Fu Y3k Y3j:=qu qdu
theorem qqa q:qic q=qdu qic q:=qx q
def z0a:Fu Y2y Y2y:=fun g=>
 if((0:Int)≤(min (g.1.2.2.1.length:Int) (3:Int))) then
 if((min (g.1.2.2.1.length:Int) (3:Int))≤(g.1.2.2.1.length:Int)) then
 qqb (((0:Int),((List.take (min (g.1.2.2.1.length:Int) (3:Int)).toNat g.1.2.2.1),((List.take (min (g.1.2.2.1.length:Int) (3:Int)).toNat g.1.2.2.1).length:Int))),((g.1.2.1,g.1.2.2.2),(((0:Int),(0:Int)),(g,[]))))>>=fun r=>
 if((0:Int)≤(min (r.2.2.1.1.1.length:Int) (20:Int))) then
 if((min (r.2.2.1.1.1.length:Int) (20:Int))≤(r.2.2.1.1.1.length:Int)) then
 qib (((0:Int),((List.take (min (r.2.2.1.1.1.length:Int) (20:Int)).toNat r.2.2.1.1.1),((List.take (min (r.2.2.1.1.1.length:Int) (20:Int)).toNat r.2.2.1.1.1).length:Int))),(r.1,(r.2.1,(r.2.2.1,([],r.2.2.2)))))>>=fun r1=>
 if((0:Int)≤(min (r1.2.2.1.2.length:Int) (18:Int))) then
 if((min (r1.2.2.1.2.length:Int) (18:Int))≤(r1.2.2.1.2.length:Int)) then
 qic (((0:Int),((List.take (min (r1.2.2.1.2.length:Int) (18:Int)).toNat r1.2.2.1.2),((List.take (min (r1.2.2.1.2.length:Int) (18:Int)).toNat r1.2.2.1.2).length:Int))),(r1.1,(r1.2.1,(r1.2.2.2.1,(r1.2.2.2.2,[])))))>>=fun r2=>
 some ((r2.2.2.1,(r2.2.1.1,(r2.2.2.2.1,r2.2.1.2))),r2.2.2.2.2) else none else none else none else none else none else none
def qjl(self:Fu (Int×(Y01×Y05)) Y07):Fu (Int×(Y01×Y05)) Y07:=fun(x7,l,x5,x6)=>
 if(decide (x7<x6)) then(if((0:Int)≤x7) then
 if(x7<(x5.length:Int)) then
 if((0:Int)≤x7) then
 if(x7≤(l.length:Int)) then
 z0w ((List.take x7.toNat l),(elt .str x5 x7.toNat))>>=fun s=>
 if s then some (.inl false) else
 self ((w64 (x7+(1:Int))),(l,(x5,x6))) else none else none else none else none) else
 some (.inr ())
def qrk:Fu (Int×(Y01×Y05)) Y07:=qu qjl
theorem qve q:qrk q=qjl qrk q:=qx q
def z1o:Fu Y01 (Bool):=fun l=>
 qrk ((0:Int),(l,(l,(l.length:Int))))>>=fun r=>
 Sum.elim (fun r1=>some r1) (fun r1=>some true) r
def qh9(self:Fu Y2r (Y2u⊕(Y0g×Y26))):Fu Y2r (Y2u⊕(Y0g×Y26)):=fun((x59,l,x57,x58),c)=>
 if(decide (x59<x58)) then(if((0:Int)≤x59) then
 if(x59<(x57.length:Int)) then
 z18 (l,(elt .str x57 x59.toNat))>>=fun f=>
 if(f.2 !=(0:Int)) then some (.inl (false,c)) else
 self (((w64 (x59+(1:Int))),(l,(x57,x58))),c) else none else none) else
 some (.inr (l,c))
def qp6:Fu Y2r (Y2u⊕(Y0g×Y26)):=qu qh9
theorem quc q:qp6 q=qh9 qp6 q:=qx q
def z3o:Fu (Str×Y26) Y2u:=fun(d,c)=>
 z0w (c.2.1,d)>>=fun s=>
 some ((!s),c)
def qjt(self:Fu Y2q Y2t):Fu Y2q Y2t:=fun((x8,s,x7),c)=>
 if(decide (x8<x7)) then(if((0:Int)≤x8) then
 if(x8<(s.length:Int)) then
 z3o ((elt .str s x8.toNat),c)>>=fun z=>
 if z.1 then some (.inl (x8,z.2)) else
 self (((w64 (x8+(1:Int))),(s,x7)),z.2) else none else none) else
 some (.inr c)
def qrq:Fu Y2q Y2t:=qu qjt
theorem qvm q:qrq q=qjt qrq q:=qx q
def z1w:Fu (Y01×Y26) (Int×Y26):=fun(s,c)=>
 qrq (((0:Int),(s,(s.length:Int))),c)>>=fun r=>
 Sum.elim (fun r1=>some r1) (fun r1=>some ((-1:Int),r1)) r
def z3c:Fu (Y01×Y26) Y2u:=fun(s,c)=>
 z1w (s,c)>>=fun m=>
 some ((decide (m.1≥(0:Int))),m.2)
def z3p:Fu (Str×Y26) Y2u:=fun(d,c)=>
 z0w (c.2.2.1,d)>>=fun s=>
 some ((!s),c)
def qju(self:Fu Y2q Y2t):Fu Y2q Y2t:=fun((x8,s,x7),c)=>
 if(decide (x8<x7)) then(if((0:Int)≤x8) then
 if(x8<(s.length:Int)) then
 z3p ((elt .str s x8.toNat),c)>>=fun z=>
 if z.1 then some (.inl (x8,z.2)) else
 self (((w64 (x8+(1:Int))),(s,x7)),z.2) else none else none) else
 some (.inr c)
def qrr:Fu Y2q Y2t:=qu qju
theorem qvn q:qrr q=qju qrr q:=qx q
def z1x:Fu (Y01×Y26) (Int×Y26):=fun(s,c)=>
 qrr (((0:Int),(s,(s.length:Int))),c)>>=fun r=>
 Sum.elim (fun r1=>some r1) (fun r1=>some ((-1:Int),r1)) r
def z3d:Fu (Y01×Y26) Y2u:=fun(s,c)=>
 z1x (s,c)>>=fun s1=>
 some ((decide (s1.1≥(0:Int))),s1.2)
def z2v:Fu (Y1u×Y26) Y2u:=fun(m,c)=>
 z12 m>>=fun b=>
 z3c (b,c)>>=fun m1=>
 if m1.1 then some (true,m1.2) else
 z3d (m.2.2.2,m1.2)>>=fun s=>
 some s
def qdp(self:Fu Y2r Y2s):Fu Y2r Y2s:=fun((x78,l,x76,x77),c)=>
 if(decide (x78<x77)) then(if((0:Int)≤x78) then
 if(x78<(x76.length:Int)) then
 z18 (l,(elt .str x76 x78.toNat))>>=fun f=>
 z28 f.1>>=fun p=>
 z30 (l,(elt .str x76 x78.toNat))>>=fun o=>
 if(o.2 !=(0:Int)) then some (.inl (false,c)) else
 if(p.2 !=(0:Int)) then some (.inl (false,c)) else
 z2v (p.1,c)>>=fun l1=>
 if l1.1 then some (.inl (false,l1.2)) else
 self (((w64 (x78+(1:Int))),(l,(x76,x77))),l1.2) else none else none) else
 some (.inr c)
def qey:Fu Y2r Y2s:=qu qdp
theorem qp4 q:qey q=qdp qey q:=qx q
def qje(self:Fu Y0v Y08):Fu Y0v Y08:=fun(x7,s,x6)=>
 if(decide (x7<x6)) then(if((0:Int)≤x7) then
 if(x7<(s.length:Int)) then
 z32 (bt s x7)>>=fun s1=>
 if s1 then(self ((w64 (x7+(1:Int))),(s,x6))) else
 if(decide ((bt s x7)≥(65:Int))) then(if(decide ((bt s x7)≤(90:Int))) then(self ((w64 (x7+(1:Int))),(s,x6))) else
 if((bt s x7)==(95:Int)) then(self ((w64 (x7+(1:Int))),(s,x6))) else
 if(decide (x7>(0:Int))) then(if((bt s x7)==(46:Int)) then(self ((w64 (x7+(1:Int))),(s,x6))) else
 if((bt s x7)==(45:Int)) then(self ((w64 (x7+(1:Int))),(s,x6))) else
 some (.inl false)) else
 some (.inl false)) else
 if((bt s x7)==(95:Int)) then(self ((w64 (x7+(1:Int))),(s,x6))) else
 if(decide (x7>(0:Int))) then(if((bt s x7)==(46:Int)) then(self ((w64 (x7+(1:Int))),(s,x6))) else
 if((bt s x7)==(45:Int)) then(self ((w64 (x7+(1:Int))),(s,x6))) else
 some (.inl false)) else
 some (.inl false) else none else none) else
 some (.inr s)
def qre:Fu Y0v Y08:=qu qje
theorem qu7 q:qre q=qje qre q:=qx q
def z1h:Fu Str (Bool):=fun s=>
 qre ((0:Int),(s,(s.length:Int)))>>=fun r=>
 Sum.elim (fun r1=>some r1) (fun r1=>if(r1 !=[]) then some (decide ((r1.length:Int)≤(128:Int))) else
 some false) r
def qdq(self:Fu Y2w Y2s):Fu Y2w Y2s:=fun((x117,x115,x116),c)=>
 if(decide (x117<x116)) then(if((0:Int)≤x117) then
 if(x117<(x115.length:Int)) then
 z1h (elt y00 x115 x117.toNat).1>>=fun t=>
 if(!t) then some (.inl (false,c)) else
 z0w (c.2.2.1,(elt y00 x115 x117.toNat).2)>>=fun s=>
 if(!s) then some (.inl (false,c)) else
 if(decide (x117>(0:Int))) then(if((0:Int)≤(w64 (x117-(1:Int)))) then
 if((w64 (x117-(1:Int)))<(c.2.2.2.length:Int)) then
 if(!(Op.bytesLess (elt y00 c.2.2.2 (w64 (x117-(1:Int))).toNat).1 (elt y00 x115 x117.toNat).1)) then some (.inl (false,c)) else
 self (((w64 (x117+(1:Int))),(x115,x116)),c) else none else none) else
 self (((w64 (x117+(1:Int))),(x115,x116)),c) else none else none) else
 some (.inr c)
def qez:Fu Y2w Y2s:=qu qdq
theorem qp5 q:qez q=qdq qez q:=qx q
def z08:Fu (Y0g×Y26) Y2u:=fun(l,c)=>
 kq c.1>>=fun n=>
 if(!n) then some (false,c) else
 z1o c.2.1>>=fun u=>
 if(!u) then some (false,c) else
 z1o c.2.2.1>>=fun u1=>
 if(!u1) then some (false,c) else
 if(decide ((c.2.2.2.length:Int)>(64:Int))) then some (false,c) else
 qp6 (((0:Int),(l,(c.2.1,(c.2.1.length:Int)))),c)>>=fun r=>
 Sum.elim (fun r1=>some r1) (fun r1=>qey (((0:Int),(r1.1,(r1.2.2.2.1,(r1.2.2.2.1.length:Int)))),r1.2)>>=fun r2=>
 Sum.elim (fun r3=>some r3) (fun r3=>qez (((0:Int),(r3.2.2.2,(r3.2.2.2.length:Int))),r3)>>=fun r4=>
 Sum.elim (fun r5=>some r5) (fun r5=>some (true,r5)) r4) r2) r
def qi3(self:Fu Y37 (Bool⊕Y2y)):Fu Y37 (Bool⊕Y2y):=fun((x9,x7,x8),c)=>
 if(decide (x9<x8)) then(if((0:Int)≤x9) then
 if(x9<(x7.length:Int)) then
 z08 (c.1.1,(elt y0l x7 x9.toNat))>>=fun m=>
 if(!m.1) then some (.inl false) else
 if(decide (x9>(0:Int))) then(if((0:Int)≤(w64 (x9-(1:Int)))) then
 if((w64 (x9-(1:Int)))<(c.2.length:Int)) then
 if(!(Op.bytesLess (elt y0l c.2 (w64 (x9-(1:Int))).toNat).1 (elt y0l x7 x9.toNat).1)) then some (.inl false) else
 self (((w64 (x9+(1:Int))),(x7,x8)),c) else none else none) else
 self (((w64 (x9+(1:Int))),(x7,x8)),c) else none else none) else
 some (.inr c)
def qq3:Fu Y37 (Bool⊕Y2y):=qu qi3
theorem quw q:qq3 q=qi3 qq3 q:=qx q
def z3v:Fu (Y00×Str) (Bool×Str):=fun(o,c)=>
 some ((o.1==c),c)
def qjs(self:Fu Y1i Y0e):Fu Y1i Y0e:=fun((x8,s,x7),c)=>
 if(decide (x8<x7)) then(if((0:Int)≤x8) then
 if(x8<(s.length:Int)) then
 z3v ((elt y00 s x8.toNat),c)>>=fun d=>
 if d.1 then some (.inl (x8,d.2)) else
 self (((w64 (x8+(1:Int))),(s,x7)),d.2) else none else none) else
 some (.inr c)
def qrp:Fu Y1i Y0e:=qu qjs
theorem qvl q:qrp q=qjs qrp q:=qx q
def z1v:Fu Y0w Y02:=fun(s,c)=>
 qrp (((0:Int),(s,(s.length:Int))),c)>>=fun r=>
 Sum.elim (fun r1=>some r1) (fun r1=>some ((-1:Int),r1)) r
def z3n:Fu Y0w Y02:=fun(l,c)=>
 z1v (l,c)>>=fun e=>
 some e
def z2c:Fu (Y1s×Str) (Int):=fun(b,d)=>
 z3n (b.1,d)>>=fun e=>
 some e.1
def qil(self:Fu Y2i Y2a):Fu Y2i Y2a:=fun((x10,x8,x9),c)=>
 if(decide (x10<x9)) then(if((0:Int)≤x10) then
 if(x10<(x8.length:Int)) then
 if(decide (((elt y00 x8 x10.toNat).2.length:Int)>(4096:Int))) then some (.inl false) else
 z2z (elt y00 x8 x10.toNat)>>=fun f=>
 if(f !=(0:Int)) then some (.inl false) else
 z2c (c,(elt y00 x8 x10.toNat).1)>>=fun o=>
 if(o !=x10) then some (.inl false) else
 self (((w64 (x10+(1:Int))),(x8,x9)),c) else none else none) else
 some (.inr c)
def qqk:Fu Y2i Y2a:=qu qil
theorem quh q:qqk q=qil qqk q:=qx q
def qd1(self:Fu (Y17×Y1s) Y2a):Fu (Y17×Y1s) Y2a:=fun((x39,x37,x38),c)=>
 if(decide (x39<x38)) then(if((0:Int)≤x39) then
 if(x39<(x37.length:Int)) then
 if(decide (((elt y02 x37 x39.toNat).2.length:Int)>(4096:Int))) then some (.inl false) else
 if(decide ((elt y02 x37 x39.toNat).1<(1:Int))) then some (.inl false) else
 if(decide ((elt y02 x37 x39.toNat).1>c.2.2.2)) then some (.inl false) else
 if(decide (x39>(0:Int))) then(if((0:Int)≤(w64 (x39-(1:Int)))) then
 if((w64 (x39-(1:Int)))<(c.2.2.1.length:Int)) then
 if(decide ((elt y02 c.2.2.1 (w64 (x39-(1:Int))).toNat).1≥(elt y02 x37 x39.toNat).1)) then some (.inl false) else
 self (((w64 (x39+(1:Int))),(x37,x38)),c) else none else none) else
 self (((w64 (x39+(1:Int))),(x37,x38)),c) else none else none) else
 some (.inr c)
def qe2:Fu (Y17×Y1s) Y2a:=qu qd1
theorem qqj q:qe2 q=qd1 qe2 q:=qx q
def qjc(self:Fu Y22 (Int)):Fu Y22 (Int):=fun(x9,n,x7,x8)=>
 if(decide (x9<x8)) then(if((0:Int)≤x9) then
 if(x9<(x7.length:Int)) then
 self ((w64 (x9+(1:Int))),((w64 (n+((elt y00 x7 x9.toNat).2.length:Int))),(x7,x8))) else none else none) else
 some n
def qrc:Fu Y22 (Int):=qu qjc
theorem qu5 q:qrc q=qjc qrc q:=qx q
def z1f:Fu Y1s (Int):=fun b=>
 qrc ((0:Int),((0:Int),(b.1,(b.1.length:Int))))>>=fun r=>
 some r
def z0g:Fu Y1s (Bool):=fun b=>
 qqk (((0:Int),(b.1,(b.1.length:Int))),b)>>=fun r=>
 Sum.elim (fun r1=>some r1) (fun r1=>qe2 (((0:Int),(r1.2.2.1,(r1.2.2.1.length:Int))),r1)>>=fun r2=>
 Sum.elim (fun r3=>some r3) (fun r3=>if(decide ((r3.1.length:Int)≤(64:Int))) then(if(decide ((r3.2.2.1.length:Int)≤(16:Int))) then(if(decide (r3.2.2.2≥(0:Int))) then(if(decide (r3.2.2.2≤(1099511627776:Int))) then(if(decide (r3.2.1≥(0:Int))) then(if(decide (r3.2.1≤(1048576:Int))) then(z1f r3>>=fun u=>
 some (decide (u≤r3.2.1))) else
 some false) else
 some false) else
 some false) else
 some false) else
 some false) else
 some false) r2) r
def z10:Fu Y2y (Bool):=fun g=>
 qq3 (((0:Int),(g.2,(g.2.length:Int))),g)>>=fun r=>
 Sum.elim (fun r1=>some r1) (fun r1=>if(decide ((r1.2.length:Int)≤(16:Int))) then(z0g r1.1>>=fun r2=>
 some r2) else
 some false) r
def qi2(self:Fu ((Str×(Int×Y2o))×Y2y) Y3d):Fu ((Str×(Int×Y2o))×Y2y) Y3d:=fun((s,x11,x9,x10),c)=>
 if(decide (x11<x10)) then(if((0:Int)≤x11) then
 if(x11<(x9.length:Int)) then
 if(!(Op.bytesLess (elt y0l x9 x11.toNat).1 s)) then some (.inl (x11,((elt y0l x9 x11.toNat).1==s))) else
 self ((s,((w64 (x11+(1:Int))),(x9,x10))),c) else none else none) else
 some (.inr c)
def qq1:Fu ((Str×(Int×Y2o))×Y2y) Y3d:=qu qi2
theorem quv q:qq1 q=qi2 qq1 q:=qx q
def z0x:Fu Y30 (Int×Bool):=fun(g,s)=>
 qq1 ((s,((0:Int),(g.2,(g.2.length:Int)))),g)>>=fun r=>
 Sum.elim (fun r1=>some r1) (fun r1=>some ((r1.2.length:Int),false)) r
def z2w:Fu Y0g (Y0g×Bool):=fun s=>
 if((s.length:Int)≤(s.length:Int)) then
 if((s.length:Int)≤(s.length:Int)) then
 some ((List.take (s.length:Int).toNat s),(decide ((s.length:Int)=(s.length:Int)))) else none else none
def qjn(self:Fu ((Int×(Int×(Y0g×Y11)))×Y2k) (Y11×Y2k)):Fu ((Int×(Int×(Y0g×Y11)))×Y2k) (Y11×Y2k):=fun((x28,n,x26,data,d,x27),c,c1)=>
 if(decide (x28<x27)) then(if((0:Int)≤x28) then
 if(x28<(x26.length:Int)) then
 self (((w64 (x28+(1:Int))),((w64 (n+((elt y00 x26 x28.toNat).2.length:Int))),(x26,(data,(d,x27))))),(c,c1)) else none else none) else
 some ((data,(d,n)),(c,c1))
def qrm:Fu ((Int×(Int×(Y0g×Y11)))×Y2k) (Y11×Y2k):=qu qjn
theorem qvg q:qrm q=qjn qrm q:=qx q
def z1q:Fu (Y1s×Y00) (Y1s×Int):=fun(b,d,data)=>
 z18 (b.1,d)>>=fun f=>
 if(f.2==(0:Int)) then some (b,(0:Int)) else
 qrm (((0:Int),((data.length:Int),(b.1,(data,(d,(b.1.length:Int)))))),(([],((0:Int),([],(0:Int)))),b))>>=fun r=>
 if((r.2.2.1.length:Int)==(64:Int)) then some (r.2.2,(13:Int)) else
 if(decide (r.1.2.2>r.2.2.2.1)) then some (r.2.2,(12:Int)) else
 z2w r.2.2.1>>=fun o=>
 if(o.2=true) then
 if((o.1.length=0)∨(0<[(r.1.2.1,r.1.1)].length)) then
 if(qj (o.1.length+[(r.1.2.1,r.1.1)].length) 32) then
 some (((o.1++[(r.1.2.1,r.1.1)]),r.2.2.2),(0:Int)) else none else none else none
def z3u:Fu Y01 (Y01×Bool):=fun s=>
 if((s.length:Int)≤(s.length:Int)) then
 if((s.length:Int)≤(s.length:Int)) then
 some ((List.take (s.length:Int).toNat s),(decide ((s.length:Int)=(s.length:Int)))) else none else none
def z2y:Fu Y0c Y01:=fun(l,s)=>
 z0w (l,s)>>=fun s1=>
 if s1 then some l else
 z3u l>>=fun s2=>
 if(s2.2=true) then
 if((s2.1.length=0)∨(0<[s].length)) then
 if(qj (s2.1.length+[s].length) 16) then
 some (s2.1++[s]) else none else none else none
def z38:Fu (Y26×(Str×(Y2y×(Str×Y1s)))) (Int×(Y26×(Str×(Y2y×(Str×Y1s))))):=fun(c,c1,c2,c3,c4)=>
 z28 c1>>=fun p=>
 if(p.2 !=(0:Int)) then some (p.2,(c,(c1,(c2,(c3,c4))))) else
 z2v (p.1,c)>>=fun l=>
 if l.1 then some ((9:Int),(l.2,(c1,(c2,(c3,c4))))) else
 z2w c2.1.1>>=fun o=>
 if(o.2=true) then
 if((o.1.length=0)∨(0<[(c3,c1)].length)) then
 if(qj (o.1.length+[(c3,c1)].length) 32) then
 z30 ((o.1++[(c3,c1)]),c3)>>=fun o1=>
 if(o1.2 !=(0:Int)) then some (o1.2,(l.2,(c1,(c2,(c3,c4))))) else
 z1q (c2.1,(c3,c1))>>=fun k=>
 if(k.2 !=(0:Int)) then some (k.2,(l.2,(c1,(c2,(c3,k.1))))) else
 z2y (l.2.2.2.1,c3)>>=fun a=>
 some ((0:Int),((l.2.1,(l.2.2.1,(a,l.2.2.2.2))),(c1,(c2,(c3,k.1))))) else none else none else none
def z3f:Fu ((Y2y×Y0f)×(Str×(Y2y×(Str×Y1s)))) ((Y2y×Int)×(Str×(Y2y×(Str×Y1s)))):=fun((g,r,names),c,c1,c2,c3)=>
 z10 g>>=fun r1=>
 if(!r1) then some (((([],((0:Int),([],(0:Int)))),[]),(1:Int)),(c,(c1,(c2,c3)))) else
 kq r>>=fun n=>
 if(!n) then some (((([],((0:Int),([],(0:Int)))),[]),(5:Int)),(c,(c1,(c2,c3)))) else
 if(!names) then some (((([],((0:Int),([],(0:Int)))),[]),(5:Int)),(c,(c1,(c2,c3)))) else
 z0x (g,r)>>=fun r2=>
 if r2.2 then(if((0:Int)≤r2.1) then
 if(r2.1<(g.2.length:Int)) then
 z38 ((elt y0l g.2 r2.1.toNat),(c,(c1,(c2,c3))))>>=fun p=>
 if(p.1 !=(0:Int)) then some (((([],((0:Int),([],(0:Int)))),[]),p.1),p.2.2) else
 z3r g.2>>=fun r3=>
 if r2.2 then(if((0:Int)≤r2.1) then
 if(r2.1<(r3.length:Int)) then
 if(r2.1.toNat<r3.length) then
 some (((g.1,(List.set r3 r2.1.toNat p.2.1)),(0:Int)),p.2.2) else none else none else none) else
 if((r3.length:Int)==(16:Int)) then some (((([],((0:Int),([],(0:Int)))),[]),(13:Int)),p.2.2) else
 z3q (r2.1,(r3,[p.2.1]))>>=fun r4=>
 some (((g.1,r4.1),(0:Int)),p.2.2) else none else none) else
 z38 ((r,([],([],[]))),(c,(c1,(c2,c3))))>>=fun p=>
 if(p.1 !=(0:Int)) then some (((([],((0:Int),([],(0:Int)))),[]),p.1),p.2.2) else
 z3r g.2>>=fun r3=>
 if r2.2 then(if((0:Int)≤r2.1) then
 if(r2.1<(r3.length:Int)) then
 if(r2.1.toNat<r3.length) then
 some (((g.1,(List.set r3 r2.1.toNat p.2.1)),(0:Int)),p.2.2) else none else none else none) else
 if((r3.length:Int)==(16:Int)) then some (((([],((0:Int),([],(0:Int)))),[]),(13:Int)),p.2.2) else
 z3q (r2.1,(r3,[p.2.1]))>>=fun r4=>
 some (((g.1,r4.1),(0:Int)),p.2.2)
def z29:Fu Y34 (Y2y×Y03):=fun(g,r,data)=>
 z2r data>>=fun o=>
 z3f ((g,(r,true)),(data,(g,(o,([],((0:Int),([],(0:Int))))))))>>=fun c=>
 if(c.1.2 !=(0:Int)) then some ((([],((0:Int),([],(0:Int)))),[]),([],c.1.2)) else
 some ((c.2.2.2.2,c.1.1.2),(c.2.2.2.1,(0:Int)))
def z3e:Fu (Y26×Y30) (Int×(Y26×Y30)):=fun(c,c1,c2)=>
 z18 (c1.1.1,c2)>>=fun f=>
 if(f.2 !=(0:Int)) then some ((9:Int),(c,(c1,c2))) else
 z2y (c.2.1,c2)>>=fun a=>
 some ((0:Int),((c.1,(a,c.2.2)),(c1,c2)))
def z3s:Fu ((Y2y×Y0f)×Y30) ((Y2y×Int)×Y30):=fun((g,r,names),c,c1)=>
 z10 g>>=fun r1=>
 if(!r1) then some (((([],((0:Int),([],(0:Int)))),[]),(1:Int)),(c,c1)) else
 kq r>>=fun n=>
 if(!n) then some (((([],((0:Int),([],(0:Int)))),[]),(5:Int)),(c,c1)) else
 if(!names) then some (((([],((0:Int),([],(0:Int)))),[]),(5:Int)),(c,c1)) else
 z0x (g,r)>>=fun r2=>
 if r2.2 then(if((0:Int)≤r2.1) then
 if(r2.1<(g.2.length:Int)) then
 z3e ((elt y0l g.2 r2.1.toNat),(c,c1))>>=fun l=>
 if(l.1 !=(0:Int)) then some (((([],((0:Int),([],(0:Int)))),[]),l.1),l.2.2) else
 z3r g.2>>=fun r3=>
 if r2.2 then(if((0:Int)≤r2.1) then
 if(r2.1<(r3.length:Int)) then
 if(r2.1.toNat<r3.length) then
 some (((g.1,(List.set r3 r2.1.toNat l.2.1)),(0:Int)),l.2.2) else none else none else none) else
 if((r3.length:Int)==(16:Int)) then some (((([],((0:Int),([],(0:Int)))),[]),(13:Int)),l.2.2) else
 z3q (r2.1,(r3,[l.2.1]))>>=fun r4=>
 some (((g.1,r4.1),(0:Int)),l.2.2) else none else none) else
 z3e ((r,([],([],[]))),(c,c1))>>=fun l=>
 if(l.1 !=(0:Int)) then some (((([],((0:Int),([],(0:Int)))),[]),l.1),l.2.2) else
 z3r g.2>>=fun r3=>
 if r2.2 then(if((0:Int)≤r2.1) then
 if(r2.1<(r3.length:Int)) then
 if(r2.1.toNat<r3.length) then
 some (((g.1,(List.set r3 r2.1.toNat l.2.1)),(0:Int)),l.2.2) else none else none else none) else
 if((r3.length:Int)==(16:Int)) then some (((([],((0:Int),([],(0:Int)))),[]),(13:Int)),l.2.2) else
 z3q (r2.1,(r3,[l.2.1]))>>=fun r4=>
 some (((g.1,r4.1),(0:Int)),l.2.2)
def z2d:Fu Y34 (Y2y×Int):=fun(g,r,d)=>
 z3s ((g,(r,true)),(g,d))>>=fun l=>
 some l.1
def z2s:Fu Y34 (Bool):=fun(g,r,d)=>
 z0x (g,r)>>=fun r1=>
 if r1.2 then(if((0:Int)≤r1.1) then
 if(r1.1<(g.2.length:Int)) then
 z0w ((elt y0l g.2 r1.1.toNat).2.1,d)>>=fun s=>
 if s then some true else
 if((0:Int)≤r1.1) then
 if(r1.1<(g.2.length:Int)) then
 z0w ((elt y0l g.2 r1.1.toNat).2.2.1,d)>>=fun s1=>
 some s1 else none else none else none else none) else
 some false
def z3i:Fu Unit (Bool):=fun _=>
 z2r ([99]:Str)>>=fun o=>
 z2n (false,(o,([],[])))>>=fun p=>
 z29 ((([(o,([99]:Str))],((1000:Int),([],(0:Int)))),[]),(([97]:Str),p.1))>>=fun p1=>
 z2d ((([(o,([99]:Str))],((1000:Int),([],(0:Int)))),[]),(([97]:Str),o))>>=fun l=>
 z29 (l.1,(([97]:Str),p.1))>>=fun p2=>
 if(p.2==(0:Int)) then(if(p1.2.2==(9:Int)) then(if(l.2==(0:Int)) then(if(p2.2.2==(0:Int)) then(z2r p.1>>=fun o1=>
 if(p2.2.1==o1) then(z2s (p2.1,(([97]:Str),p2.2.1))>>=fun h=>
 some h) else
 some false) else
 some false) else
 some false) else
 some false) else
 some false
def z33:Fu Y00 (Bool):=fun(digest,data)=>
 z2f digest>>=fun p=>
 if p.2 then(z04 data>>=fun s=>
 some (s==p.1)) else
 some false
def qjj(self:Fu Y1y Y09):Fu Y1y Y09:=fun(x10,digest,x8,x9)=>
 if(decide (x10<x9)) then(if((0:Int)≤x10) then
 if(x10<(x8.length:Int)) then
 if((elt y00 x8 x10.toNat).1==digest) then some (.inl x10) else
 self ((w64 (x10+(1:Int))),(digest,(x8,x9))) else none else none) else
 some (.inr ())
def qrj:Fu Y1y Y09:=qu qjj
theorem qvc q:qrj q=qjj qrj q:=qx q
def z1m:Fu (Y1s×Str) (Int):=fun(b,digest)=>
 qrj ((0:Int),(digest,(b.1,(b.1.length:Int))))>>=fun r=>
 Sum.elim (fun r1=>some r1) (fun r1=>some (-1:Int)) r
def qik(self:Fu Y2i Y2a):Fu Y2i Y2a:=fun((x11,x9,x10),c)=>
 if(decide (x11<x10)) then(if((0:Int)≤x11) then
 if(x11<(x9.length:Int)) then
 if(decide (((elt y00 x9 x11.toNat).2.length:Int)>(4096:Int))) then some (.inl false) else
 z33 (elt y00 x9 x11.toNat)>>=fun f=>
 if(!f) then some (.inl false) else
 z1m (c,(elt y00 x9 x11.toNat).1)>>=fun a=>
 if(a !=x11) then some (.inl false) else
 self (((w64 (x11+(1:Int))),(x9,x10)),c) else none else none) else
 some (.inr c)
def qqi:Fu Y2i Y2a:=qu qik
theorem qug q:qqi q=qik qqi q:=qx q
def qd0(self:Fu Y2m Y2a):Fu Y2m Y2a:=fun((x40,last,x38,x39),c)=>
 if(decide (x40<x39)) then(if((0:Int)≤x40) then
 if(x40<(x38.length:Int)) then
 if(decide (((elt y02 x38 x40.toNat).2.length:Int)>(4096:Int))) then some (.inl false) else
 if(decide ((elt y02 x38 x40.toNat).1≤last)) then some (.inl false) else
 if(decide ((elt y02 x38 x40.toNat).1>c.2.2.2)) then some (.inl false) else
 self (((w64 (x40+(1:Int))),((elt y02 x38 x40.toNat).1,(x38,x39))),c) else none else none) else
 some (.inr c)
def qe1:Fu Y2m Y2a:=qu qd0
theorem qqh q:qe1 q=qd0 qe1 q:=qx q
def q5i(self:Fu Y22 (Int)):Fu Y22 (Int):=fun(x9,n,x7,x8)=>
 if(decide (x9<x8)) then(if((0:Int)≤x9) then
 if(x9<(x7.length:Int)) then
 self ((w64 (x9+(1:Int))),((w64 (n+((elt y00 x7 x9.toNat).2.length:Int))),(x7,x8))) else none else none) else
 some n
def jj7:Fu Y22 (Int):=qu q5i
def z2b:Fu Y1s (Int):=fun b=>
 jj7 ((0:Int),((0:Int),(b.1,(b.1.length:Int))))>>=fun r=>
 some r
def z0f:Fu Y1s (Bool):=fun b=>
 qqi (((0:Int),(b.1,(b.1.length:Int))),b)>>=fun r=>
 Sum.elim (fun r1=>some r1) (fun r1=>qe1 (((0:Int),((0:Int),(r1.2.2.1,(r1.2.2.1.length:Int)))),r1)>>=fun r2=>
 Sum.elim (fun r3=>some r3) (fun r3=>if(decide ((r3.1.length:Int)≤(64:Int))) then(if(decide ((r3.2.2.1.length:Int)≤(16:Int))) then(if(decide (r3.2.2.2≥(0:Int))) then(if(decide (r3.2.2.2≤(1099511627776:Int))) then(if(decide (r3.2.1≥(0:Int))) then(if(decide (r3.2.1≤(1048576:Int))) then(z2b r3>>=fun u=>
 some (decide (u≤r3.2.1))) else
 some false) else
 some false) else
 some false) else
 some false) else
 some false) else
 some false) r2) r
def z2m:Fu Int (Bool):=fun c=>
 if(decide (c≥(97:Int))) then(if(decide (c≤(122:Int))) then some true else
 if(decide (c≥(48:Int))) then some (decide (c≤(57:Int))) else
 some false) else
 if(decide (c≥(48:Int))) then some (decide (c≤(57:Int))) else
 some false
def qjp(self:Fu Y02 Y08):Fu Y02 Y08:=fun(i,s)=>
 if(decide (i<(s.length:Int))) then(if((0:Int)≤i) then
 if(i<(s.length:Int)) then
 if((bt s i) !=(45:Int)) then some (.inl false) else
 self ((w64 (i+(1:Int))),s) else none else none) else
 some (.inr s)
def qx8:Fu Y02 Y08:=qu qjp
theorem qvi q:qx8 q=qjp qx8 q:=qx q
def z1s:Fu Str (Bool):=fun s=>
 if(s==([46]:Str)) then some true else
 if(s==([95]:Str)) then some true else
 if(s==([95,95]:Str)) then some true else
 qx8 ((0:Int),s)>>=fun r=>
 Sum.elim (fun r1=>some r1) (fun r1=>some (decide ((r1.length:Int)>(0:Int)))) r
def qjb(self:Fu Y0z Y07):Fu Y0z Y07:=fun(i,s,now)=>
 if(decide (i<(s.length:Int))) then(if((0:Int)≤i) then
 if(i<(s.length:Int)) then
 z2m (bt s i)>>=fun s1=>
 if(!s1) then(if((0:Int)≤i) then
 if(i≤(w64 (i+(1:Int)))) then
 if((w64 (i+(1:Int)))≤(s.length:Int)) then
 if((now.length+(List.drop i.toNat (List.take (w64 (i+(1:Int))).toNat s)).length)≤9223372036854775807) then
 self ((w64 (i+(1:Int))),(s,(now++(List.drop i.toNat (List.take (w64 (i+(1:Int))).toNat s))))) else none else none else none else none) else
 if(now !=[]) then(z1s now>>=fun m=>
 if(!m) then some (.inl false) else
 self ((w64 (i+(1:Int))),(s,[]))) else
 self ((w64 (i+(1:Int))),(s,[])) else none else none) else
 some (.inr ())
def qrb:Fu Y0z Y07:=qu qjb
theorem qu4 q:qrb q=qjb qrb q:=qx q
def z1e:Fu Str (Bool):=fun s=>
 if(s==[]) then some false else
 if((0:Int)<(s.length:Int)) then
 z2m (bt s (0:Int))>>=fun s1=>
 if(!s1) then some false else
 if((0:Int)≤(w64 ((s.length:Int)-(1:Int)))) then
 if((w64 ((s.length:Int)-(1:Int)))<(s.length:Int)) then
 z2m (bt s (w64 ((s.length:Int)-(1:Int))))>>=fun s2=>
 if(!s2) then some false else
 qrb ((0:Int),(s,[]))>>=fun r=>
 Sum.elim (fun r1=>some r1) (fun r1=>some true) r else none else none else none
def qji(self:Fu Y1o Y08):Fu Y1o Y08:=fun(x8,x6,s,x7)=>
 if(decide (x8<x7)) then(if((0:Int)≤x8) then
 if(x8<(x6.length:Int)) then
 z1e (elt .str x6 x8.toNat)>>=fun p=>
 if(!p) then some (.inl false) else
 self ((w64 (x8+(1:Int))),(x6,(s,x7))) else none else none) else
 some (.inr s)
def qri:Fu Y1o Y08:=qu qji
theorem qvb q:qri q=qji qri q:=qx q
def z1l:Fu Str (Bool):=fun s=>
 z1i (s,(47:Int))>>=fun s1=>
 qri ((0:Int),(s1,(s,(s1.length:Int))))>>=fun r=>
 Sum.elim (fun r1=>some r1) (fun r1=>some (decide ((r1.length:Int)≤(128:Int)))) r
def qiz(self:Fu Y1g Y07):Fu Y1g Y07:=fun(x9,s,x7,x8)=>
 if(decide (x9<x8)) then(if((0:Int)≤x9) then
 if(x9<(x7.length:Int)) then
 if((elt .str x7 x9.toNat)==s) then some (.inl true) else
 self ((w64 (x9+(1:Int))),(s,(x7,x8))) else none else none) else
 some (.inr ())
def qqy:Fu Y1g Y07:=qu qiz
theorem qus q:qqy q=qiz qqy q:=qx q
def z0s:Fu Y0c (Bool):=fun(l,s)=>
 qqy ((0:Int),(s,(l,(l.length:Int))))>>=fun r=>
 Sum.elim (fun r1=>some r1) (fun r1=>some false) r
def qjo(self:Fu (Int×(Y01×Y0p)) Y07):Fu (Int×(Y01×Y0p)) Y07:=fun(x11,l,all1,x9,x10)=>
 if(decide (x11<x10)) then(if((0:Int)≤x11) then
 if(x11<(x9.length:Int)) then
 z13 (all1,(elt .str x9 x11.toNat))>>=fun f=>
 if(f.2 !=(0:Int)) then some (.inl false) else
 if((0:Int)≤x11) then
 if(x11≤(l.length:Int)) then
 z0s ((List.take x11.toNat l),(elt .str x9 x11.toNat))>>=fun h=>
 if h then some (.inl false) else
 self ((w64 (x11+(1:Int))),(l,(all1,(x9,x10)))) else none else none else none else none) else
 some (.inr ())
def qrn:Fu (Int×(Y01×Y0p)) Y07:=qu qjo
theorem qvh q:qrn q=qjo qrn q:=qx q
def z1r:Fu Y16 (Bool):=fun(l,all1)=>
 qrn ((0:Int),(l,(all1,(l,(l.length:Int)))))>>=fun r=>
 Sum.elim (fun r1=>some r1) (fun r1=>some true) r
def qiq(self:Fu Y2x (Bool⊕Y2b)):Fu Y2x (Bool⊕Y2b):=fun((x12,x10,x11),c,c1)=>
 if(decide (x12<x11)) then(if((0:Int)≤x12) then
 if(x12<(x10.length:Int)) then
 z0s (c.2.1,(elt .str x10 x12.toNat))>>=fun h=>
 if(!h) then some (.inl true) else
 self (((w64 (x12+(1:Int))),(x10,x11)),(c,c1)) else none else none) else
 some (.inr (c,c1))
def qqo:Fu Y2x (Bool⊕Y2b):=qu qiq
theorem qul q:qqo q=qiq qqo q:=qx q
def qd3(self:Fu Y2q Y07):Fu Y2q Y07:=fun((x25,x23,x24),c)=>
 if(decide (x25<x24)) then(if((0:Int)≤x25) then
 if(x25<(x23.length:Int)) then
 z0s (c.2.2.1,(elt .str x23 x25.toNat))>>=fun h=>
 if(!h) then some (.inl true) else
 self (((w64 (x25+(1:Int))),(x23,x24)),c) else none else none) else
 some (.inr ())
def qe3:Fu Y2q Y07:=qu qd3
theorem qqn q:qe3 q=qd3 qe3 q:=qx q
def z0l:Fu Y2b (Bool):=fun(r,m)=>
 z11 m>>=fun b=>
 qqo (((0:Int),(b,(b.length:Int))),(r,m))>>=fun r1=>
 Sum.elim (fun r2=>some r2) (fun r2=>qe3 (((0:Int),(r2.2.2.2.2,(r2.2.2.2.2.length:Int))),r2.1)>>=fun r3=>
 Sum.elim (fun r4=>some r4) (fun r4=>some false) r3) r1
def qir(self:Fu Y2r (Bool⊕Y26)):Fu Y2r (Bool⊕Y26):=fun((x41,all1,x39,x40),c)=>
 if(decide (x41<x40)) then(if((0:Int)≤x41) then
 if(x41<(x39.length:Int)) then
 z13 (all1,(elt .str x39 x41.toNat))>>=fun f=>
 z0e f.1>>=fun p=>
 z0q (all1,((0:Int),((elt .str x39 x41.toNat),(1:Int))))>>=fun w=>
 if(p.2 !=(0:Int)) then some (.inl false) else
 if(w.1 !=(0:Int)) then some (.inl false) else
 z0l (c,p.1)>>=fun l=>
 if l then some (.inl false) else
 self (((w64 (x41+(1:Int))),(all1,(x39,x40))),c) else none else none) else
 some (.inr c)
def qqq:Fu Y2r (Bool⊕Y26):=qu qir
theorem qum q:qqq q=qir qqq q:=qx q
def qjd(self:Fu Y02 Y08):Fu Y02 Y08:=fun(i,s)=>
 if(decide (i<(s.length:Int))) then(if((0:Int)≤i) then
 if(i<(s.length:Int)) then
 z2m (bt s i)>>=fun s1=>
 if(!s1) then(if(decide ((bt s i)<(65:Int))) then(if((bt s i) !=(95:Int)) then(if((bt s i) !=(46:Int)) then(if((bt s i) !=(45:Int)) then some (.inl false) else
 self ((w64 (i+(1:Int))),s)) else
 self ((w64 (i+(1:Int))),s)) else
 self ((w64 (i+(1:Int))),s)) else
 if(decide ((bt s i)>(90:Int))) then(if((bt s i) !=(95:Int)) then(if((bt s i) !=(46:Int)) then(if((bt s i) !=(45:Int)) then some (.inl false) else
 self ((w64 (i+(1:Int))),s)) else
 self ((w64 (i+(1:Int))),s)) else
 self ((w64 (i+(1:Int))),s)) else
 self ((w64 (i+(1:Int))),s)) else
 self ((w64 (i+(1:Int))),s) else none else none) else
 some (.inr s)
def qrd:Fu Y02 Y08:=qu qjd
theorem qu6 q:qrd q=qjd qrd q:=qx q
def z1g:Fu Str (Bool):=fun s=>
 qrd ((0:Int),s)>>=fun r=>
 Sum.elim (fun r1=>some r1) (fun r1=>if(decide ((r1.length:Int)>(0:Int))) then(if(decide ((r1.length:Int)≤(128:Int))) then(if((0:Int)<(r1.length:Int)) then
 if((bt r1 (0:Int)) !=(46:Int)) then(if((0:Int)<(r1.length:Int)) then
 some ((bt r1 (0:Int)) !=(45:Int)) else none) else
 some false else none) else
 some false) else
 some false) r
def qd4(self:Fu Y2w Y07):Fu Y2w Y07:=fun((x76,x74,x75),c)=>
 if(decide (x76<x75)) then(if((0:Int)≤x76) then
 if(x76<(x74.length:Int)) then
 z1g (elt y00 x74 x76.toNat).1>>=fun t=>
 if(!t) then some (.inl false) else
 z0s (c.2.2.1,(elt y00 x74 x76.toNat).2)>>=fun h=>
 if(!h) then some (.inl false) else
 if(decide (x76>(0:Int))) then(if((0:Int)≤(w64 (x76-(1:Int)))) then
 if((w64 (x76-(1:Int)))<(c.2.2.2.length:Int)) then
 z0z ((elt y00 c.2.2.2 (w64 (x76-(1:Int))).toNat).1,(elt y00 x74 x76.toNat).1)>>=fun l=>
 if(!l) then some (.inl false) else
 self (((w64 (x76+(1:Int))),(x74,x75)),c) else none else none) else
 self (((w64 (x76+(1:Int))),(x74,x75)),c) else none else none) else
 some (.inr ())
def qe4:Fu Y2w Y07:=qu qd4
theorem qqp q:qe4 q=qd4 qe4 q:=qx q
def z0m:Fu (Y26×Y0g) (Bool):=fun(r,all1)=>
 z1l r.1>>=fun r1=>
 if(!r1) then some false else
 z1r (r.2.1,all1)>>=fun t=>
 if(!t) then some false else
 z1r (r.2.2.1,all1)>>=fun t1=>
 if(!t1) then some false else
 if(decide ((r.2.2.2.length:Int)>(64:Int))) then some false else
 qqq (((0:Int),(all1,(r.2.2.1,(r.2.2.1.length:Int)))),r)>>=fun r2=>
 Sum.elim (fun r3=>some r3) (fun r3=>qe4 (((0:Int),(r3.2.2.2,(r3.2.2.2.length:Int))),r3)>>=fun r4=>
 Sum.elim (fun r5=>some r5) (fun r5=>some true) r4) r2
def qjg(self:Fu Y37 Y07):Fu Y37 Y07:=fun((x18,x16,x17),c)=>
 if(decide (x18<x17)) then(if((0:Int)≤x18) then
 if(x18<(x16.length:Int)) then
 z0m ((elt y0l x16 x18.toNat),c.1.1)>>=fun m=>
 if(!m) then some (.inl false) else
 if(decide (x18>(0:Int))) then(if((0:Int)≤(w64 (x18-(1:Int)))) then
 if((w64 (x18-(1:Int)))<(c.2.length:Int)) then
 z0z ((elt y0l c.2 (w64 (x18-(1:Int))).toNat).1,(elt y0l x16 x18.toNat).1)>>=fun l=>
 if(!l) then some (.inl false) else
 self (((w64 (x18+(1:Int))),(x16,x17)),c) else none else none) else
 self (((w64 (x18+(1:Int))),(x16,x17)),c) else none else none) else
 some (.inr ())
def qrg:Fu Y37 Y07:=qu qjg
theorem qu9 q:qrg q=qjg qrg q:=qx q
def z1j:Fu Y2y (Bool):=fun g=>
 z0f g.1>>=fun r=>
 if(!r) then some false else
 if(decide ((g.2.length:Int)>(16:Int))) then some false else
 qrg (((0:Int),(g.2,(g.2.length:Int))),g)>>=fun r1=>
 Sum.elim (fun r2=>some r2) (fun r2=>some true) r1
def qjm(self:Fu (Int×(Y0g×Y0k)) Y07):Fu (Int×(Y0g×Y0k)) Y07:=fun(x13,b,a,x12)=>
 if(decide (x13<x12)) then(if((0:Int)≤x13) then
 if(x13<(a.length:Int)) then
 if((0:Int)≤x13) then
 if(x13<(b.length:Int)) then
 if(!(((elt y00 a x13.toNat).1==(elt y00 b x13.toNat).1)&&(((elt y00 a x13.toNat).2==(elt y00 b x13.toNat).2)&&true))) then some (.inl false) else
 self ((w64 (x13+(1:Int))),(b,(a,x12))) else none else none else none else none) else
 some (.inr ())
def qrl:Fu (Int×(Y0g×Y0k)) Y07:=qu qjm
theorem qvf q:qrl q=qjm qrl q:=qx q
def z1p:Fu (Y0g×Y0g) (Bool):=fun(a,b)=>
 if((a.length:Int) !=(b.length:Int)) then some false else
 qrl ((0:Int),(b,(a,(a.length:Int))))>>=fun r=>
 Sum.elim (fun r1=>some r1) (fun r1=>some true) r
def jx(self:Fu ((Int×(Str×Y00))×Y3c) Y3i):Fu ((Int×(Str×Y00))×Y3c) Y3i:=fun((i,repo,tag,d),c,c1)=>
 if(decide (i≥(0:Int))) then(if((0:Int)≤i) then
 if(i<(c1.2.length:Int)) then
 if((elt y0l c1.2 i.toNat).1==repo) then(if((0:Int)≤i) then
 if(i<(c1.2.length:Int)) then
 self (((w64 (i-(1:Int))),(repo,(tag,d))),((elt y0l c1.2 i.toNat),c1)) else none else none) else
 self (((w64 (i-(1:Int))),(repo,(tag,d))),(c,c1)) else none else none) else
 some ((tag,(repo,d)),(c,c1))
def jz:Fu ((Int×(Str×Y00))×Y3c) Y3i:=qu jx
theorem xi q:jz q=jx jz q:=qx q
def z2t:Fu Y30 Y0g:=fun(g,r)=>
 z0x (g,r)>>=fun r1=>
 if(!r1.2) then some [] else
 if((0:Int)≤r1.1) then
 if(r1.1<(g.2.length:Int)) then
 some (elt y0l g.2 r1.1.toNat).2.2.2 else none else none
def qjr(self:Fu Y1y Y0d):Fu Y1y Y0d:=fun(x14,tag,x12,x13)=>
 if(decide (x14<x13)) then(if((0:Int)≤x14) then
 if(x14<(x12.length:Int)) then
 if((elt y00 x12 x14.toNat).1==tag) then some (.inl ((elt y00 x12 x14.toNat).2,(0:Int))) else
 self ((w64 (x14+(1:Int))),(tag,(x12,x13))) else none else none) else
 some (.inr ())
def qro:Fu Y1y Y0d:=qu qjr
theorem qvk q:qro q=qjr qro q:=qx q
def z1u:Fu Y34 Y03:=fun(g,r,tag)=>
 z2t (g,r)>>=fun t=>
 qro ((0:Int),(tag,(t,(t.length:Int))))>>=fun r1=>
 Sum.elim (fun r2=>some r2) (fun r2=>some ([],(9:Int))) r1
def jo(self:Fu (Str×(Int×Y1y)) (Bool⊕Y03)):Fu (Str×(Int×Y1y)) (Bool⊕Y03):=fun(s,e,x85,tag,x83,x84)=>
 if(decide (x85<x84)) then(if((0:Int)≤x85) then
 if(x85<(x83.length:Int)) then
 if((elt y00 x83 x85.toNat).1==tag) then(if(e==(0:Int)) then some (.inl (s==(elt y00 x83 x85.toNat).2)) else
 some (.inl false)) else
 self (s,(e,((w64 (x85+(1:Int))),(tag,(x83,x84))))) else none else none) else
 some (.inr (s,e))
def q7:Fu (Str×(Int×Y1y)) (Bool⊕Y03):=qu jo
theorem wz q:q7 q=jo q7 q:=qx q
def xj:Fu (Y2y×(Str×Y00)) (Bool):=fun(g,repo,tag,d)=>
 z0a g>>=fun f=>
 jz (((w64 ((f.2.length:Int)-(1:Int))),(repo,(tag,d))),(([],([],([],[]))),f))>>=fun r=>
 z10 r.2.2>>=fun r1=>
 z1j r.2.2>>=fun r2=>
 if(!(r1==r2)) then some false else
 z3i ()>>=fun a=>
 if(!a) then some false else
 z1j r.2.2>>=fun r3=>
 if(!r3) then some true else
 z1u (r.2.2,(r.1.2.1,r.1.1))>>=fun r4=>
 z2s (r.2.2,r.1.2)>>=fun h=>
 z0s (r.2.1.2.1,r.1.2.2)>>=fun h1=>
 if h1 then(if(!(h==true)) then some false else
 z2t (r.2.2,r.1.2.1)>>=fun t=>
 z1p (t,r.2.1.2.2.2)>>=fun s=>
 if(!s) then some false else
 q7 (r4.1,(r4.2,((0:Int),(r.1.1,(r.2.1.2.2.2,(r.2.1.2.2.2.length:Int))))))>>=fun r5=>
 Sum.elim (fun r6=>some r6) (fun r6=>if(r6.2==(9:Int)) then some (r6.1==[]) else
 some false) r5) else
 z0s (r.2.1.2.2.1,r.1.2.2)>>=fun h2=>
 if(!(h==h2)) then some false else
 z2t (r.2.2,r.1.2.1)>>=fun t=>
 z1p (t,r.2.1.2.2.2)>>=fun s=>
 if(!s) then some false else
 q7 (r4.1,(r4.2,((0:Int),(r.1.1,(r.2.1.2.2.2,(r.2.1.2.2.2.length:Int))))))>>=fun r5=>
 Sum.elim (fun r6=>some r6) (fun r6=>if(r6.2==(9:Int)) then some (r6.1==[]) else
 some false) r5
end Go.Plain
