import Derived.Test.YtjmmcdbogbpedaaGreatDoorBMLib
import Derived.Test.YtjmmcdbogbpedaaGreatDoorPrn
import Derived.Test.YtjmmcdbogbpedaaGreatDoorS7P
import Derived.Test.YtjmmcdbogbpedaaGreatDoorRGPartP
import Derived.Test.YtjmmcdbogbpedaaGreatDoorTRepo
noncomputable section
namespace Go.Plain
open Go.AM
set_option linter.unusedVariables false
abbrev z1i:Y1s→Option (Y1s):=qhg
abbrev z1h:(Int×(Y1s×Y1s))→Option ((Y1s×Y1s)):=w9
abbrev z2k:Y0g→Option (Y0g):=qhg
abbrev z33:(Int×(Y0g×Y0g))→Option ((Y0g×Y0g)):=yb
abbrev z34:(Y06×Y0g)→Option (Y0g):=qaa
def qf5(self:Fu (Y0y×Y2f) Y2f):Fu (Y0y×Y2f) Y2f:=fun((x30,x28,x29),c,c1,c2,c3)=>
 if(decide (x30<x29)) then(if((0:Int)≤x30) then
 if(x30<(x28.length:Int)) then
 if(qq (c3.length+[(elt y02 x28 x30.toNat)].length) 24) then
 self (((w64 (x30+(1:Int))),(x28,x29)),(c,(c1,(c2,(c3++[(elt y02 x28 x30.toNat)]))))) else none else none else none) else
 some (c,(c1,(c2,c3)))
def qmi:Fu (Y0y×Y2f) Y2f:=kc qf5
theorem qpm q:qmi q=qf5 qmi q:=ko q
def qcj(self:Fu (Y16×Y2g) Y2g):Fu (Y16×Y2g) Y2g:=fun((x53,x51,x52),c,c1,c2,c3,c4)=>
 if(decide (x53<x52)) then(if((0:Int)≤x53) then
 if(x53<(x51.length:Int)) then
 if((0:Int)≤(min ((elt y00 x51 x53.toNat).2.length:Int) (1200:Int))) then
 if((min ((elt y00 x51 x53.toNat).2.length:Int) (1200:Int))≤((elt y00 x51 x53.toNat).2.length:Int)) then
 if(qq (c3.length+[((elt y00 x51 x53.toNat).1,(List.take (min ((elt y00 x51 x53.toNat).2.length:Int) (1200:Int)).toNat (elt y00 x51 x53.toNat).2))].length) 32) then
 self (((w64 (x53+(1:Int))),(x51,x52)),(c,(c1,(c2,((c3++[((elt y00 x51 x53.toNat).1,(List.take (min ((elt y00 x51 x53.toNat).2.length:Int) (1200:Int)).toNat (elt y00 x51 x53.toNat).2))]),c4))))) else none else none else none else none else none) else
 some (c,(c1,(c2,(c3,c4))))
def qf3:Fu (Y16×Y2g) Y2g:=kc qcj
theorem qmg q:qf3 q=qcj qf3 q:=ko q
def qck(self:Fu Y2j Y2i):Fu Y2j Y2i:=fun((x83,x81,x82),c,c1,c2,c3,c4)=>
 if(decide (x83<x82)) then(if((0:Int)≤x83) then
 if(x83<(x81.length:Int)) then
 if((0:Int)≤(min ((elt y0j x81 x83.toNat).2.1.length:Int) (12:Int))) then
 if((min ((elt y0j x81 x83.toNat).2.1.length:Int) (12:Int))≤((elt y0j x81 x83.toNat).2.1.length:Int)) then
 if((0:Int)≤(min ((elt y0j x81 x83.toNat).2.2.1.length:Int) (8:Int))) then
 if((min ((elt y0j x81 x83.toNat).2.2.1.length:Int) (8:Int))≤((elt y0j x81 x83.toNat).2.2.1.length:Int)) then
 if((0:Int)≤(min ((elt y0j x81 x83.toNat).2.2.2.length:Int) (66:Int))) then
 if((min ((elt y0j x81 x83.toNat).2.2.2.length:Int) (66:Int))≤((elt y0j x81 x83.toNat).2.2.2.length:Int)) then
 if(qq (c4.length+[((elt y0j x81 x83.toNat).1,((List.take (min ((elt y0j x81 x83.toNat).2.1.length:Int) (12:Int)).toNat (elt y0j x81 x83.toNat).2.1),((List.take (min ((elt y0j x81 x83.toNat).2.2.1.length:Int) (8:Int)).toNat (elt y0j x81 x83.toNat).2.2.1),(List.take (min ((elt y0j x81 x83.toNat).2.2.2.length:Int) (66:Int)).toNat (elt y0j x81 x83.toNat).2.2.2))))].length) 88) then
 self (((w64 (x83+(1:Int))),(x81,x82)),(c,(c1,(c2,(c3,(c4++[((elt y0j x81 x83.toNat).1,((List.take (min ((elt y0j x81 x83.toNat).2.1.length:Int) (12:Int)).toNat (elt y0j x81 x83.toNat).2.1),((List.take (min ((elt y0j x81 x83.toNat).2.2.1.length:Int) (8:Int)).toNat (elt y0j x81 x83.toNat).2.2.1),(List.take (min ((elt y0j x81 x83.toNat).2.2.2.length:Int) (66:Int)).toNat (elt y0j x81 x83.toNat).2.2.2))))])))))) else none else none else none else none else none else none else none else none else none) else
 some (c1,(c,(c2,(c3,c4))))
def qf4:Fu Y2j Y2i:=kc qck
theorem qmh q:qf4 q=qck qf4 q:=ko q
def z05:Fu Y21 Y21:=fun g=>
 if((0:Int)≤(min (g.1.2.2.1.length:Int) (3:Int))) then
 if((min (g.1.2.2.1.length:Int) (3:Int))≤(g.1.2.2.1.length:Int)) then
 qmi (((0:Int),((List.take (min (g.1.2.2.1.length:Int) (3:Int)).toNat g.1.2.2.1),((List.take (min (g.1.2.2.1.length:Int) (3:Int)).toNat g.1.2.2.1).length:Int))),((g.1.2.1,g.1.2.2.2),(((0:Int),(0:Int)),(g,[]))))>>=fun r=>
 if((0:Int)≤(min (r.2.2.1.1.1.length:Int) (20:Int))) then
 if((min (r.2.2.1.1.1.length:Int) (20:Int))≤(r.2.2.1.1.1.length:Int)) then
 qf3 (((0:Int),((List.take (min (r.2.2.1.1.1.length:Int) (20:Int)).toNat r.2.2.1.1.1),((List.take (min (r.2.2.1.1.1.length:Int) (20:Int)).toNat r.2.2.1.1.1).length:Int))),(r.1,(r.2.1,(r.2.2.1,([],r.2.2.2)))))>>=fun r1=>
 if((0:Int)≤(min (r1.2.2.1.2.length:Int) (18:Int))) then
 if((min (r1.2.2.1.2.length:Int) (18:Int))≤(r1.2.2.1.2.length:Int)) then
 qf4 (((0:Int),((List.take (min (r1.2.2.1.2.length:Int) (18:Int)).toNat r1.2.2.1.2),((List.take (min (r1.2.2.1.2.length:Int) (18:Int)).toNat r1.2.2.1.2).length:Int))),(r1.1,(r1.2.1,(r1.2.2.2.1,(r1.2.2.2.2,[])))))>>=fun r2=>
 some ((r2.2.2.1,(r2.2.1.1,(r2.2.2.2.1,r2.2.1.2))),r2.2.2.2.2) else none else none else none else none else none else none
def qgn(self:Fu (Int×(Y01×Y04)) Y0b):Fu (Int×(Y01×Y04)) Y0b:=fun(x7,l,x5,x6)=>
 if(decide (x7<x6)) then(if((0:Int)≤x7) then
 if(x7<(x5.length:Int)) then
 if((0:Int)≤x7) then
 if(x7≤(l.length:Int)) then
 z0f ((List.take x7.toNat l),(elt .str x5 x7.toNat))>>=fun s=>
 if s then some (.inl false) else
 self ((w64 (x7+(1:Int))),(l,(x5,x6))) else none else none else none else none) else
 some (.inr ())
def qm1:Fu (Int×(Y01×Y04)) Y0b:=kc qgn
theorem qp1 q:qm1 q=qgn qm1 q:=ko q
def z0w:Fu Y01 (Bool):=fun l=>
 qm1 ((0:Int),(l,(l,(l.length:Int))))>>=fun r=>
 Sum.elim (fun r1=>some r1) (fun r1=>some true) r
def qf1(self:Fu Y1w (Y1y⊕(Y0g×Y1j))):Fu Y1w (Y1y⊕(Y0g×Y1j)):=fun((x59,l,x57,x58),c)=>
 if(decide (x59<x58)) then(if((0:Int)≤x59) then
 if(x59<(x57.length:Int)) then
 z0n (l,(elt .str x57 x59.toNat))>>=fun f=>
 if(f.2 !=(0:Int)) then some (.inl (false,c)) else
 self (((w64 (x59+(1:Int))),(l,(x57,x58))),c) else none else none) else
 some (.inr (l,c))
def qmd:Fu Y1w (Y1y⊕(Y0g×Y1j)):=kc qf1
theorem qpk q:qmd q=qf1 qmd q:=ko q
def z2s:Fu (Str×Y1j) Y1y:=fun(d,c)=>
 z0f (c.2.1,d)>>=fun s=>
 some ((!s),c)
def qgs(self:Fu Y1v Y1x):Fu Y1v Y1x:=fun((x8,s,x7),c)=>
 if(decide (x8<x7)) then(if((0:Int)≤x8) then
 if(x8<(s.length:Int)) then
 z2s ((elt .str s x8.toNat),c)>>=fun z=>
 if z.1 then some (.inl (x8,z.2)) else
 self (((w64 (x8+(1:Int))),(s,x7)),z.2) else none else none) else
 some (.inr c)
def qm5:Fu Y1v Y1x:=kc qgs
theorem qp6 q:qm5 q=qgs qm5 q:=ko q
def z11:Fu (Y01×Y1j) (Int×Y1j):=fun(s,c)=>
 qm5 (((0:Int),(s,(s.length:Int))),c)>>=fun r=>
 Sum.elim (fun r1=>some r1) (fun r1=>some ((-1:Int),r1)) r
def z2i:Fu (Y01×Y1j) Y1y:=fun(s,c)=>
 z11 (s,c)>>=fun m=>
 some ((decide (m.1≥(0:Int))),m.2)
def z2t:Fu (Str×Y1j) Y1y:=fun(d,c)=>
 z0f (c.2.2.1,d)>>=fun s=>
 some ((!s),c)
def qgt(self:Fu Y1v Y1x):Fu Y1v Y1x:=fun((x8,s,x7),c)=>
 if(decide (x8<x7)) then(if((0:Int)≤x8) then
 if(x8<(s.length:Int)) then
 z2t ((elt .str s x8.toNat),c)>>=fun z=>
 if z.1 then some (.inl (x8,z.2)) else
 self (((w64 (x8+(1:Int))),(s,x7)),z.2) else none else none) else
 some (.inr c)
def qm6:Fu Y1v Y1x:=kc qgt
theorem qp7 q:qm6 q=qgt qm6 q:=ko q
def z12:Fu (Y01×Y1j) (Int×Y1j):=fun(s,c)=>
 qm6 (((0:Int),(s,(s.length:Int))),c)>>=fun r=>
 Sum.elim (fun r1=>some r1) (fun r1=>some ((-1:Int),r1)) r
def z2j:Fu (Y01×Y1j) Y1y:=fun(s,c)=>
 z12 (s,c)>>=fun s1=>
 some ((decide (s1.1≥(0:Int))),s1.2)
def z1y:Fu (Y1d×Y1j) Y1y:=fun(m,c)=>
 z0k m>>=fun b=>
 z2i (b,c)>>=fun m1=>
 if m1.1 then some (true,m1.2) else
 z2j (m.2.2.2,m1.2)>>=fun s=>
 some s
def qcf(self:Fu Y1w Y1u):Fu Y1w Y1u:=fun((x78,l,x76,x77),c)=>
 if(decide (x78<x77)) then(if((0:Int)≤x78) then
 if(x78<(x76.length:Int)) then
 z0n (l,(elt .str x76 x78.toNat))>>=fun f=>
 z1e f.1>>=fun p=>
 z26 (l,(elt .str x76 x78.toNat))>>=fun o=>
 if(o.2 !=(0:Int)) then some (.inl (false,c)) else
 if(p.2 !=(0:Int)) then some (.inl (false,c)) else
 z1y (p.1,c)>>=fun l1=>
 if l1.1 then some (.inl (false,l1.2)) else
 self (((w64 (x78+(1:Int))),(l,(x76,x77))),l1.2) else none else none) else
 some (.inr c)
def qdd:Fu Y1w Y1u:=kc qcf
theorem qmb q:qdd q=qcf qdd q:=ko q
def qgg(self:Fu Y0v (Bool⊕Str)):Fu Y0v (Bool⊕Str):=fun(x7,s,x6)=>
 if(decide (x7<x6)) then(if((0:Int)≤x7) then
 if(x7<(s.length:Int)) then
 z27 (bt s x7)>>=fun s1=>
 if s1 then(self ((w64 (x7+(1:Int))),(s,x6))) else
 if(decide ((bt s x7)≥(65:Int))) then(if(decide ((bt s x7)≤(90:Int))) then(self ((w64 (x7+(1:Int))),(s,x6))) else
 if((bt s x7)==(95:Int)) then(self ((w64 (x7+(1:Int))),(s,x6))) else
 if(decide (x7>(0:Int))) then(if((bt s x7)==(46:Int)) then(self ((w64 (x7+(1:Int))),(s,x6))) else
 if((bt s x7)==(45:Int)) then(self ((w64 (x7+(1:Int))),(s,x6))) else
 some (.inl false)) else
 some (.inl false)) else
 if((bt s x7)==(95:Int)) then(self ((w64 (x7+(1:Int))),(s,x6))) else
 if(decide (x7>(0:Int))) then(if((bt s x7)==(46:Int)) then(self ((w64 (x7+(1:Int))),(s,x6))) else
 if((bt s x7)==(45:Int)) then(self ((w64 (x7+(1:Int))),(s,x6))) else
 some (.inl false)) else
 some (.inl false) else none else none) else
 some (.inr s)
def qmt:Fu Y0v (Bool⊕Str):=kc qgg
theorem qpu q:qmt q=qgg qmt q:=ko q
def z0j:Fu Str (Bool):=fun s=>
 qmt ((0:Int),(s,(s.length:Int)))>>=fun r=>
 Sum.elim (fun r1=>some r1) (fun r1=>if(r1 !=[]) then some (decide ((r1.length:Int)≤(128:Int))) else
 some false) r
def qcg(self:Fu (Y16×Y1j) Y1u):Fu (Y16×Y1j) Y1u:=fun((x117,x115,x116),c)=>
 if(decide (x117<x116)) then(if((0:Int)≤x117) then
 if(x117<(x115.length:Int)) then
 z0j (elt y00 x115 x117.toNat).1>>=fun t=>
 if(!t) then some (.inl (false,c)) else
 z0f (c.2.2.1,(elt y00 x115 x117.toNat).2)>>=fun s=>
 if(!s) then some (.inl (false,c)) else
 if(decide (x117>(0:Int))) then(if((0:Int)≤(w64 (x117-(1:Int)))) then
 if((w64 (x117-(1:Int)))<(c.2.2.2.length:Int)) then
 if(!(Op.bytesLess (elt y00 c.2.2.2 (w64 (x117-(1:Int))).toNat).1 (elt y00 x115 x117.toNat).1)) then some (.inl (false,c)) else
 self (((w64 (x117+(1:Int))),(x115,x116)),c) else none else none) else
 self (((w64 (x117+(1:Int))),(x115,x116)),c) else none else none) else
 some (.inr c)
def qde:Fu (Y16×Y1j) Y1u:=kc qcg
theorem qmc q:qde q=qcg qde q:=ko q
def z03:Fu (Y0g×Y1j) Y1y:=fun(l,c)=>
 qz c.1>>=fun n=>
 if(!n) then some (false,c) else
 z0w c.2.1>>=fun u=>
 if(!u) then some (false,c) else
 z0w c.2.2.1>>=fun u1=>
 if(!u1) then some (false,c) else
 if(decide ((c.2.2.2.length:Int)>(64:Int))) then some (false,c) else
 qmd (((0:Int),(l,(c.2.1,(c.2.1.length:Int)))),c)>>=fun r=>
 Sum.elim (fun r1=>some r1) (fun r1=>qdd (((0:Int),(r1.1,(r1.2.2.2.1,(r1.2.2.2.1.length:Int)))),r1.2)>>=fun r2=>
 Sum.elim (fun r3=>some r3) (fun r3=>qde (((0:Int),(r3.2.2.2,(r3.2.2.2.length:Int))),r3)>>=fun r4=>
 Sum.elim (fun r5=>some r5) (fun r5=>some (true,r5)) r4) r2) r
def qge(self:Fu Y2d (Bool⊕Y21)):Fu Y2d (Bool⊕Y21):=fun((x9,x7,x8),c)=>
 if(decide (x9<x8)) then(if((0:Int)≤x9) then
 if(x9<(x7.length:Int)) then
 z03 (c.1.1,(elt y0j x7 x9.toNat))>>=fun m=>
 if(!m.1) then some (.inl false) else
 if(decide (x9>(0:Int))) then(if((0:Int)≤(w64 (x9-(1:Int)))) then
 if((w64 (x9-(1:Int)))<(c.2.length:Int)) then
 if(!(Op.bytesLess (elt y0j c.2 (w64 (x9-(1:Int))).toNat).1 (elt y0j x7 x9.toNat).1)) then some (.inl false) else
 self (((w64 (x9+(1:Int))),(x7,x8)),c) else none else none) else
 self (((w64 (x9+(1:Int))),(x7,x8)),c) else none else none) else
 some (.inr c)
def qmq:Fu Y2d (Bool⊕Y21):=kc qge
theorem qps q:qmq q=qge qmq q:=ko q
def z2z:Fu Y0f (Bool×Str):=fun(o,c)=>
 some ((o.1==c),c)
def qgr(self:Fu Y14 Y08):Fu Y14 Y08:=fun((x8,s,x7),c)=>
 if(decide (x8<x7)) then(if((0:Int)≤x8) then
 if(x8<(s.length:Int)) then
 z2z ((elt y00 s x8.toNat),c)>>=fun d=>
 if d.1 then some (.inl (x8,d.2)) else
 self (((w64 (x8+(1:Int))),(s,x7)),d.2) else none else none) else
 some (.inr c)
def qm4:Fu Y14 Y08:=kc qgr
theorem qp5 q:qm4 q=qgr qm4 q:=ko q
def z10:Fu Y0p Y02:=fun(s,c)=>
 qm4 (((0:Int),(s,(s.length:Int))),c)>>=fun r=>
 Sum.elim (fun r1=>some r1) (fun r1=>some ((-1:Int),r1)) r
def z2r:Fu Y0p Y02:=fun(l,c)=>
 z10 (l,c)>>=fun e=>
 some e
def z1j:Fu (Y1b×Str) (Int):=fun(b,d)=>
 z2r (b.1,d)>>=fun e=>
 some e.1
def qf8(self:Fu (Y16×Y1b) Y1o):Fu (Y16×Y1b) Y1o:=fun((x10,x8,x9),c)=>
 if(decide (x10<x9)) then(if((0:Int)≤x10) then
 if(x10<(x8.length:Int)) then
 if(decide (((elt y00 x8 x10.toNat).2.length:Int)>(4096:Int))) then some (.inl false) else
 z25 (elt y00 x8 x10.toNat)>>=fun f=>
 if(f !=(0:Int)) then some (.inl false) else
 z1j (c,(elt y00 x8 x10.toNat).1)>>=fun o=>
 if(o !=x10) then some (.inl false) else
 self (((w64 (x10+(1:Int))),(x8,x9)),c) else none else none) else
 some (.inr c)
def qml:Fu (Y16×Y1b) Y1o:=kc qf8
theorem qpn q:qml q=qf8 qml q:=ko q
def qcn(self:Fu (Y0y×Y1b) Y1o):Fu (Y0y×Y1b) Y1o:=fun((x39,x37,x38),c)=>
 if(decide (x39<x38)) then(if((0:Int)≤x39) then
 if(x39<(x37.length:Int)) then
 if(decide (((elt y02 x37 x39.toNat).2.length:Int)>(4096:Int))) then some (.inl false) else
 if(decide ((elt y02 x37 x39.toNat).1<(1:Int))) then some (.inl false) else
 if(decide ((elt y02 x37 x39.toNat).1>c.2.2.2)) then some (.inl false) else
 if(decide (x39>(0:Int))) then(if((0:Int)≤(w64 (x39-(1:Int)))) then
 if((w64 (x39-(1:Int)))<(c.2.2.1.length:Int)) then
 if(decide ((elt y02 c.2.2.1 (w64 (x39-(1:Int))).toNat).1≥(elt y02 x37 x39.toNat).1)) then some (.inl false) else
 self (((w64 (x39+(1:Int))),(x37,x38)),c) else none else none) else
 self (((w64 (x39+(1:Int))),(x37,x38)),c) else none else none) else
 some (.inr c)
def qdg:Fu (Y0y×Y1b) Y1o:=kc qcn
theorem qmk q:qdg q=qcn qdg q:=ko q
def qgk(self:Fu (Int×Y16) (Int)):Fu (Int×Y16) (Int):=fun(x9,n,x7,x8)=>
 if(decide (x9<x8)) then(if((0:Int)≤x9) then
 if(x9<(x7.length:Int)) then
 self ((w64 (x9+(1:Int))),((w64 (n+((elt y00 x7 x9.toNat).2.length:Int))),(x7,x8))) else none else none) else
 some n
def qmy:Fu (Int×Y16) (Int):=kc qgk
theorem qpy q:qmy q=qgk qmy q:=ko q
def z0s:Fu Y1b (Int):=fun b=>
 qmy ((0:Int),((0:Int),(b.1,(b.1.length:Int))))>>=fun r=>
 some r
def z08:Fu Y1b (Bool):=fun b=>
 qml (((0:Int),(b.1,(b.1.length:Int))),b)>>=fun r=>
 Sum.elim (fun r1=>some r1) (fun r1=>qdg (((0:Int),(r1.2.2.1,(r1.2.2.1.length:Int))),r1)>>=fun r2=>
 Sum.elim (fun r3=>some r3) (fun r3=>if(decide ((r3.1.length:Int)≤(64:Int))) then(if(decide ((r3.2.2.1.length:Int)≤(16:Int))) then(if(decide (r3.2.2.2≥(0:Int))) then(if(decide (r3.2.2.2≤(1099511627776:Int))) then(if(decide (r3.2.1≥(0:Int))) then(if(decide (r3.2.1≤(1048576:Int))) then(z0s r3>>=fun u=>
 some (decide (u≤r3.2.1))) else
 some false) else
 some false) else
 some false) else
 some false) else
 some false) else
 some false) r2) r
def z0e:Fu Y21 (Bool):=fun g=>
 qmq (((0:Int),(g.2,(g.2.length:Int))),g)>>=fun r=>
 Sum.elim (fun r1=>some r1) (fun r1=>if(decide ((r1.2.length:Int)≤(16:Int))) then(z08 r1.1>>=fun r2=>
 some r2) else
 some false) r
def qga(self:Fu ((Str×(Int×Y1t))×Y21) Y2c):Fu ((Str×(Int×Y1t))×Y21) Y2c:=fun((s,x11,x9,x10),c)=>
 if(decide (x11<x10)) then(if((0:Int)≤x11) then
 if(x11<(x9.length:Int)) then
 if(!(Op.bytesLess (elt y0j x9 x11.toNat).1 s)) then some (.inl (x11,((elt y0j x9 x11.toNat).1==s))) else
 self ((s,((w64 (x11+(1:Int))),(x9,x10))),c) else none else none) else
 some (.inr c)
def qmm:Fu ((Str×(Int×Y1t))×Y21) Y2c:=kc qga
theorem qpp q:qmm q=qga qmm q:=ko q
def z0b:Fu Y23 (Int×Bool):=fun(g,s)=>
 qmm ((s,((0:Int),(g.2,(g.2.length:Int)))),g)>>=fun r=>
 Sum.elim (fun r1=>some r1) (fun r1=>some ((r1.2.length:Int),false)) r
def z1z:Fu Y0g (Y0g×Bool):=fun s=>
 if((s.length:Int)≤(s.length:Int)) then
 if((s.length:Int)≤(s.length:Int)) then
 some ((List.take (s.length:Int).toNat s),(decide ((s.length:Int)=(s.length:Int)))) else none else none
def qgo(self:Fu ((Int×(Int×(Y0g×(Str×Y03))))×Y1q) Y20):Fu ((Int×(Int×(Y0g×(Str×Y03))))×Y1q) Y20:=fun((x28,n,x26,data,d,x27),c,c1)=>
 if(decide (x28<x27)) then(if((0:Int)≤x28) then
 if(x28<(x26.length:Int)) then
 self (((w64 (x28+(1:Int))),((w64 (n+((elt y00 x26 x28.toNat).2.length:Int))),(x26,(data,(d,x27))))),(c,c1)) else none else none) else
 some ((data,(d,n)),(c,c1))
def qm2:Fu ((Int×(Int×(Y0g×(Str×Y03))))×Y1q) Y20:=kc qgo
theorem qp2 q:qm2 q=qgo qm2 q:=ko q
def z0x:Fu (Y1b×Y00) (Y1b×Int):=fun(b,d,data)=>
 z0n (b.1,d)>>=fun f=>
 if(f.2==(0:Int)) then some (b,(0:Int)) else
 qm2 (((0:Int),((data.length:Int),(b.1,(data,(d,(b.1.length:Int)))))),(([],((0:Int),([],(0:Int)))),b))>>=fun r=>
 if((r.2.2.1.length:Int)==(64:Int)) then some (r.2.2,(13:Int)) else
 if(decide (r.1.2.2>r.2.2.2.1)) then some (r.2.2,(12:Int)) else
 z1z r.2.2.1>>=fun o=>
 if(o.2=true) then
 if((o.1.length=0)∨(0<[(r.1.2.1,r.1.1)].length)) then
 if(qq (o.1.length+[(r.1.2.1,r.1.1)].length) 32) then
 some (((o.1++[(r.1.2.1,r.1.1)]),r.2.2.2),(0:Int)) else none else none else none
def z2y:Fu Y01 (Y01×Bool):=fun s=>
 if((s.length:Int)≤(s.length:Int)) then
 if((s.length:Int)≤(s.length:Int)) then
 some ((List.take (s.length:Int).toNat s),(decide ((s.length:Int)=(s.length:Int)))) else none else none
def z1q:Fu Y0d Y01:=fun(l,s)=>
 z0f (l,s)>>=fun s1=>
 if s1 then some l else
 z2y l>>=fun s2=>
 if(s2.2=true) then
 if((s2.1.length=0)∨(0<[s].length)) then
 if(qq (s2.1.length+[s].length) 16) then
 some (s2.1++[s]) else none else none else none
def z2f:Fu (Y1j×(Str×(Y21×(Str×Y1b)))) (Int×(Y1j×(Str×(Y21×(Str×Y1b))))):=fun(c,c1,c2,c3,c4)=>
 z1e c1>>=fun p=>
 if(p.2 !=(0:Int)) then some (p.2,(c,(c1,(c2,(c3,c4))))) else
 z1y (p.1,c)>>=fun l=>
 if l.1 then some ((9:Int),(l.2,(c1,(c2,(c3,c4))))) else
 z1z c2.1.1>>=fun o=>
 if(o.2=true) then
 if((o.1.length=0)∨(0<[(c3,c1)].length)) then
 if(qq (o.1.length+[(c3,c1)].length) 32) then
 z26 ((o.1++[(c3,c1)]),c3)>>=fun o1=>
 if(o1.2 !=(0:Int)) then some (o1.2,(l.2,(c1,(c2,(c3,c4))))) else
 z0x (c2.1,(c3,c1))>>=fun k=>
 if(k.2 !=(0:Int)) then some (k.2,(l.2,(c1,(c2,(c3,k.1))))) else
 z1q (l.2.2.2.1,c3)>>=fun a=>
 some ((0:Int),((l.2.1,(l.2.2.1,(a,l.2.2.2.2))),(c1,(c2,(c3,k.1))))) else none else none else none
def z2l:Fu ((Y21×Y0a)×(Str×(Y21×(Str×Y1b)))) (Y26×(Str×(Y21×(Str×Y1b)))):=fun((g,r,names),c,c1,c2,c3)=>
 z0e g>>=fun r1=>
 if(!r1) then some (((([],((0:Int),([],(0:Int)))),[]),(1:Int)),(c,(c1,(c2,c3)))) else
 qz r>>=fun n=>
 if(!n) then some (((([],((0:Int),([],(0:Int)))),[]),(5:Int)),(c,(c1,(c2,c3)))) else
 if(!names) then some (((([],((0:Int),([],(0:Int)))),[]),(5:Int)),(c,(c1,(c2,c3)))) else
 z0b (g,r)>>=fun r2=>
 if r2.2 then(if((0:Int)≤r2.1) then
 if(r2.1<(g.2.length:Int)) then
 z2f ((elt y0j g.2 r2.1.toNat),(c,(c1,(c2,c3))))>>=fun p=>
 if(p.1 !=(0:Int)) then some (((([],((0:Int),([],(0:Int)))),[]),p.1),p.2.2) else
 z1i g.2>>=fun r3=>
 if r2.2 then(if((0:Int)≤r2.1) then
 if(r2.1<(r3.length:Int)) then
 if(r2.1.toNat<r3.length) then
 some (((g.1,(List.set r3 r2.1.toNat p.2.1)),(0:Int)),p.2.2) else none else none else none) else
 if((r3.length:Int)==(16:Int)) then some (((([],((0:Int),([],(0:Int)))),[]),(13:Int)),p.2.2) else
 z1h (r2.1,(r3,[p.2.1]))>>=fun r4=>
 some (((g.1,r4.1),(0:Int)),p.2.2) else none else none) else
 z2f ((r,([],([],[]))),(c,(c1,(c2,c3))))>>=fun p=>
 if(p.1 !=(0:Int)) then some (((([],((0:Int),([],(0:Int)))),[]),p.1),p.2.2) else
 z1i g.2>>=fun r3=>
 if r2.2 then(if((0:Int)≤r2.1) then
 if(r2.1<(r3.length:Int)) then
 if(r2.1.toNat<r3.length) then
 some (((g.1,(List.set r3 r2.1.toNat p.2.1)),(0:Int)),p.2.2) else none else none else none) else
 if((r3.length:Int)==(16:Int)) then some (((([],((0:Int),([],(0:Int)))),[]),(13:Int)),p.2.2) else
 z1h (r2.1,(r3,[p.2.1]))>>=fun r4=>
 some (((g.1,r4.1),(0:Int)),p.2.2)
def z1c:Fu Y22 (Y21×Y03):=fun(g,r,data)=>
 z1w data>>=fun o=>
 z2l ((g,(r,true)),(data,(g,(o,([],((0:Int),([],(0:Int))))))))>>=fun c=>
 if(c.1.2 !=(0:Int)) then some ((([],((0:Int),([],(0:Int)))),[]),([],c.1.2)) else
 some ((c.2.2.2.2,c.1.1.2),(c.2.2.2.1,(0:Int)))
def z29:Fu (Y1j×Y23) (Int×(Y1j×Y23)):=fun(c,c1,c2)=>
 z0n (c1.1.1,c2)>>=fun f=>
 if(f.2 !=(0:Int)) then some ((9:Int),(c,(c1,c2))) else
 z1q (c.2.1,c2)>>=fun a=>
 some ((0:Int),((c.1,(a,c.2.2)),(c1,c2)))
def z2m:Fu ((Y21×Y0a)×Y23) (Y26×Y23):=fun((g,r,names),c,c1)=>
 z0e g>>=fun r1=>
 if(!r1) then some (((([],((0:Int),([],(0:Int)))),[]),(1:Int)),(c,c1)) else
 qz r>>=fun n=>
 if(!n) then some (((([],((0:Int),([],(0:Int)))),[]),(5:Int)),(c,c1)) else
 if(!names) then some (((([],((0:Int),([],(0:Int)))),[]),(5:Int)),(c,c1)) else
 z0b (g,r)>>=fun r2=>
 if r2.2 then(if((0:Int)≤r2.1) then
 if(r2.1<(g.2.length:Int)) then
 z29 ((elt y0j g.2 r2.1.toNat),(c,c1))>>=fun l=>
 if(l.1 !=(0:Int)) then some (((([],((0:Int),([],(0:Int)))),[]),l.1),l.2.2) else
 z1i g.2>>=fun r3=>
 if r2.2 then(if((0:Int)≤r2.1) then
 if(r2.1<(r3.length:Int)) then
 if(r2.1.toNat<r3.length) then
 some (((g.1,(List.set r3 r2.1.toNat l.2.1)),(0:Int)),l.2.2) else none else none else none) else
 if((r3.length:Int)==(16:Int)) then some (((([],((0:Int),([],(0:Int)))),[]),(13:Int)),l.2.2) else
 z1h (r2.1,(r3,[l.2.1]))>>=fun r4=>
 some (((g.1,r4.1),(0:Int)),l.2.2) else none else none) else
 z29 ((r,([],([],[]))),(c,c1))>>=fun l=>
 if(l.1 !=(0:Int)) then some (((([],((0:Int),([],(0:Int)))),[]),l.1),l.2.2) else
 z1i g.2>>=fun r3=>
 if r2.2 then(if((0:Int)≤r2.1) then
 if(r2.1<(r3.length:Int)) then
 if(r2.1.toNat<r3.length) then
 some (((g.1,(List.set r3 r2.1.toNat l.2.1)),(0:Int)),l.2.2) else none else none else none) else
 if((r3.length:Int)==(16:Int)) then some (((([],((0:Int),([],(0:Int)))),[]),(13:Int)),l.2.2) else
 z1h (r2.1,(r3,[l.2.1]))>>=fun r4=>
 some (((g.1,r4.1),(0:Int)),l.2.2)
def z15:Fu Y22 Y26:=fun(g,r,d)=>
 z2m ((g,(r,true)),(g,d))>>=fun l=>
 some l.1
def z0r:Fu Y22 (Bool):=fun(g,r,d)=>
 z0b (g,r)>>=fun r1=>
 if r1.2 then(if((0:Int)≤r1.1) then
 if(r1.1<(g.2.length:Int)) then
 z0f ((elt y0j g.2 r1.1.toNat).2.1,d)>>=fun s=>
 if s then some true else
 if((0:Int)≤r1.1) then
 if(r1.1<(g.2.length:Int)) then
 z0f ((elt y0j g.2 r1.1.toNat).2.2.1,d)>>=fun s1=>
 some s1 else none else none else none else none) else
 some false
def z1r:Fu Unit (Bool):=fun _=>
 z1w ([99]:Str)>>=fun o=>
 z1s (false,(o,([],[])))>>=fun p=>
 z1c ((([(o,([99]:Str))],((1000:Int),([],(0:Int)))),[]),(([97]:Str),p.1))>>=fun p1=>
 z15 ((([(o,([99]:Str))],((1000:Int),([],(0:Int)))),[]),(([97]:Str),o))>>=fun l=>
 z1c (l.1,(([97]:Str),p.1))>>=fun p2=>
 if(p.2==(0:Int)) then(if(p1.2.2==(9:Int)) then(if(l.2==(0:Int)) then(if(p2.2.2==(0:Int)) then(z1w p.1>>=fun o1=>
 if(p2.2.1==o1) then(z0r (p2.1,(([97]:Str),p2.2.1))>>=fun h=>
 some h) else
 some false) else
 some false) else
 some false) else
 some false) else
 some false
def qgq(self:Fu (Int×(Y0g×Y0j)) Y0b):Fu (Int×(Y0g×Y0j)) Y0b:=fun(x13,b,a,x12)=>
 if(decide (x13<x12)) then(if((0:Int)≤x13) then
 if(x13<(a.length:Int)) then
 if((0:Int)≤x13) then
 if(x13<(b.length:Int)) then
 if(!(((elt y00 a x13.toNat).1==(elt y00 b x13.toNat).1)&&(((elt y00 a x13.toNat).2==(elt y00 b x13.toNat).2)&&true))) then some (.inl false) else
 self ((w64 (x13+(1:Int))),(b,(a,x12))) else none else none else none else none) else
 some (.inr ())
def qm3:Fu (Int×(Y0g×Y0j)) Y0b:=kc qgq
theorem qp4 q:qm3 q=qgq qm3 q:=ko q
def z0z:Fu (Y0g×Y0g) (Bool):=fun(a,b)=>
 if((a.length:Int) !=(b.length:Int)) then some false else
 qm3 ((0:Int),(b,(a,(a.length:Int))))>>=fun r=>
 Sum.elim (fun r1=>some r1) (fun r1=>some true) r
def z2c:Fu (Y1j×Y22) (Int×(Y1j×Y22)):=fun(c,c1,c2,c3)=>
 z0b (c1,c2)>>=fun r=>
 if(!r.2) then some ((9:Int),(c,(c1,(c2,c3)))) else
 if((0:Int)≤r.1) then
 if(r.1<(c1.2.length:Int)) then
 z0f ((elt y0j c1.2 r.1.toNat).2.1,c3)>>=fun s=>
 if(!s) then some ((9:Int),(c,(c1,(c2,c3)))) else
 z1q (c.2.1,c3)>>=fun a=>
 some ((0:Int),((c.1,(a,c.2.2)),(c1,(c2,c3)))) else none else none
def z2v:Fu ((Y21×Y0a)×Y22) (Y26×Y22):=fun((g,r,names),c,c1,c2)=>
 z0e g>>=fun r1=>
 if(!r1) then some (((([],((0:Int),([],(0:Int)))),[]),(1:Int)),(c,(c1,c2))) else
 qz r>>=fun n=>
 if(!n) then some (((([],((0:Int),([],(0:Int)))),[]),(5:Int)),(c,(c1,c2))) else
 if(!names) then some (((([],((0:Int),([],(0:Int)))),[]),(5:Int)),(c,(c1,c2))) else
 z0b (g,r)>>=fun r2=>
 if r2.2 then(if((0:Int)≤r2.1) then
 if(r2.1<(g.2.length:Int)) then
 z2c ((elt y0j g.2 r2.1.toNat),(c,(c1,c2)))>>=fun m=>
 if(m.1 !=(0:Int)) then some (((([],((0:Int),([],(0:Int)))),[]),m.1),m.2.2) else
 z1i g.2>>=fun r3=>
 if r2.2 then(if((0:Int)≤r2.1) then
 if(r2.1<(r3.length:Int)) then
 if(r2.1.toNat<r3.length) then
 some (((g.1,(List.set r3 r2.1.toNat m.2.1)),(0:Int)),m.2.2) else none else none else none) else
 if((r3.length:Int)==(16:Int)) then some (((([],((0:Int),([],(0:Int)))),[]),(13:Int)),m.2.2) else
 z1h (r2.1,(r3,[m.2.1]))>>=fun r4=>
 some (((g.1,r4.1),(0:Int)),m.2.2) else none else none) else
 z2c ((r,([],([],[]))),(c,(c1,c2)))>>=fun m=>
 if(m.1 !=(0:Int)) then some (((([],((0:Int),([],(0:Int)))),[]),m.1),m.2.2) else
 z1i g.2>>=fun r3=>
 if r2.2 then(if((0:Int)≤r2.1) then
 if(r2.1<(r3.length:Int)) then
 if(r2.1.toNat<r3.length) then
 some (((g.1,(List.set r3 r2.1.toNat m.2.1)),(0:Int)),m.2.2) else none else none else none) else
 if((r3.length:Int)==(16:Int)) then some (((([],((0:Int),([],(0:Int)))),[]),(13:Int)),m.2.2) else
 z1h (r2.1,(r3,[m.2.1]))>>=fun r4=>
 some (((g.1,r4.1),(0:Int)),m.2.2)
def z1b:Fu (Y21×(Str×Y00)) Y26:=fun(g,r,from1,d)=>
 qz from1>>=fun n=>
 z2v ((g,(r,n)),(g,(from1,d)))>>=fun c=>
 some c.1
def z1x:Fu Y23 Y0g:=fun(g,r)=>
 z0b (g,r)>>=fun r1=>
 if(!r1.2) then some [] else
 if((0:Int)≤r1.1) then
 if(r1.1<(g.2.length:Int)) then
 some (elt y0j g.2 r1.1.toNat).2.2.2 else none else none
def qgm(self:Fu (Int×(Str×Y0j)) Y0e):Fu (Int×(Str×Y0j)) Y0e:=fun(x14,tag,x12,x13)=>
 if(decide (x14<x13)) then(if((0:Int)≤x14) then
 if(x14<(x12.length:Int)) then
 if((elt y00 x12 x14.toNat).1==tag) then some (.inl ((elt y00 x12 x14.toNat).2,(0:Int))) else
 self ((w64 (x14+(1:Int))),(tag,(x12,x13))) else none else none) else
 some (.inr ())
def qm0:Fu (Int×(Str×Y0j)) Y0e:=kc qgm
theorem qp0 q:qm0 q=qgm qm0 q:=ko q
def z0v:Fu Y22 Y03:=fun(g,r,tag)=>
 z1x (g,r)>>=fun t=>
 qm0 ((0:Int),(tag,(t,(t.length:Int))))>>=fun r1=>
 Sum.elim (fun r2=>some r2) (fun r2=>some ([],(9:Int))) r1
def z2b:Fu Y0f (Int):=fun(t,s)=>
 qbq (t.1,s)>>=fun c=>
 some c
def qdl(self:Fu (Str×(Y0g×Y0t)) (Str×Y16)):Fu (Str×(Y0g×Y0t)) (Str×Y16):=fun(target,x1,j,i,n)=>
 if(decide (i<j)) then(if((0:Int)≤(w64 (ja .u64 (IntKind.wrap .u64 (w64 (i+j))) (1:Int)))) then
 if((w64 (ja .u64 (IntKind.wrap .u64 (w64 (i+j))) (1:Int)))<(x1.length:Int)) then
 z2b ((elt y00 x1 (w64 (ja .u64 (IntKind.wrap .u64 (w64 (i+j))) (1:Int))).toNat),target)>>=fun t=>
 if(decide (t<(0:Int))) then(self (target,(x1,(j,((w64 ((w64 (ja .u64 (IntKind.wrap .u64 (w64 (i+j))) (1:Int)))+(1:Int))),n))))) else
 self (target,(x1,((w64 (ja .u64 (IntKind.wrap .u64 (w64 (i+j))) (1:Int))),(i,n)))) else none else none) else
 some (target,(i,(x1,n)))
def qmz:Fu (Str×(Y0g×Y0t)) (Str×Y16):=kc qdl
theorem qh5 q:qmz q=qdl qmz q:=ko q
def z0t:Fu Y0p (Int×Bool):=fun(x1,target)=>
 qmz (target,(x1,((x1.length:Int),((0:Int),(x1.length:Int)))))>>=fun r=>
 if(decide (r.2.1<r.2.2.2)) then(if((0:Int)≤r.2.1) then
 if(r.2.1<(r.2.2.1.length:Int)) then
 z2b ((elt y00 r.2.2.1 r.2.1.toNat),r.1)>>=fun t=>
 some (r.2.1,(t==(0:Int))) else none else none) else
 some (r.2.1,false)
def z22:Fu (Str×Y1j) ((Int×Bool)×Y1j):=fun(s,c)=>
 z0t (c.2.2.2,s)>>=fun s1=>
 some (s1,c)
def z2a:Fu (Y1j×Y00) (Int×(Y1j×Y00)):=fun(c,c1,c2)=>
 z22 (c1,c)>>=fun t=>
 z0f (t.2.2.2.1,c2)>>=fun s=>
 if(!s) then some ((9:Int),(t.2,(c1,c2))) else
 if(!t.1.2) then(if((t.2.2.2.2.length:Int)==(64:Int)) then some ((13:Int),(t.2,(c1,c2))) else
 z2k t.2.2.2.2>>=fun t1=>
 if(!t.1.2) then(z33 (t.1.1,(t1,[([],[])]))>>=fun t2=>
 if((0:Int)≤t.1.1) then
 if(t.1.1<(t2.2.length:Int)) then
 if(t.1.1.toNat<t2.2.length) then
 some ((0:Int),((t.2.1,(t.2.2.1,(t.2.2.2.1,(List.set t2.2 t.1.1.toNat (c1,c2))))),(c1,c2))) else none else none else none) else
 if((0:Int)≤t.1.1) then
 if(t.1.1<(t1.length:Int)) then
 if(t.1.1.toNat<t1.length) then
 some ((0:Int),((t.2.1,(t.2.2.1,(t.2.2.2.1,(List.set t1 t.1.1.toNat (c1,c2))))),(c1,c2))) else none else none else none) else
 z2k t.2.2.2.2>>=fun t1=>
 if(!t.1.2) then(z33 (t.1.1,(t1,[([],[])]))>>=fun t2=>
 if((0:Int)≤t.1.1) then
 if(t.1.1<(t2.2.length:Int)) then
 if(t.1.1.toNat<t2.2.length) then
 some ((0:Int),((t.2.1,(t.2.2.1,(t.2.2.2.1,(List.set t2.2 t.1.1.toNat (c1,c2))))),(c1,c2))) else none else none else none) else
 if((0:Int)≤t.1.1) then
 if(t.1.1<(t1.length:Int)) then
 if(t.1.1.toNat<t1.length) then
 some ((0:Int),((t.2.1,(t.2.2.1,(t.2.2.2.1,(List.set t1 t.1.1.toNat (c1,c2))))),(c1,c2))) else none else none else none
def z2w:Fu ((Y21×Y0a)×Y00) (Y26×Y00):=fun((g,r,names),c,c1)=>
 z0e g>>=fun r1=>
 if(!r1) then some (((([],((0:Int),([],(0:Int)))),[]),(1:Int)),(c,c1)) else
 qz r>>=fun n=>
 if(!n) then some (((([],((0:Int),([],(0:Int)))),[]),(5:Int)),(c,c1)) else
 if(!names) then some (((([],((0:Int),([],(0:Int)))),[]),(5:Int)),(c,c1)) else
 z0b (g,r)>>=fun r2=>
 if r2.2 then(if((0:Int)≤r2.1) then
 if(r2.1<(g.2.length:Int)) then
 z2a ((elt y0j g.2 r2.1.toNat),(c,c1))>>=fun w=>
 if(w.1 !=(0:Int)) then some (((([],((0:Int),([],(0:Int)))),[]),w.1),w.2.2) else
 z1i g.2>>=fun r3=>
 if r2.2 then(if((0:Int)≤r2.1) then
 if(r2.1<(r3.length:Int)) then
 if(r2.1.toNat<r3.length) then
 some (((g.1,(List.set r3 r2.1.toNat w.2.1)),(0:Int)),w.2.2) else none else none else none) else
 if((r3.length:Int)==(16:Int)) then some (((([],((0:Int),([],(0:Int)))),[]),(13:Int)),w.2.2) else
 z1h (r2.1,(r3,[w.2.1]))>>=fun r4=>
 some (((g.1,r4.1),(0:Int)),w.2.2) else none else none) else
 z2a ((r,([],([],[]))),(c,c1))>>=fun w=>
 if(w.1 !=(0:Int)) then some (((([],((0:Int),([],(0:Int)))),[]),w.1),w.2.2) else
 z1i g.2>>=fun r3=>
 if r2.2 then(if((0:Int)≤r2.1) then
 if(r2.1<(r3.length:Int)) then
 if(r2.1.toNat<r3.length) then
 some (((g.1,(List.set r3 r2.1.toNat w.2.1)),(0:Int)),w.2.2) else none else none else none) else
 if((r3.length:Int)==(16:Int)) then some (((([],((0:Int),([],(0:Int)))),[]),(13:Int)),w.2.2) else
 z1h (r2.1,(r3,[w.2.1]))>>=fun r4=>
 some (((g.1,r4.1),(0:Int)),w.2.2)
def z1g:Fu (Y21×(Str×Y00)) Y26:=fun(g,r,tag,d)=>
 z0j tag>>=fun t=>
 z2w ((g,(r,t)),(tag,d))>>=fun b=>
 some b.1
def z28:Fu (Y1j×Str) (Int×(Y1j×Str)):=fun(c,c1)=>
 z22 (c1,c)>>=fun t=>
 if(!t.1.2) then some ((9:Int),(t.2,c1)) else
 z2k t.2.2.2.2>>=fun t1=>
 z34 ((t.1.1,(w64 (t.1.1+(1:Int)))),t1)>>=fun t2=>
 some ((0:Int),((t.2.1,(t.2.2.1,(t.2.2.2.1,t2))),c1))
def z2u:Fu ((Y21×Y0a)×Str) (Y26×Str):=fun((g,r,names),c)=>
 z0e g>>=fun r1=>
 if(!r1) then some (((([],((0:Int),([],(0:Int)))),[]),(1:Int)),c) else
 qz r>>=fun n=>
 if(!n) then some (((([],((0:Int),([],(0:Int)))),[]),(5:Int)),c) else
 if(!names) then some (((([],((0:Int),([],(0:Int)))),[]),(5:Int)),c) else
 z0b (g,r)>>=fun r2=>
 if r2.2 then(if((0:Int)≤r2.1) then
 if(r2.1<(g.2.length:Int)) then
 z28 ((elt y0j g.2 r2.1.toNat),c)>>=fun u=>
 if(u.1 !=(0:Int)) then some (((([],((0:Int),([],(0:Int)))),[]),u.1),u.2.2) else
 z1i g.2>>=fun r3=>
 if r2.2 then(if((0:Int)≤r2.1) then
 if(r2.1<(r3.length:Int)) then
 if(r2.1.toNat<r3.length) then
 some (((g.1,(List.set r3 r2.1.toNat u.2.1)),(0:Int)),u.2.2) else none else none else none) else
 if((r3.length:Int)==(16:Int)) then some (((([],((0:Int),([],(0:Int)))),[]),(13:Int)),u.2.2) else
 z1h (r2.1,(r3,[u.2.1]))>>=fun r4=>
 some (((g.1,r4.1),(0:Int)),u.2.2) else none else none) else
 z28 ((r,([],([],[]))),c)>>=fun u=>
 if(u.1 !=(0:Int)) then some (((([],((0:Int),([],(0:Int)))),[]),u.1),u.2.2) else
 z1i g.2>>=fun r3=>
 if r2.2 then(if((0:Int)≤r2.1) then
 if(r2.1<(r3.length:Int)) then
 if(r2.1.toNat<r3.length) then
 some (((g.1,(List.set r3 r2.1.toNat u.2.1)),(0:Int)),u.2.2) else none else none else none) else
 if((r3.length:Int)==(16:Int)) then some (((([],((0:Int),([],(0:Int)))),[]),(13:Int)),u.2.2) else
 z1h (r2.1,(r3,[u.2.1]))>>=fun r4=>
 some (((g.1,r4.1),(0:Int)),u.2.2)
def z1d:Fu Y22 Y26:=fun(g,r,tag)=>
 z0j tag>>=fun t=>
 z2u ((g,(r,t)),tag)>>=fun c=>
 some c.1
def wq:Fu (Y21×(Str×(Str×Y00))) (Bool):=fun(g,repo,other,tag,d)=>
 z05 g>>=fun f=>
 z0e f>>=fun r=>
 if(!r) then(z1r ()>>=fun a=>
 some a) else
 if(repo==other) then(z1r ()>>=fun a=>
 some a) else
 z1g (f,(repo,(tag,d)))>>=fun n=>
 if(n.2==(0:Int)) then(z0v (n.1,(repo,tag))>>=fun r1=>
 z1d (n.1,(repo,tag))>>=fun u=>
 z0v (u.1,(repo,tag))>>=fun r2=>
 if(r1.2 !=(0:Int)) then some false else
 if(r1.1 !=d) then some false else
 if(u.2 !=(0:Int)) then some false else
 if(r2.2 !=(9:Int)) then some false else
 z1x (n.1,other)>>=fun t=>
 z1x (f,other)>>=fun t1=>
 z0z (t,t1)>>=fun s=>
 if(!s) then some false else
 z15 (f,(repo,d))>>=fun l=>
 if(l.2==(0:Int)) then(z0r (l.1,(repo,d))>>=fun h=>
 if(!h) then some false else
 z0r (l.1,(other,d))>>=fun h1=>
 z0r (f,(other,d))>>=fun h2=>
 if(!(h1==h2)) then some false else
 z1b (f,(repo,(other,d)))>>=fun m=>
 z1r ()>>=fun a=>
 if a then(if(m.2 !=(0:Int)) then some true else
 z0r (m.1,(repo,d))>>=fun h3=>
 if h3 then(z0r (f,(other,d))>>=fun h4=>
 if h4 then some (l.2==(0:Int)) else
 some false) else
 some false) else
 some false) else
 z1b (f,(repo,(other,d)))>>=fun m=>
 z1r ()>>=fun a=>
 if a then(if(m.2 !=(0:Int)) then some true else
 z0r (m.1,(repo,d))>>=fun h=>
 if h then(z0r (f,(other,d))>>=fun h1=>
 if h1 then some (l.2==(0:Int)) else
 some false) else
 some false) else
 some false) else
 z15 (f,(repo,d))>>=fun l=>
 if(l.2==(0:Int)) then(z0r (l.1,(repo,d))>>=fun h=>
 if(!h) then some false else
 z0r (l.1,(other,d))>>=fun h1=>
 z0r (f,(other,d))>>=fun h2=>
 if(!(h1==h2)) then some false else
 z1b (f,(repo,(other,d)))>>=fun m=>
 z1r ()>>=fun a=>
 if a then(if(m.2 !=(0:Int)) then some true else
 z0r (m.1,(repo,d))>>=fun h3=>
 if h3 then(z0r (f,(other,d))>>=fun h4=>
 if h4 then some (l.2==(0:Int)) else
 some false) else
 some false) else
 some false) else
 z1b (f,(repo,(other,d)))>>=fun m=>
 z1r ()>>=fun a=>
 if a then(if(m.2 !=(0:Int)) then some true else
 z0r (m.1,(repo,d))>>=fun h=>
 if h then(z0r (f,(other,d))>>=fun h1=>
 if h1 then some (l.2==(0:Int)) else
 some false) else
 some false) else
 some false
end Go.Plain
