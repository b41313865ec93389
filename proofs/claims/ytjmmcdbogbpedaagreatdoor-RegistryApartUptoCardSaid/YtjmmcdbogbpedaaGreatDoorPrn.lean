import Derived.Test.YtjmmcdbogbpedaaGreatDoorBMLib
noncomputable section
namespace Go.Plain
def ku:List Int:=[1116352408,1899447441,3049323471,3921009573,961987163,1508970993,2453635748,2870763221,3624381080,310598401,607225278,1426881987,1925078388,2162078206,2614888103,3248222580,3835390401,4022224774,264347078,604807628,770255983,1249150122,1555081692,1996064986,2554220882,2821834349,2952996808,3210313671,3336571891,3584528711,113926993,338241895,666307205,773529912,1294757372,1396182291,1695183700,1986661051,2177026350,2456956037,2730485921,2820302411,3259730800,3345764771,3516065817,3600352804,4094571909,275423344,430227734,506948616,659060556,883997877,958139571,1322822218,1537002063,1747873779,1955562222,2024104815,2227730452,2361852424,2428436474,2756734187,3204031479,3329325298]
end Go.Plain
namespace Go.Plain
open Go.AM
set_option linter.unusedVariables false
def z1n:Fu Str (Str⊕Y02):=fun c=>
 if(c==[]) then some (.inl c) else
 if((0:Int)<(c.length:Int)) then
 some (.inr ((bt c (0:Int)),c)) else none
def z1k:Fu Y02 (Str⊕Str):=fun(c,c1)=>
 z1n c1>>=fun e=>
 Sum.elim (fun e1=>some (.inl e1)) (fun e1=>if(e1.1 !=c) then some (.inl e1.2) else
 if((1:Int)≤(e1.2.length:Int)) then
 if((e1.2.length:Int)≤(e1.2.length:Int)) then
 some (.inr (List.drop 1 (List.take (e1.2.length:Int).toNat e1.2))) else none else none) e
def z1p:Fu Str (Str⊕Y00):=fun c=>
 z1k ((34:Int),c)>>=fun y=>
 Sum.elim (fun y1=>some (.inl y1)) (fun y1=>qfa (y1,([34]:Str))>>=fun c1=>
 if(!c1.2.2) then some (.inl y1) else
 some (.inr (c1.1,c1.2.1))) y
def qgl(self:Fu (Y0v×(Str×(GVal×GVal))) (Str×(GVal×GVal))):Fu (Y0v×(Str×(GVal×GVal))) (Str×(GVal×GVal)):=fun((x53,w,x52),c,c1,c2)=>
 if(decide (x53<x52)) then(if((0:Int)≤x53) then
 if(x53<(w.length:Int)) then
 self (((w64 (x53+(1:Int))),(w,x52)),(c,((GVal.mk c1.kind (w64 ((w64 ((10:Int)*c1.n))+(w64 (IntKind.wrap .u8 ((bt w x53)-(48:Int)))))) c1.s c1.items c1.names),c2.re))) else none else none) else
 some (c,(c2.re,c1.re))
def qh6:Fu (Y0v×(Str×(GVal×GVal))) (Str×(GVal×GVal)):=kc qgl
theorem qpz q:qh6 q=qgl qh6 q:=ko q
def z0u:Fu Str (Str⊕(GVal×Str)):=fun c=>
 xk (c,([48,49,50,51,52,53,54,55,56,57]:Str))>>=fun t=>
 if((0:Int)≤(w64 ((c.length:Int)-(t.length:Int)))) then
 if((w64 ((c.length:Int)-(t.length:Int)))≤(c.length:Int)) then
 if((0:Int)≤(w64 ((c.length:Int)-(t.length:Int)))) then
 if((w64 ((c.length:Int)-(t.length:Int)))≤(c.length:Int)) then
 if((c.length:Int)≤(c.length:Int)) then
 if((w64 ((c.length:Int)-(t.length:Int)))==(0:Int)) then some (.inl (List.drop (w64 ((c.length:Int)-(t.length:Int))).toNat (List.take (c.length:Int).toNat c))) else
 if(decide ((w64 ((c.length:Int)-(t.length:Int)))>(13:Int))) then some (.inl (List.drop (w64 ((c.length:Int)-(t.length:Int))).toNat (List.take (c.length:Int).toNat c))) else
 if(decide ((w64 ((c.length:Int)-(t.length:Int)))>(1:Int))) then(if((0:Int)<((List.take (w64 ((c.length:Int)-(t.length:Int))).toNat c).length:Int)) then
 if((bt (List.take (w64 ((c.length:Int)-(t.length:Int))).toNat c) (0:Int))==(48:Int)) then some (.inl (List.drop (w64 ((c.length:Int)-(t.length:Int))).toNat (List.take (c.length:Int).toNat c))) else
 qh6 (((0:Int),((List.take (w64 ((c.length:Int)-(t.length:Int))).toNat c),(w64 ((c.length:Int)-(t.length:Int))))),((List.drop (w64 ((c.length:Int)-(t.length:Int))).toNat (List.take (c.length:Int).toNat c)),((GVal.mk (1:Int) (0:Int) [] [] []),(GVal.mk (0:Int) (0:Int) [] [] []))))>>=fun r=>
 some (.inr (r.2.2.re,r.1)) else none) else
 qh6 (((0:Int),((List.take (w64 ((c.length:Int)-(t.length:Int))).toNat c),(w64 ((c.length:Int)-(t.length:Int))))),((List.drop (w64 ((c.length:Int)-(t.length:Int))).toNat (List.take (c.length:Int).toNat c)),((GVal.mk (1:Int) (0:Int) [] [] []),(GVal.mk (0:Int) (0:Int) [] [] []))))>>=fun r=>
 some (.inr (r.2.2.re,r.1)) else none else none else none else none else none
abbrev qmj:=Y02⊕Y15⊕(Y06×(Str×(Y0s×(GVal×((List GVal)×Y01)))))
abbrev qf6:qmj→Type
 |(.inl _)=>Str⊕(GVal×Str)
 |(.inr (.inl _))=>Str⊕(GVal×Str)
 |(.inr (.inr _))=>Str⊕(Int×(Str×(GVal×(Y0s×((List GVal)×Y01)))))
def q5y(z06:Y02→Option (Str⊕(GVal×Str)))(z09:Y15→Option (Str⊕(GVal×Str)))(kr:(Y06×(Str×(Y0s×(GVal×((List GVal)×Y01)))))→Option (Str⊕(Int×(Str×(GVal×(Y0s×((List GVal)×Y01))))))):Y02→Option (Str⊕(GVal×Str)):=fun(deep,c)=>
 if(deep==(0:Int)) then some (.inl c) else
 z1n c>>=fun e=>
 Sum.elim (fun e1=>some (.inl e1)) (fun e1=>if(e1.1==(34:Int)) then(z1p e1.2>>=fun e2=>
 Sum.elim (fun e3=>some (.inl e3)) (fun e3=>some (.inr ((GVal.mk (2:Int) (0:Int) e3.1 [] []),e3.2))) e2) else
 if(e1.1==(91:Int)) then(z09 ((((3:Int),((0:Int),[])),((93:Int),deep)),e1.2)>>=fun t=>
 Sum.elim (fun t1=>some (.inl t1)) (fun t1=>some (.inr (t1.1.re,t1.2))) t) else
 if(e1.1==(123:Int)) then(z09 ((((4:Int),((0:Int),[])),((125:Int),deep)),e1.2)>>=fun t=>
 Sum.elim (fun t1=>some (.inl t1)) (fun t1=>some (.inr (t1.1.re,t1.2))) t) else
 z0u e1.2>>=fun e2=>
 Sum.elim (fun e3=>some (.inl e3)) (fun e3=>some (.inr (e3.1.re,e3.2))) e2) e
def q1g(z06:Y02→Option (Str⊕(GVal×Str)))(z09:Y15→Option (Str⊕(GVal×Str)))(kr:(Y06×(Str×(Y0s×(GVal×((List GVal)×Y01)))))→Option (Str⊕(Int×(Str×(GVal×(Y0s×((List GVal)×Y01))))))):Y15→Option (Str⊕(GVal×Str)):=fun((v,end1,deep),c)=>
 if((1:Int)≤(c.length:Int)) then
 if((c.length:Int)≤(c.length:Int)) then
 kr ((deep,end1),((List.drop 1 (List.take (c.length:Int).toNat c)),(v,((GVal.mk (0:Int) (0:Int) [] [] []),([],[])))))>>=fun r=>
 Sum.elim (fun r1=>some (.inl r1)) (fun r1=>z1k (r1.1,r1.2.1)>>=fun y=>
 Sum.elim (fun y1=>some (.inl y1)) (fun y1=>some (.inr ((GVal.mk r1.2.2.2.1.1 r1.2.2.2.1.2.1 r1.2.2.2.1.2.2 r1.2.2.2.2.1 r1.2.2.2.2.2),y1))) y) r else none else none
def qse(z06:Y02→Option (Str⊕(GVal×Str)))(z09:Y15→Option (Str⊕(GVal×Str)))(kr:(Y06×(Str×(Y0s×(GVal×((List GVal)×Y01)))))→Option (Str⊕(Int×(Str×(GVal×(Y0s×((List GVal)×Y01))))))):(Y06×(Str×(Y0s×(GVal×((List GVal)×Y01)))))→Option (Str⊕(Int×(Str×(GVal×(Y0s×((List GVal)×Y01)))))):=fun((deep,end1),c,c1,c2,c3,c4)=>
 z1n c>>=fun e=>
 Sum.elim (fun e1=>some (.inl e1)) (fun e1=>if(e1.1 !=end1) then(if(decide ((c3.length:Int)>(0:Int))) then(z1k ((44:Int),e1.2)>>=fun y=>
 Sum.elim (fun y1=>some (.inl y1)) (fun y1=>if(c1.1==(4:Int)) then(z1p y1>>=fun e2=>
 Sum.elim (fun e3=>some (.inl e3)) (fun e3=>if(qq (c4.length+[e3.1].length) 16) then
 z1k ((58:Int),e3.2)>>=fun y2=>
 Sum.elim (fun y3=>some (.inl y3)) (fun y3=>z06 ((w64 (deep-(1:Int))),y3)>>=fun e4=>
 Sum.elim (fun e5=>some (.inl e5)) (fun e5=>if(qq (c3.length+[e5.1.re].length) 80) then
 if(decide (((c3++[e5.1.re]).length:Int)>(16:Int))) then some (.inl e5.2) else
 kr ((deep,end1),(e5.2,(c1,(c2.re,((c3++[e5.1.re]),(c4++[e3.1])))))) else none) e4) y2 else none) e2) else
 z06 ((w64 (deep-(1:Int))),y1)>>=fun e2=>
 Sum.elim (fun e3=>some (.inl e3)) (fun e3=>if(qq (c3.length+[e3.1.re].length) 80) then
 if(decide (((c3++[e3.1.re]).length:Int)>(16:Int))) then some (.inl e3.2) else
 kr ((deep,end1),(e3.2,(c1,(c2.re,((c3++[e3.1.re]),c4))))) else none) e2) y) else
 if(c1.1==(4:Int)) then(z1p e1.2>>=fun e2=>
 Sum.elim (fun e3=>some (.inl e3)) (fun e3=>if(qq (c4.length+[e3.1].length) 16) then
 z1k ((58:Int),e3.2)>>=fun y=>
 Sum.elim (fun y1=>some (.inl y1)) (fun y1=>z06 ((w64 (deep-(1:Int))),y1)>>=fun e4=>
 Sum.elim (fun e5=>some (.inl e5)) (fun e5=>if(qq (c3.length+[e5.1.re].length) 80) then
 if(decide (((c3++[e5.1.re]).length:Int)>(16:Int))) then some (.inl e5.2) else
 kr ((deep,end1),(e5.2,(c1,(c2.re,((c3++[e5.1.re]),(c4++[e3.1])))))) else none) e4) y else none) e2) else
 z06 ((w64 (deep-(1:Int))),e1.2)>>=fun e2=>
 Sum.elim (fun e3=>some (.inl e3)) (fun e3=>if(qq (c3.length+[e3.1.re].length) 80) then
 if(decide (((c3++[e3.1.re]).length:Int)>(16:Int))) then some (.inl e3.2) else
 kr ((deep,end1),(e3.2,(c1,(c2.re,((c3++[e3.1.re]),c4))))) else none) e2) else
 some (.inr (end1,(e1.2,(c2.re,(c1,(c3,c4))))))) e
def qcl(u: ∀a,Option (qf6 a)): ∀a,Option (qf6 a)
 |(.inl q)=>q5y (fun q=>u (.inl q)) (fun q=>u (.inr (.inl q))) (fun q=>u (.inr (.inr q))) q
 |(.inr (.inl q))=>q1g (fun q=>u (.inl q)) (fun q=>u (.inr (.inl q))) (fun q=>u (.inr (.inr q))) q
 |(.inr (.inr q))=>qse (fun q=>u (.inl q)) (fun q=>u (.inr (.inl q))) (fun q=>u (.inr (.inr q))) q
def z06(q:Y02):Option (Str⊕(GVal×Str)):=xw qcl (.inl q)
def z09(q:Y15):Option (Str⊕(GVal×Str)):=xw qcl (.inr (.inl q))
def kr(q:(Y06×(Str×(Y0s×(GVal×((List GVal)×Y01)))))):Option (Str⊕(Int×(Str×(GVal×(Y0s×((List GVal)×Y01)))))):=xw qcl (.inr (.inr q))
theorem q5z: ∀a,Cont fun u=>qcl u a
 |(.inl (deep,c))=>by unfold qcl q5y;exact(.ite (.const _) (.bind (.const _) fun _=>(.sum (fun _=>(.const _)) (fun _=>(.ite (.const _) (.ite (.bind (.app _) fun _=>(.const _)) (.ite (.bind (.app _) fun _=>(.const _)) (.const _))))))))
 |(.inr (.inl ((v,end1,deep),c)))=>by unfold qcl q1g;exact(.ite (.ite (.bind (.app _) fun _=>(.const _)) (.const _)) (.const _))
 |(.inr (.inr ((deep,end1),c,c1,c2,c3,c4)))=>by unfold qcl qse;exact(.bind (.const _) fun _=>(.sum (fun _=>(.const _)) (fun _=>(.ite (.ite (.bind (.const _) fun _=>(.sum (fun _=>(.const _)) (fun _=>(.ite (.bind (.const _) fun _=>(.sum (fun _=>(.const _)) (fun _=>(.ite (.bind (.const _) fun _=>(.sum (fun _=>(.const _)) (fun _=>(.bind (.app _) fun _=>(.sum (fun _=>(.const _)) (fun _=>(.ite (.ite (.const _) (.app _)) (.const _)))))))) (.const _))))) (.bind (.app _) fun _=>(.sum (fun _=>(.const _)) (fun _=>(.ite (.ite (.const _) (.app _)) (.const _))))))))) (.ite (.bind (.const _) fun _=>(.sum (fun _=>(.const _)) (fun _=>(.ite (.bind (.const _) fun _=>(.sum (fun _=>(.const _)) (fun _=>(.bind (.app _) fun _=>(.sum (fun _=>(.const _)) (fun _=>(.ite (.ite (.const _) (.app _)) (.const _)))))))) (.const _))))) (.bind (.app _) fun _=>(.sum (fun _=>(.const _)) (fun _=>(.ite (.ite (.const _) (.app _)) (.const _))))))) (.const _)))))
theorem qxa q:z06 q=q5y z06 z09 kr q:=k7 q5z (.inl q)
theorem qxc q:z09 q=q1g z06 z09 kr q:=k7 q5z (.inr (.inl q))
theorem q1h q:kr q=qse z06 z09 kr q:=k7 q5z (.inr (.inr q))
def z2d:Fu Int (Bool):=fun c=>
 if(decide (c<(32:Int))) then some true else
 if(decide (c>(126:Int))) then some true else
 if(c==(34:Int)) then some true else
 some (c==(92:Int))
def qgy(self:Fu (Int×Y0c) Y09):Fu (Int×Y0c) Y09:=fun(x8,s,x7)=>
 if(decide (x8<x7)) then(if((0:Int)≤x8) then
 if(x8<(s.length:Int)) then
 z2d (elt (.int .u8) s x8.toNat)>>=fun w=>
 if w then some (.inl x8) else
 self ((w64 (x8+(1:Int))),(s,x7)) else none else none) else
 some (.inr ())
def qnb:Fu (Int×Y0c) Y09:=kc qgy
theorem qqb q:qnb q=qgy qnb q:=ko q
def z18:Fu Y05 (Int):=fun s=>
 qnb ((0:Int),(s,(s.length:Int)))>>=fun r=>
 Sum.elim (fun r1=>some r1) (fun r1=>some (-1:Int)) r
def z2q:Fu Y05 (Bool):=fun s=>
 z18 s>>=fun h=>
 some (decide (h≥(0:Int)))
def z1a:Fu Str (Bool):=fun s=>
 if(decide ((s.length:Int)≤(200:Int))) then(z2q (qp s)>>=fun h=>
 some (!h)) else
 some false
def qgi(self:Fu (Int×(Y01×(Y01×Y06))) (Bool⊕(Int×Y01))):Fu (Int×(Y01×(Y01×Y06))) (Bool⊕(Int×Y01)):=fun(x9,l,x7,many,x8)=>
 if(decide (x9<x8)) then(if((0:Int)≤x9) then
 if(x9<(x7.length:Int)) then
 z1a (elt .str x7 x9.toNat)>>=fun w=>
 if(!w) then some (.inl false) else
 if(decide (x9>(0:Int))) then(if((0:Int)≤(w64 (x9-(1:Int)))) then
 if((w64 (x9-(1:Int)))<(l.length:Int)) then
 if(!(Op.bytesLess (elt .str l (w64 (x9-(1:Int))).toNat) (elt .str x7 x9.toNat))) then some (.inl false) else
 self ((w64 (x9+(1:Int))),(l,(x7,(many,x8)))) else none else none) else
 self ((w64 (x9+(1:Int))),(l,(x7,(many,x8)))) else none else none) else
 some (.inr (many,l))
def qmw:Fu (Int×(Y01×(Y01×Y06))) (Bool⊕(Int×Y01)):=kc qgi
theorem qpw q:qmw q=qgi qmw q:=ko q
def z0m:Fu Y04 (Bool):=fun(l,many)=>
 qmw ((0:Int),(l,(l,(many,(l.length:Int)))))>>=fun r=>
 Sum.elim (fun r1=>some r1) (fun r1=>some ((r1.2.length:Int)==r1.1)) r
abbrev qcd:=(GVal×Int)⊕((List GVal)×Int)⊕((List GVal)×Int)⊕((Int×((List GVal)×Int))×Int)⊕(GVal×Int)
abbrev uu:qcd→Type
 |(.inl _)=>Bool
 |(.inr (.inl _))=>(Bool×Int)
 |(.inr (.inr (.inl _)))=>Y06
 |(.inr (.inr (.inr (.inl _))))=>Y06⊕Int
 |(.inr (.inr (.inr (.inr _))))=>(Bool×Int)
def q5w(z01:(GVal×Int)→Option (Bool))(z0p:((List GVal)×Int)→Option ((Bool×Int)))(z0a:((List GVal)×Int)→Option (Y06))(vz:((Int×((List GVal)×Int))×Int)→Option Y07)(z1f:(GVal×Int)→Option ((Bool×Int))):(GVal×Int)→Option (Bool):=fun(v,deep)=>
 if(deep==(0:Int)) then some false else
 if(decide ((v.items.length:Int)>(16:Int))) then some false else
 if((v.items.length:Int)==(0:Int)) then(if(v.kind==(1:Int)) then(if((v.names.length:Int)==(0:Int)) then(if(v.s==[]) then(if(decide (v.n≥(0:Int))) then some (decide (v.n≤(1099511627776:Int))) else
 some false) else
 some false) else
 some false) else
 if(v.kind==(2:Int)) then(if((v.names.length:Int)==(0:Int)) then(if(v.n==(0:Int)) then(z1a v.s>>=fun w=>
 some w) else
 some false) else
 some false) else
 if(v.kind==(3:Int)) then(if(v.kind==(3:Int)) then(if(v.kind==(3:Int)) then(if(decide ((v.names.length:Int)>(0:Int))) then some false else
 if(v.kind==(4:Int)) then(z0m (v.names,(v.items.length:Int))>>=fun n=>
 if(!n) then some false else
 if(v.n !=(0:Int)) then some false else
 if(v.s !=[]) then some false else
 z0p (v.items,deep)>>=fun v1=>
 some (!v1.1)) else
 if(v.n !=(0:Int)) then some false else
 if(v.s !=[]) then some false else
 z0p (v.items,deep)>>=fun v1=>
 some (!v1.1)) else
 if(v.kind==(4:Int)) then(z0m (v.names,(v.items.length:Int))>>=fun n=>
 if(!n) then some false else
 if(v.n !=(0:Int)) then some false else
 if(v.s !=[]) then some false else
 z0p (v.items,deep)>>=fun v1=>
 some (!v1.1)) else
 if(v.n !=(0:Int)) then some false else
 if(v.s !=[]) then some false else
 z0p (v.items,deep)>>=fun v1=>
 some (!v1.1)) else
 some false) else
 if(v.kind==(4:Int)) then(if(v.kind==(3:Int)) then(if(decide ((v.names.length:Int)>(0:Int))) then some false else
 if(v.kind==(4:Int)) then(z0m (v.names,(v.items.length:Int))>>=fun n=>
 if(!n) then some false else
 if(v.n !=(0:Int)) then some false else
 if(v.s !=[]) then some false else
 z0p (v.items,deep)>>=fun v1=>
 some (!v1.1)) else
 if(v.n !=(0:Int)) then some false else
 if(v.s !=[]) then some false else
 z0p (v.items,deep)>>=fun v1=>
 some (!v1.1)) else
 if(v.kind==(4:Int)) then(z0m (v.names,(v.items.length:Int))>>=fun n=>
 if(!n) then some false else
 if(v.n !=(0:Int)) then some false else
 if(v.s !=[]) then some false else
 z0p (v.items,deep)>>=fun v1=>
 some (!v1.1)) else
 if(v.n !=(0:Int)) then some false else
 if(v.s !=[]) then some false else
 z0p (v.items,deep)>>=fun v1=>
 some (!v1.1)) else
 some false) else
 if(v.kind==(1:Int)) then some false else
 if(v.kind==(2:Int)) then some false else
 if(v.kind==(3:Int)) then(if(v.kind==(3:Int)) then(if(v.kind==(3:Int)) then(if(decide ((v.names.length:Int)>(0:Int))) then some false else
 if(v.kind==(4:Int)) then(z0m (v.names,(v.items.length:Int))>>=fun n=>
 if(!n) then some false else
 if(v.n !=(0:Int)) then some false else
 if(v.s !=[]) then some false else
 z0p (v.items,deep)>>=fun v1=>
 some (!v1.1)) else
 if(v.n !=(0:Int)) then some false else
 if(v.s !=[]) then some false else
 z0p (v.items,deep)>>=fun v1=>
 some (!v1.1)) else
 if(v.kind==(4:Int)) then(z0m (v.names,(v.items.length:Int))>>=fun n=>
 if(!n) then some false else
 if(v.n !=(0:Int)) then some false else
 if(v.s !=[]) then some false else
 z0p (v.items,deep)>>=fun v1=>
 some (!v1.1)) else
 if(v.n !=(0:Int)) then some false else
 if(v.s !=[]) then some false else
 z0p (v.items,deep)>>=fun v1=>
 some (!v1.1)) else
 some false) else
 if(v.kind==(4:Int)) then(if(v.kind==(3:Int)) then(if(decide ((v.names.length:Int)>(0:Int))) then some false else
 if(v.kind==(4:Int)) then(z0m (v.names,(v.items.length:Int))>>=fun n=>
 if(!n) then some false else
 if(v.n !=(0:Int)) then some false else
 if(v.s !=[]) then some false else
 z0p (v.items,deep)>>=fun v1=>
 some (!v1.1)) else
 if(v.n !=(0:Int)) then some false else
 if(v.s !=[]) then some false else
 z0p (v.items,deep)>>=fun v1=>
 some (!v1.1)) else
 if(v.kind==(4:Int)) then(z0m (v.names,(v.items.length:Int))>>=fun n=>
 if(!n) then some false else
 if(v.n !=(0:Int)) then some false else
 if(v.s !=[]) then some false else
 z0p (v.items,deep)>>=fun v1=>
 some (!v1.1)) else
 if(v.n !=(0:Int)) then some false else
 if(v.s !=[]) then some false else
 z0p (v.items,deep)>>=fun v1=>
 some (!v1.1)) else
 some false
def q8b(z01:(GVal×Int)→Option (Bool))(z0p:((List GVal)×Int)→Option ((Bool×Int)))(z0a:((List GVal)×Int)→Option (Y06))(vz:((Int×((List GVal)×Int))×Int)→Option Y07)(z1f:(GVal×Int)→Option ((Bool×Int))):((List GVal)×Int)→Option ((Bool×Int)):=fun(s,c)=>
 z0a (s,c)>>=fun v=>
 some ((decide (v.1≥(0:Int))),v.2)
def q78(z01:(GVal×Int)→Option (Bool))(z0p:((List GVal)×Int)→Option ((Bool×Int)))(z0a:((List GVal)×Int)→Option (Y06))(vz:((Int×((List GVal)×Int))×Int)→Option Y07)(z1f:(GVal×Int)→Option ((Bool×Int))):((List GVal)×Int)→Option (Y06):=fun(s,c)=>
 vz (((0:Int),(s,(s.length:Int))),c)>>=fun r=>
 Sum.elim (fun r1=>some r1) (fun r1=>some ((-1:Int),r1)) r
def qf9(z01:(GVal×Int)→Option (Bool))(z0p:((List GVal)×Int)→Option ((Bool×Int)))(z0a:((List GVal)×Int)→Option (Y06))(vz:((Int×((List GVal)×Int))×Int)→Option Y07)(z1f:(GVal×Int)→Option ((Bool×Int))):((Int×((List GVal)×Int))×Int)→Option Y07:=fun((x8,s,x7),c)=>
 if(decide (x8<x7)) then(if((0:Int)≤x8) then
 if(x8<(s.length:Int)) then
 z1f ((elt .val s x8.toNat).re,c)>>=fun m=>
 if m.1 then some (.inl (x8,m.2)) else
 vz (((w64 (x8+(1:Int))),(s,x7)),m.2) else none else none) else
 some (.inr c)
def q8c(z01:(GVal×Int)→Option (Bool))(z0p:((List GVal)×Int)→Option ((Bool×Int)))(z0a:((List GVal)×Int)→Option (Y06))(vz:((Int×((List GVal)×Int))×Int)→Option Y07)(z1f:(GVal×Int)→Option ((Bool×Int))):(GVal×Int)→Option ((Bool×Int)):=fun(x1,c)=>
 z01 (x1.re,(w64 (c-(1:Int))))>>=fun m=>
 some ((!m),c)
def yy(u: ∀a,Option (uu a)): ∀a,Option (uu a)
 |(.inl q)=>q5w (fun q=>u (.inl q)) (fun q=>u (.inr (.inl q))) (fun q=>u (.inr (.inr (.inl q)))) (fun q=>u (.inr (.inr (.inr (.inl q))))) (fun q=>u (.inr (.inr (.inr (.inr q))))) q
 |(.inr (.inl q))=>q8b (fun q=>u (.inl q)) (fun q=>u (.inr (.inl q))) (fun q=>u (.inr (.inr (.inl q)))) (fun q=>u (.inr (.inr (.inr (.inl q))))) (fun q=>u (.inr (.inr (.inr (.inr q))))) q
 |(.inr (.inr (.inl q)))=>q78 (fun q=>u (.inl q)) (fun q=>u (.inr (.inl q))) (fun q=>u (.inr (.inr (.inl q)))) (fun q=>u (.inr (.inr (.inr (.inl q))))) (fun q=>u (.inr (.inr (.inr (.inr q))))) q
 |(.inr (.inr (.inr (.inl q))))=>qf9 (fun q=>u (.inl q)) (fun q=>u (.inr (.inl q))) (fun q=>u (.inr (.inr (.inl q)))) (fun q=>u (.inr (.inr (.inr (.inl q))))) (fun q=>u (.inr (.inr (.inr (.inr q))))) q
 |(.inr (.inr (.inr (.inr q))))=>q8c (fun q=>u (.inl q)) (fun q=>u (.inr (.inl q))) (fun q=>u (.inr (.inr (.inl q)))) (fun q=>u (.inr (.inr (.inr (.inl q))))) (fun q=>u (.inr (.inr (.inr (.inr q))))) q
def z01(q:(GVal×Int)):Option (Bool):=xw yy (.inl q)
def z0p(q:((List GVal)×Int)):Option ((Bool×Int)):=xw yy (.inr (.inl q))
def z0a(q:((List GVal)×Int)):Option (Y06):=xw yy (.inr (.inr (.inl q)))
def vz(q:((Int×((List GVal)×Int))×Int)):Option Y07:=xw yy (.inr (.inr (.inr (.inl q))))
def z1f(q:(GVal×Int)):Option ((Bool×Int)):=xw yy (.inr (.inr (.inr (.inr q))))
theorem qva: ∀a,Cont fun u=>yy u a
 |(.inl (v,deep))=>by unfold yy q5w;exact(.ite (.const _) (.ite (.const _) (.ite (.ite (.const _) (.ite (.const _) (.ite (.ite (.ite (.ite (.const _) (.ite (.bind (.const _) fun _=>(.ite (.const _) (.ite (.const _) (.ite (.const _) (.bind (.app _) fun _=>(.const _)))))) (.ite (.const _) (.ite (.const _) (.bind (.app _) fun _=>(.const _)))))) (.ite (.bind (.const _) fun _=>(.ite (.const _) (.ite (.const _) (.ite (.const _) (.bind (.app _) fun _=>(.const _)))))) (.ite (.const _) (.ite (.const _) (.bind (.app _) fun _=>(.const _)))))) (.const _)) (.ite (.ite (.ite (.const _) (.ite (.bind (.const _) fun _=>(.ite (.const _) (.ite (.const _) (.ite (.const _) (.bind (.app _) fun _=>(.const _)))))) (.ite (.const _) (.ite (.const _) (.bind (.app _) fun _=>(.const _)))))) (.ite (.bind (.const _) fun _=>(.ite (.const _) (.ite (.const _) (.ite (.const _) (.bind (.app _) fun _=>(.const _)))))) (.ite (.const _) (.ite (.const _) (.bind (.app _) fun _=>(.const _)))))) (.const _))))) (.ite (.const _) (.ite (.const _) (.ite (.ite (.ite (.ite (.const _) (.ite (.bind (.const _) fun _=>(.ite (.const _) (.ite (.const _) (.ite (.const _) (.bind (.app _) fun _=>(.const _)))))) (.ite (.const _) (.ite (.const _) (.bind (.app _) fun _=>(.const _)))))) (.ite (.bind (.const _) fun _=>(.ite (.const _) (.ite (.const _) (.ite (.const _) (.bind (.app _) fun _=>(.const _)))))) (.ite (.const _) (.ite (.const _) (.bind (.app _) fun _=>(.const _)))))) (.const _)) (.ite (.ite (.ite (.const _) (.ite (.bind (.const _) fun _=>(.ite (.const _) (.ite (.const _) (.ite (.const _) (.bind (.app _) fun _=>(.const _)))))) (.ite (.const _) (.ite (.const _) (.bind (.app _) fun _=>(.const _)))))) (.ite (.bind (.const _) fun _=>(.ite (.const _) (.ite (.const _) (.ite (.const _) (.bind (.app _) fun _=>(.const _)))))) (.ite (.const _) (.ite (.const _) (.bind (.app _) fun _=>(.const _)))))) (.const _))))))))
 |(.inr (.inl (s,c)))=>by unfold yy q8b;exact(.bind (.app _) fun _=>(.const _))
 |(.inr (.inr (.inl (s,c))))=>by unfold yy q78;exact(.bind (.app _) fun _=>(.const _))
 |(.inr (.inr (.inr (.inl ((x8,s,x7),c)))))=>by unfold yy qf9;exact(.ite (.ite (.ite (.bind (.app _) fun _=>(.ite (.const _) (.app _))) (.const _)) (.const _)) (.const _))
 |(.inr (.inr (.inr (.inr (x1,c)))))=>by unfold yy q8c;exact(.bind (.app _) fun _=>(.const _))
theorem q5x q:z01 q=q5w z01 z0p z0a vz z1f q:=k7 qva (.inl q)
theorem jbf q:z0p q=q8b z01 z0p z0a vz z1f q:=k7 qva (.inr (.inl q))
theorem jbb q:z0a q=q78 z01 z0p z0a vz z1f q:=k7 qva (.inr (.inr (.inl q)))
theorem qpo q:vz q=qf9 z01 z0p z0a vz z1f q:=k7 qva (.inr (.inr (.inr (.inl q))))
theorem jbi q:z1f q=q8c z01 z0p z0a vz z1f q:=k7 qva (.inr (.inr (.inr (.inr q))))
def z2g:Fu GVal (Bool):=fun v=>
 z01 (v.re,(6:Int))>>=fun m=>
 some m
def z1u:Fu Str (Str):=fun s=>
 if((([34]:Str).length+s.length)≤9223372036854775807) then
 if(((([34]:Str)++s).length+([34]:Str).length)≤9223372036854775807) then
 some ((([34]:Str)++s)++([34]:Str)) else none else none
abbrev qvb:=GVal⊕((Int×((List GVal)×Int))×(Y01×GVal))
abbrev ql8:qvb→Type
 |(.inl _)=>Str
 |(.inr _)=>(GVal×Y01)
def q76(z02:GVal→Option (Str))(ww:((Int×((List GVal)×Int))×(Y01×GVal))→Option ((GVal×Y01))):GVal→Option (Str):=fun v=>
 if(v.kind==(1:Int)) then(zw v.n>>=fun i=>
 some i) else
 if(v.kind==(2:Int)) then(z1u v.s>>=fun q=>
 some q) else
 ww (((0:Int),(v.items,(v.items.length:Int))),([],v.re))>>=fun r=>
 yw (r.2,([44]:Str))>>=fun j=>
 if(r.1.kind==(3:Int)) then(if((([91]:Str).length+j.length)≤9223372036854775807) then
 if(((([91]:Str)++j).length+([93]:Str).length)≤9223372036854775807) then
 some ((([91]:Str)++j)++([93]:Str)) else none else none) else
 if((([123]:Str).length+j.length)≤9223372036854775807) then
 if(((([123]:Str)++j).length+([125]:Str).length)≤9223372036854775807) then
 some ((([123]:Str)++j)++([125]:Str)) else none else none
def qce(z02:GVal→Option (Str))(ww:((Int×((List GVal)×Int))×(Y01×GVal))→Option ((GVal×Y01))):((Int×((List GVal)×Int))×(Y01×GVal))→Option ((GVal×Y01)):=fun((x23,x21,x22),c,c1)=>
 if(decide (x23<x22)) then(if((0:Int)≤x23) then
 if(x23<(x21.length:Int)) then
 z02 (elt .val x21 x23.toNat).re>>=fun w=>
 if(c1.kind==(4:Int)) then(if((0:Int)≤x23) then
 if(x23<(c1.names.length:Int)) then
 z1u (elt .str c1.names x23.toNat)>>=fun q=>
 if((q.length+([58]:Str).length)≤9223372036854775807) then
 if(((q++([58]:Str)).length+w.length)≤9223372036854775807) then
 if(qq (c.length+[((q++([58]:Str))++w)].length) 16) then
 ww (((w64 (x23+(1:Int))),(x21,x22)),((c++[((q++([58]:Str))++w)]),c1.re)) else none else none else none else none else none) else
 if(qq (c.length+[w].length) 16) then
 ww (((w64 (x23+(1:Int))),(x21,x22)),((c++[w]),c1.re)) else none else none else none) else
 some (c1.re,c)
def qiy(u: ∀a,Option (ql8 a)): ∀a,Option (ql8 a)
 |(.inl q)=>q76 (fun q=>u (.inl q)) (fun q=>u (.inr q)) q
 |(.inr q)=>qce (fun q=>u (.inl q)) (fun q=>u (.inr q)) q
def z02(q:GVal):Option (Str):=xw qiy (.inl q)
def ww(q:((Int×((List GVal)×Int))×(Y01×GVal))):Option ((GVal×Y01)):=xw qiy (.inr q)
theorem q9f: ∀a,Cont fun u=>qiy u a
 |(.inl v)=>by unfold qiy q76;exact(.ite (.const _) (.ite (.const _) (.bind (.app _) fun _=>(.const _))))
 |(.inr ((x23,x21,x22),c,c1))=>by unfold qiy qce;exact(.ite (.ite (.ite (.bind (.app _) fun _=>(.ite (.ite (.ite (.bind (.const _) fun _=>(.ite (.ite (.ite (.app _) (.const _)) (.const _)) (.const _))) (.const _)) (.const _)) (.ite (.app _) (.const _)))) (.const _)) (.const _)) (.const _))
theorem ja7 q:z02 q=q76 z02 ww q:=k7 q9f (.inl q)
theorem qma q:ww q=qce z02 ww q:=k7 q9f (.inr q)
def z1v:Fu GVal Y03:=fun v=>
 z2g v.re>>=fun r=>
 if(!r) then some ([],(1:Int)) else
 z02 v.re>>=fun w=>
 if(decide ((w.length:Int)>(4096:Int))) then some ([],(2:Int)) else
 some (w,(0:Int))
def z2e:Fu Str (GVal×Int):=fun s=>
 if(decide ((s.length:Int)>(4096:Int))) then some ((GVal.mk (0:Int) (0:Int) [] [] []),(2:Int)) else
 z06 ((6:Int),s)>>=fun e=>
 Sum.elim (fun e1=>some ((GVal.mk (0:Int) (0:Int) [] [] []),(6:Int))) (fun e1=>z1v e1.1.re>>=fun p=>
 if(p.2 !=(0:Int)) then some ((GVal.mk (0:Int) (0:Int) [] [] []),(6:Int)) else
 if(p.1 !=s) then some ((GVal.mk (0:Int) (0:Int) [] [] []),(6:Int)) else
 some (e1.1.re,(0:Int))) e
def qgj(self:Fu (Int×Y0u) Y09):Fu (Int×Y0u) Y09:=fun(x8,s,v,x7)=>
 if(decide (x8<x7)) then(if((0:Int)≤x8) then
 if(x8<(s.length:Int)) then
 if(v==(elt .str s x8.toNat)) then some (.inl x8) else
 self ((w64 (x8+(1:Int))),(s,(v,x7))) else none else none) else
 some (.inr ())
def qmx:Fu (Int×Y0u) Y09:=kc qgj
theorem qpx q:qmx q=qgj qmx q:=ko q
def z0q:Fu Y0d (Int):=fun(s,v)=>
 qmx ((0:Int),(s,(v,(s.length:Int))))>>=fun r=>
 Sum.elim (fun r1=>some r1) (fun r1=>some (-1:Int)) r
def z0o:Fu (GVal×Y03) (GVal×Int):=fun(v,name,kind)=>
 z0q (v.names,name)>>=fun s=>
 if(v.kind !=(4:Int)) then some ((GVal.mk (0:Int) (0:Int) [] [] []),(8:Int)) else
 if((v.names.length:Int) !=(v.items.length:Int)) then some ((GVal.mk (0:Int) (0:Int) [] [] []),(8:Int)) else
 if(decide (s<(0:Int))) then some ((GVal.mk (0:Int) (0:Int) [] [] []),(8:Int)) else
 if((0:Int)≤s) then
 if(s<(v.items.length:Int)) then
 if((elt .val v.items s.toNat).kind !=kind) then some ((GVal.mk (0:Int) (0:Int) [] [] []),(8:Int)) else
 if((0:Int)≤s) then
 if(s<(v.items.length:Int)) then
 some ((elt .val v.items s.toNat).re,(0:Int)) else none else none else none else none
end Go.Plain
namespace Go.Plain
open Go.AM
set_option linter.unusedVariables false
def z39:Fu Y00 (Bool):=fun(s,prefix1)=>
 if(decide ((s.length:Int)≥(prefix1.length:Int))) then(if((prefix1.length:Int)≤(s.length:Int)) then
 some ((List.take (prefix1.length:Int).toNat s)==prefix1) else none) else
 some false
def z38:Fu Y00 Y0a:=fun(s,prefix1)=>
 z39 (s,prefix1)>>=fun h=>
 if(!h) then some (s,false) else
 if((prefix1.length:Int)≤(s.length:Int)) then
 if((s.length:Int)≤(s.length:Int)) then
 some ((List.drop (prefix1.length:Int).toNat (List.take (s.length:Int).toNat s)),true) else none else none
def z35:Fu Y00 Y0a:=fun(s,prefix1)=>
 z38 (s,prefix1)>>=fun c=>
 some c
def qao(self:Fu Y0w (Y03⊕Y05)):Fu Y0w (Y03⊕Y05):=fun((x18,s,x17),c)=>
 if(decide (x18<x17)) then(if((0:Int)≤(w64 ((2:Int)*x18))) then
 if((w64 ((2:Int)*x18))<(s.length:Int)) then
 jd (([48,49,50,51,52,53,54,55,56,57,97,98,99,100,101,102]:Str),(bt s (w64 ((2:Int)*x18))))>>=fun i=>
 if((0:Int)≤(w64 ((w64 ((2:Int)*x18))+(1:Int)))) then
 if((w64 ((w64 ((2:Int)*x18))+(1:Int)))<(s.length:Int)) then
 jd (([48,49,50,51,52,53,54,55,56,57,97,98,99,100,101,102]:Str),(bt s (w64 ((w64 ((2:Int)*x18))+(1:Int)))))>>=fun i1=>
 if(decide (i<(0:Int))) then some (.inl ([],(4:Int))) else
 if(decide (i1<(0:Int))) then some (.inl ([],(4:Int))) else
 if((0:Int)≤x18) then
 if(x18<(c.length:Int)) then
 if(x18.toNat<c.length) then
 self (((w64 (x18+(1:Int))),(s,x17)),(List.set c x18.toNat (IntKind.wrap .u8 (w64 ((w64 (i*(16:Int)))+i1))))) else none else none else none else none else none else none else none) else
 some (.inr c)
def qep:Fu Y0w (Y03⊕Y05):=kc qao
theorem qdi q:qep q=qao qep q:=ko q
def z0i:Fu Str Y03:=fun s=>
 if((Int.tmod (s.length:Int) (2:Int)) !=(0:Int)) then some ([],(4:Int)) else
 if((w64 (Int.tdiv (s.length:Int) (2:Int)))=(w64 (Int.tdiv (s.length:Int) (2:Int)))) then
 if((0:Int)≤(w64 (Int.tdiv (s.length:Int) (2:Int)))) then
 if(qq (w64 (Int.tdiv (s.length:Int) (2:Int))).toNat 1) then
 qep (((0:Int),(s,((List.replicate (w64 (Int.tdiv (s.length:Int) (2:Int))).toNat (0:Int)).length:Int))),(List.replicate (w64 (Int.tdiv (s.length:Int) (2:Int))).toNat (0:Int)))>>=fun r=>
 Sum.elim (fun r1=>some r1) (fun r1=>some ((jm r1),(0:Int))) r else none else none else none
def z1t:Fu Str Y03:=fun s=>
 yl (s,([115,104,97,50,53,54,58]:Str))>>=fun c=>
 z0i c.1>>=fun b=>
 if(!c.2) then some ([],(6:Int)) else
 if(b.2 !=(0:Int)) then some ([],(6:Int)) else
 if((b.1.length:Int) !=(32:Int)) then some ([],(6:Int)) else
 some (b.1,(0:Int))
def z1m:Fu Str (Bool):=fun s=>
 z1t s>>=fun p=>
 some (p.2==(0:Int))
def z0f:Fu Y0d (Bool):=fun(s,v)=>
 z0q (s,v)>>=fun s1=>
 some (decide (s1≥(0:Int)))
def qgf(self:Fu Y1r (Bool⊕Y1d)):Fu Y1r (Bool⊕Y1d):=fun((x11,x9,x10),c)=>
 if(decide (x11<x10)) then(if((0:Int)≤x11) then
 if(x11<(x9.length:Int)) then
 z1m (elt .str x9 x11.toNat)>>=fun i=>
 if(!i) then some (.inl false) else
 if((0:Int)≤x11) then
 if(x11≤(c.2.2.2.length:Int)) then
 z0f ((List.take x11.toNat c.2.2.2),(elt .str x9 x11.toNat))>>=fun s=>
 if s then some (.inl false) else
 self (((w64 (x11+(1:Int))),(x9,x10)),c) else none else none else none else none) else
 some (.inr c)
def qmr:Fu Y1r (Bool⊕Y1d):=kc qgf
theorem qpt q:qmr q=qgf qmr q:=ko q
def z2n:Fu Y03 (Bool):=fun l=>
 z1m l.1>>=fun i=>
 if(!i) then some true else
 if(decide (l.2<(0:Int))) then some true else
 some (decide (l.2>(4096:Int)))
def qgw(self:Fu (Int×Y0m) Y09):Fu (Int×Y0m) Y09:=fun(x8,s,x7)=>
 if(decide (x8<x7)) then(if((0:Int)≤x8) then
 if(x8<(s.length:Int)) then
 z2n (elt y03 s x8.toNat)>>=fun r=>
 if r then some (.inl x8) else
 self ((w64 (x8+(1:Int))),(s,x7)) else none else none) else
 some (.inr ())
def qm9:Fu (Int×Y0m) Y09:=kc qgw
theorem qp9 q:qm9 q=qgw qm9 q:=ko q
def z16:Fu Y0r (Int):=fun s=>
 qm9 ((0:Int),(s,(s.length:Int)))>>=fun r=>
 Sum.elim (fun r1=>some r1) (fun r1=>some (-1:Int)) r
def z2h:Fu Y0r (Bool):=fun s=>
 z16 s>>=fun y=>
 some (decide (y≥(0:Int)))
def z0g:Fu Y1d (Bool):=fun m=>
 if m.1 then(qmr (((0:Int),(m.2.2.2,(m.2.2.2.length:Int))),m)>>=fun r=>
 Sum.elim (fun r1=>some r1) (fun r1=>if(decide ((r1.2.2.2.length:Int)≥(1:Int))) then(if(decide ((r1.2.2.2.length:Int)≤(8:Int))) then(if(r1.2.1==[]) then some ((r1.2.2.1.length:Int)==(0:Int)) else
 some false) else
 some false) else
 some false) r) else
 z1m m.2.1>>=fun i=>
 if i then(if((m.2.2.2.length:Int)==(0:Int)) then(if(decide ((m.2.2.1.length:Int)≤(8:Int))) then(z2h m.2.2.1>>=fun y=>
 some (!y)) else
 some false) else
 some false) else
 some false
def z1o:Fu Str (GVal):=fun s=>
 some (GVal.mk (2:Int) (0:Int) s [] [])
def qgz(self:Fu ((Int×Y04)×((Int×Y12)×(GVal×(List GVal)))) (GVal×((Int×Y12)×(List GVal)))):Fu ((Int×Y04)×((Int×Y12)×(GVal×(List GVal)))) (GVal×((Int×Y12)×(List GVal))):=fun((x11,x9,x10),c,c1,c2)=>
 if(decide (x11<x10)) then(if((0:Int)≤x11) then
 if(x11<(x9.length:Int)) then
 z1o (elt .str x9 x11.toNat)>>=fun w=>
 if(qq (c2.length+[w.re].length) 80) then
 self (((w64 (x11+(1:Int))),(x9,x10)),(c,(c1.re,(c2++[w.re])))) else none else none else none) else
 some (c1.re,(c,c2))
def qnc:Fu ((Int×Y04)×((Int×Y12)×(GVal×(List GVal)))) (GVal×((Int×Y12)×(List GVal))):=kc qgz
theorem qqc q:qnc q=qgz qnc q:=ko q
def z19:Fu Y01 (GVal):=fun l=>
 qnc (((0:Int),(l,(l.length:Int))),(((3:Int),((0:Int),([],[]))),((GVal.mk (0:Int) (0:Int) [] [] []),[])))>>=fun r=>
 some (GVal.mk r.2.1.1 r.2.1.2.1 r.2.1.2.2.1 r.2.2 r.2.1.2.2.2)
def z30:Fu Y03 (GVal):=fun l=>
 z1o l.1>>=fun w=>
 some (GVal.mk (4:Int) (0:Int) [] [w.re,(GVal.mk (1:Int) l.2 [] [] [])] [([100,105,103,101,115,116]:Str),([115,105,122,101]:Str)])
def qgx(self:Fu ((Int×Y0m)×((Int×Y12)×(GVal×(List GVal)))) (GVal×((Int×Y12)×(List GVal)))):Fu ((Int×Y0m)×((Int×Y12)×(GVal×(List GVal)))) (GVal×((Int×Y12)×(List GVal))):=fun((x11,x9,x10),c,c1,c2)=>
 if(decide (x11<x10)) then(if((0:Int)≤x11) then
 if(x11<(x9.length:Int)) then
 z30 (elt y03 x9 x11.toNat)>>=fun l=>
 if(qq (c2.length+[l.re].length) 80) then
 self (((w64 (x11+(1:Int))),(x9,x10)),(c,(c1.re,(c2++[l.re])))) else none else none else none) else
 some (c1.re,(c,c2))
def qna:Fu ((Int×Y0m)×((Int×Y12)×(GVal×(List GVal)))) (GVal×((Int×Y12)×(List GVal))):=kc qgx
theorem qqa q:qna q=qgx qna q:=ko q
def z17:Fu Y0r (GVal):=fun l=>
 qna (((0:Int),(l,(l.length:Int))),(((3:Int),((0:Int),([],[]))),((GVal.mk (0:Int) (0:Int) [] [] []),[])))>>=fun r=>
 some (GVal.mk r.2.1.1 r.2.1.2.1 r.2.1.2.2.1 r.2.2 r.2.1.2.2.2)
def z2o:Fu Y1d (GVal):=fun m=>
 if m.1 then(z19 m.2.2.2>>=fun s=>
 z1o ([105,110,100,101,120]:Str)>>=fun w=>
 some (GVal.mk (4:Int) (0:Int) [] [s.re,w.re] [([107,105,100,115]:Str),([107,105,110,100]:Str)])) else
 z1o m.2.1>>=fun w=>
 z1o ([105,109,97,103,101]:Str)>>=fun w1=>
 z17 m.2.2.1>>=fun m1=>
 some (GVal.mk (4:Int) (0:Int) [] [w.re,w1.re,m1.re] [([99,111,110,102,105,103]:Str),([107,105,110,100]:Str),([108,97,121,101,114,115]:Str)])
def z1s:Fu Y1d Y03:=fun m=>
 z0g m>>=fun r=>
 if(!r) then some ([],(1:Int)) else
 z2o m>>=fun v=>
 z1v v.re>>=fun p=>
 some p
def qgh(self:Fu Y19 Y01):Fu Y19 Y01:=fun((x19,x17,x18),c)=>
 if(decide (x19<x18)) then(if((0:Int)≤x19) then
 if(x19<(x17.length:Int)) then
 z0f (c,(elt y03 x17 x19.toNat).1)>>=fun s=>
 if(!s) then(if(qq (c.length+[(elt y03 x17 x19.toNat).1].length) 16) then
 self (((w64 (x19+(1:Int))),(x17,x18)),(c++[(elt y03 x17 x19.toNat).1])) else none) else
 self (((w64 (x19+(1:Int))),(x17,x18)),c) else none else none) else
 some c
def qmu:Fu Y19 Y01:=kc qgh
theorem qpv q:qmu q=qgh qmu q:=ko q
def z0k:Fu Y1d Y01:=fun m=>
 if m.1 then some [] else
 z0g m>>=fun r=>
 if(!r) then some [] else
 qmu (((0:Int),(m.2.2.1,(m.2.2.1.length:Int))),[m.2.1])>>=fun r1=>
 some r1
def qf0(self:Fu Y03 Y02):Fu Y03 Y02:=fun(s,many)=>
 if((Int.tmod (s.length:Int) (64:Int)) !=(56:Int)) then(if((s.length+([0]:Str).length)≤9223372036854775807) then
 self ((s++([0]:Str)),many) else none) else
 some (many,s)
def qsd:Fu Y03 Y02:=kc qf0
theorem qpj q:qsd q=qf0 qsd q:=ko q
def qcb(self:Fu Y0s (Str)):Fu Y0s (Str):=fun(i,many,s)=>
 if(decide (i≥(0:Int))) then(if((0:Int)≤(w64 ((8:Int)*i))) then
 if((s.length+(jm [(IntKind.wrap .u8 (ja .u64 many (w64 ((8:Int)*i))))]).length)≤9223372036854775807) then
 self ((w64 (i-(1:Int))),(many,(s++(jm [(IntKind.wrap .u8 (ja .u64 many (w64 ((8:Int)*i))))])))) else none else none) else
 some s
def qfy:Fu Y0s (Str):=kc qcb
theorem ql6 q:qfy q=qcb qfy q:=ko q
def z32:Fu Unit Y28:=fun _=>
 some ((1779033703:Int),((3144134277:Int),((1013904242:Int),((2773480762:Int),((1359893119:Int),((2600822924:Int),((528734635:Int),(1541459225:Int))))))))
def z2p:Fu Str (Int):=fun s=>
 if((0:Int)<(s.length:Int)) then
 if((1:Int)<(s.length:Int)) then
 if((2:Int)<(s.length:Int)) then
 if((3:Int)<(s.length:Int)) then
 some (ior .u32 (ior .u32 (ior .u32 (qnq .u32 (IntKind.wrap .u32 (bt s (0:Int))) (24:Int)) (qnq .u32 (IntKind.wrap .u32 (bt s (1:Int))) (16:Int))) (qnq .u32 (IntKind.wrap .u32 (bt s (2:Int))) (8:Int))) (IntKind.wrap .u32 (bt s (3:Int)))) else none else none else none else none
def z23:Fu Y06 (Int):=fun(x1,k)=>
 if((0:Int)≤(IntKind.wrap .u64 ((32:Int)-(qaz .u64 (IntKind.wrap .u64 k) (31:Int))))) then
 some (ior .u32 (qnq .u32 x1 (qaz .u64 (IntKind.wrap .u64 k) (31:Int))) (ja .u32 x1 (IntKind.wrap .u64 ((32:Int)-(qaz .u64 (IntKind.wrap .u64 k) (31:Int)))))) else none
def z1l:Fu (Int×(Int×(Int×(Int×Bool)))) (Int):=fun(x1,a,b,c,moved)=>
 z23 (x1,(w64 ((0:Int)-c)))>>=fun b1=>
 if moved then(if((0:Int)≤c) then
 z23 (x1,(w64 ((0:Int)-a)))>>=fun b2=>
 z23 (x1,(w64 ((0:Int)-b)))>>=fun b3=>
 some (u9 .u32 (u9 .u32 b2 b3) (ja .u32 x1 c)) else none) else
 z23 (x1,(w64 ((0:Int)-a)))>>=fun b2=>
 z23 (x1,(w64 ((0:Int)-b)))>>=fun b3=>
 some (u9 .u32 (u9 .u32 b2 b3) b1)
def qf2(self:Fu (Y02×Y10) Y10):Fu (Y02×Y10) Y10:=fun((x14,s),c,c1,c2)=>
 if(decide (x14<(64:Int))) then(if(decide (x14<(16:Int))) then(if((0:Int)≤(w64 ((4:Int)*x14))) then
 if((w64 ((4:Int)*x14))≤(s.length:Int)) then
 if((s.length:Int)≤(s.length:Int)) then
 z2p (List.drop (w64 ((4:Int)*x14)).toNat (List.take (s.length:Int).toNat s))>>=fun b=>
 if((0:Int)≤x14) then
 if(x14<(64:Int)) then
 if(x14.toNat<c.length) then
 self (((w64 (x14+(1:Int))),s),((List.set c x14.toNat b),(c1,c2))) else none else none else none else none else none else none) else
 if((0:Int)≤(w64 (x14-(2:Int)))) then
 if((w64 (x14-(2:Int)))<(64:Int)) then
 if((w64 (x14-(2:Int))).toNat<c.length) then
 z1l ((elt (.int .u32) c (w64 (x14-(2:Int))).toNat),((17:Int),((19:Int),((10:Int),true))))>>=fun m=>
 if((0:Int)≤(w64 (x14-(7:Int)))) then
 if((w64 (x14-(7:Int)))<(64:Int)) then
 if((w64 (x14-(7:Int))).toNat<c.length) then
 if((0:Int)≤(w64 (x14-(15:Int)))) then
 if((w64 (x14-(15:Int)))<(64:Int)) then
 if((w64 (x14-(15:Int))).toNat<c.length) then
 z1l ((elt (.int .u32) c (w64 (x14-(15:Int))).toNat),((7:Int),((18:Int),((3:Int),true))))>>=fun m1=>
 if((0:Int)≤(w64 (x14-(16:Int)))) then
 if((w64 (x14-(16:Int)))<(64:Int)) then
 if((w64 (x14-(16:Int))).toNat<c.length) then
 if((0:Int)≤x14) then
 if(x14<(64:Int)) then
 if(x14.toNat<c.length) then
 self (((w64 (x14+(1:Int))),s),((List.set c x14.toNat (IntKind.wrap .u32 ((IntKind.wrap .u32 ((IntKind.wrap .u32 (m+(elt (.int .u32) c (w64 (x14-(7:Int))).toNat)))+m1))+(elt (.int .u32) c (w64 (x14-(16:Int))).toNat)))),(c1,c2))) else none else none else none else none else none else none else none else none else none else none else none else none else none else none else none) else
 some (c,(c1,c2))
def qeo:Fu (Y02×Y10) Y10:=kc qf2
theorem qpl q:qeo q=qf2 qeo q:=ko q
def qch(self:Fu (Int×(Y05×Y10)) Y10):Fu (Int×(Y05×Y10)) Y10:=fun(x51,c,c1,c2,c3)=>
 if(decide (x51<(64:Int))) then(if(0<c.length) then
 if(4<c.length) then
 if(7<c.length) then
 z1l ((elt (.int .u32) c 4),((6:Int),((11:Int),((25:Int),false))))>>=fun m=>
 if(5<c.length) then
 if(6<c.length) then
 if((0:Int)≤x51) then
 if(x51<(64:Int)) then
 if(x51<(ku.length:Int)) then
 if((0:Int)≤x51) then
 if(x51<(64:Int)) then
 if(x51.toNat<c1.length) then
 z1l ((elt (.int .u32) c 0),((2:Int),((13:Int),((22:Int),false))))>>=fun m1=>
 if(1<c.length) then
 if(2<c.length) then
 if(1<c.length) then
 if(2<c.length) then
 if(1<c.length) then
 if(2<c.length) then
 if(3<c.length) then
 if(5<c.length) then
 if(6<c.length) then
 if(c.length=8) then
 self ((w64 (x51+(1:Int))),([(IntKind.wrap .u32 ((IntKind.wrap .u32 ((IntKind.wrap .u32 ((IntKind.wrap .u32 ((IntKind.wrap .u32 ((elt (.int .u32) c 7)+m))+(u9 .u32 (qaz .u32 (elt (.int .u32) c 4) (elt (.int .u32) c 5)) (qaz .u32 (u9 .u32 (4294967295:Int) (elt (.int .u32) c 4)) (elt (.int .u32) c 6)))))+(elt (.int .u32) ku x51.toNat)))+(elt (.int .u32) c1 x51.toNat)))+(IntKind.wrap .u32 (m1+(u9 .u32 (u9 .u32 (qaz .u32 (elt (.int .u32) c 0) (elt (.int .u32) c 1)) (qaz .u32 (elt (.int .u32) c 0) (elt (.int .u32) c 2))) (qaz .u32 (elt (.int .u32) c 1) (elt (.int .u32) c 2))))))),(elt (.int .u32) c 0),(elt (.int .u32) c 1),(elt (.int .u32) c 2),(IntKind.wrap .u32 ((elt (.int .u32) c 3)+(IntKind.wrap .u32 ((IntKind.wrap .u32 ((IntKind.wrap .u32 ((IntKind.wrap .u32 ((elt (.int .u32) c 7)+m))+(u9 .u32 (qaz .u32 (elt (.int .u32) c 4) (elt (.int .u32) c 5)) (qaz .u32 (u9 .u32 (4294967295:Int) (elt (.int .u32) c 4)) (elt (.int .u32) c 6)))))+(elt (.int .u32) ku x51.toNat)))+(elt (.int .u32) c1 x51.toNat))))),(elt (.int .u32) c 4),(elt (.int .u32) c 5),(elt (.int .u32) c 6)],(c1,(c2,c3)))) else none else none else none else none else none else none else none else none else none else none else none else none else none else none else none else none else none else none else none else none else none) else
 some (c2,(c,c3))
def qdf:Fu (Int×(Y05×Y10)) Y10:=kc qch
theorem qme q:qdf q=qch qdf q:=ko q
def qci(self:Fu (Int×Y10) Y0l):Fu (Int×Y10) Y0l:=fun(x119,c,c1,c2)=>
 if(decide (x119<(8:Int))) then(if((0:Int)≤x119) then
 if(x119<(8:Int)) then
 if(x119.toNat<c.length) then
 if((0:Int)≤x119) then
 if(x119<(8:Int)) then
 if(x119.toNat<c1.length) then
 if((0:Int)≤x119) then
 if(x119<(8:Int)) then
 if(x119.toNat<c.length) then
 self ((w64 (x119+(1:Int))),((List.set c x119.toNat (IntKind.wrap .u32 ((elt (.int .u32) c x119.toNat)+(elt (.int .u32) c1 x119.toNat)))),(c1,c2))) else none else none else none else none else none else none else none else none else none) else
 some (c2,c)
def qan:Fu (Int×Y10) Y0l:=kc qci
theorem qmf q:qan q=qci qan q:=ko q
def z04:Fu (Y28×Str) Y28:=fun(h,s)=>
 qeo (((0:Int),s),((List.replicate 64 (0:Int)),([h.1,h.2.1,h.2.2.1,h.2.2.2.1,h.2.2.2.2.1,h.2.2.2.2.2.1,h.2.2.2.2.2.2.1,h.2.2.2.2.2.2.2],[0,0,0,0,0,0,0,0])))>>=fun r=>
 if(8≤r.2.1.length) then
 qdf ((0:Int),([(elt (.int .u32) r.2.1 0),(elt (.int .u32) r.2.1 1),(elt (.int .u32) r.2.1 2),(elt (.int .u32) r.2.1 3),(elt (.int .u32) r.2.1 4),(elt (.int .u32) r.2.1 5),(elt (.int .u32) r.2.1 6),(elt (.int .u32) r.2.1 7)],r))>>=fun r1=>
 qan ((0:Int),r1)>>=fun r2=>
 if(8≤r2.2.length) then
 if(r2.1.length=8) then
 some ((elt (.int .u32) r2.2 0),((elt (.int .u32) r2.2 1),((elt (.int .u32) r2.2 2),((elt (.int .u32) r2.2 3),((elt (.int .u32) r2.2 4),((elt (.int .u32) r2.2 5),((elt (.int .u32) r2.2 6),(elt (.int .u32) r2.2 7)))))))) else none else none else none
def qcc(self:Fu (Str×Y05) Y05):Fu (Str×Y05) Y05:=fun(s,c)=>
 if(s !=[]) then(if(8≤c.length) then
 z04 (((elt (.int .u32) c 0),((elt (.int .u32) c 1),((elt (.int .u32) c 2),((elt (.int .u32) c 3),((elt (.int .u32) c 4),((elt (.int .u32) c 5),((elt (.int .u32) c 6),(elt (.int .u32) c 7)))))))),s)>>=fun o=>
 if(c.length=8) then
 if((64:Int)≤(s.length:Int)) then
 if((s.length:Int)≤(s.length:Int)) then
 self ((List.drop 64 (List.take (s.length:Int).toNat s)),[o.1,o.2.1,o.2.2.1,o.2.2.2.1,o.2.2.2.2.1,o.2.2.2.2.2.1,o.2.2.2.2.2.2.1,o.2.2.2.2.2.2.2]) else none else none else none else none) else
 some c
def qfz:Fu (Str×Y05) Y05:=kc qcc
theorem ql7 q:qfz q=qcc qfz q:=ko q
def vp(self:Fu Y2e Y05):Fu Y2e Y05:=fun((x46,x45),c)=>
 if(decide (x46<(8:Int))) then(if(decide (x46=(7:Int))) then(if(qq (c.length+[(IntKind.wrap .u8 (ja .u32 x45.2.2.2.2.2.2.2 (24:Int))),(IntKind.wrap .u8 (ja .u32 x45.2.2.2.2.2.2.2 (16:Int))),(IntKind.wrap .u8 (ja .u32 x45.2.2.2.2.2.2.2 (8:Int))),(IntKind.wrap .u8 x45.2.2.2.2.2.2.2)].length) 1) then
 self (((w64 ((7:Int)+(1:Int))),x45),(c++[(IntKind.wrap .u8 (ja .u32 x45.2.2.2.2.2.2.2 (24:Int))),(IntKind.wrap .u8 (ja .u32 x45.2.2.2.2.2.2.2 (16:Int))),(IntKind.wrap .u8 (ja .u32 x45.2.2.2.2.2.2.2 (8:Int))),(IntKind.wrap .u8 x45.2.2.2.2.2.2.2)])) else none) else
 if(decide (x46=(6:Int))) then(if(qq (c.length+[(IntKind.wrap .u8 (ja .u32 x45.2.2.2.2.2.2.1 (24:Int))),(IntKind.wrap .u8 (ja .u32 x45.2.2.2.2.2.2.1 (16:Int))),(IntKind.wrap .u8 (ja .u32 x45.2.2.2.2.2.2.1 (8:Int))),(IntKind.wrap .u8 x45.2.2.2.2.2.2.1)].length) 1) then
 self (((w64 ((6:Int)+(1:Int))),x45),(c++[(IntKind.wrap .u8 (ja .u32 x45.2.2.2.2.2.2.1 (24:Int))),(IntKind.wrap .u8 (ja .u32 x45.2.2.2.2.2.2.1 (16:Int))),(IntKind.wrap .u8 (ja .u32 x45.2.2.2.2.2.2.1 (8:Int))),(IntKind.wrap .u8 x45.2.2.2.2.2.2.1)])) else none) else
 if(decide (x46=(5:Int))) then(if(qq (c.length+[(IntKind.wrap .u8 (ja .u32 x45.2.2.2.2.2.1 (24:Int))),(IntKind.wrap .u8 (ja .u32 x45.2.2.2.2.2.1 (16:Int))),(IntKind.wrap .u8 (ja .u32 x45.2.2.2.2.2.1 (8:Int))),(IntKind.wrap .u8 x45.2.2.2.2.2.1)].length) 1) then
 self (((w64 ((5:Int)+(1:Int))),x45),(c++[(IntKind.wrap .u8 (ja .u32 x45.2.2.2.2.2.1 (24:Int))),(IntKind.wrap .u8 (ja .u32 x45.2.2.2.2.2.1 (16:Int))),(IntKind.wrap .u8 (ja .u32 x45.2.2.2.2.2.1 (8:Int))),(IntKind.wrap .u8 x45.2.2.2.2.2.1)])) else none) else
 if(decide (x46=(4:Int))) then(if(qq (c.length+[(IntKind.wrap .u8 (ja .u32 x45.2.2.2.2.1 (24:Int))),(IntKind.wrap .u8 (ja .u32 x45.2.2.2.2.1 (16:Int))),(IntKind.wrap .u8 (ja .u32 x45.2.2.2.2.1 (8:Int))),(IntKind.wrap .u8 x45.2.2.2.2.1)].length) 1) then
 self (((w64 ((4:Int)+(1:Int))),x45),(c++[(IntKind.wrap .u8 (ja .u32 x45.2.2.2.2.1 (24:Int))),(IntKind.wrap .u8 (ja .u32 x45.2.2.2.2.1 (16:Int))),(IntKind.wrap .u8 (ja .u32 x45.2.2.2.2.1 (8:Int))),(IntKind.wrap .u8 x45.2.2.2.2.1)])) else none) else
 if(decide (x46=(3:Int))) then(if(qq (c.length+[(IntKind.wrap .u8 (ja .u32 x45.2.2.2.1 (24:Int))),(IntKind.wrap .u8 (ja .u32 x45.2.2.2.1 (16:Int))),(IntKind.wrap .u8 (ja .u32 x45.2.2.2.1 (8:Int))),(IntKind.wrap .u8 x45.2.2.2.1)].length) 1) then
 self (((w64 ((3:Int)+(1:Int))),x45),(c++[(IntKind.wrap .u8 (ja .u32 x45.2.2.2.1 (24:Int))),(IntKind.wrap .u8 (ja .u32 x45.2.2.2.1 (16:Int))),(IntKind.wrap .u8 (ja .u32 x45.2.2.2.1 (8:Int))),(IntKind.wrap .u8 x45.2.2.2.1)])) else none) else
 if(decide (x46=(2:Int))) then(if(qq (c.length+[(IntKind.wrap .u8 (ja .u32 x45.2.2.1 (24:Int))),(IntKind.wrap .u8 (ja .u32 x45.2.2.1 (16:Int))),(IntKind.wrap .u8 (ja .u32 x45.2.2.1 (8:Int))),(IntKind.wrap .u8 x45.2.2.1)].length) 1) then
 self (((w64 ((2:Int)+(1:Int))),x45),(c++[(IntKind.wrap .u8 (ja .u32 x45.2.2.1 (24:Int))),(IntKind.wrap .u8 (ja .u32 x45.2.2.1 (16:Int))),(IntKind.wrap .u8 (ja .u32 x45.2.2.1 (8:Int))),(IntKind.wrap .u8 x45.2.2.1)])) else none) else
 if(decide (x46=(1:Int))) then(if(qq (c.length+[(IntKind.wrap .u8 (ja .u32 x45.2.1 (24:Int))),(IntKind.wrap .u8 (ja .u32 x45.2.1 (16:Int))),(IntKind.wrap .u8 (ja .u32 x45.2.1 (8:Int))),(IntKind.wrap .u8 x45.2.1)].length) 1) then
 self (((w64 ((1:Int)+(1:Int))),x45),(c++[(IntKind.wrap .u8 (ja .u32 x45.2.1 (24:Int))),(IntKind.wrap .u8 (ja .u32 x45.2.1 (16:Int))),(IntKind.wrap .u8 (ja .u32 x45.2.1 (8:Int))),(IntKind.wrap .u8 x45.2.1)])) else none) else
 if(decide (x46=(0:Int))) then(if(qq (c.length+[(IntKind.wrap .u8 (ja .u32 x45.1 (24:Int))),(IntKind.wrap .u8 (ja .u32 x45.1 (16:Int))),(IntKind.wrap .u8 (ja .u32 x45.1 (8:Int))),(IntKind.wrap .u8 x45.1)].length) 1) then
 self (((w64 ((0:Int)+(1:Int))),x45),(c++[(IntKind.wrap .u8 (ja .u32 x45.1 (24:Int))),(IntKind.wrap .u8 (ja .u32 x45.1 (16:Int))),(IntKind.wrap .u8 (ja .u32 x45.1 (8:Int))),(IntKind.wrap .u8 x45.1)])) else none) else
 none) else
 some c
def jt:Fu Y2e Y05:=kc vp
theorem vg q:jt q=vp jt q:=ko q
def z00:Fu Y01 (Str):=fun q6=>
 yw (q6,[])>>=fun j=>
 if((j.length+([128]:Str).length)≤9223372036854775807) then
 qsd ((j++([128]:Str)),(IntKind.wrap .u64 ((IntKind.wrap .u64 (j.length:Int))*(8:Int))))>>=fun r=>
 qfy ((7:Int),r)>>=fun r1=>
 z32 ()>>=fun b=>
 qfz (r1,[b.1,b.2.1,b.2.2.1,b.2.2.2.1,b.2.2.2.2.1,b.2.2.2.2.2.1,b.2.2.2.2.2.2.1,b.2.2.2.2.2.2.2])>>=fun r2=>
 if(8≤r2.length) then
 jt (((0:Int),((elt (.int .u32) r2 0),((elt (.int .u32) r2 1),((elt (.int .u32) r2 2),((elt (.int .u32) r2 3),((elt (.int .u32) r2 4),((elt (.int .u32) r2 5),((elt (.int .u32) r2 6),(elt (.int .u32) r2 7))))))))),[])>>=fun r3=>
 some (jm r3) else none else none
def z1w:Fu Str (Str):=fun s=>
 z00 [s]>>=fun s1=>
 qjj s1>>=fun h=>
 if((([115,104,97,50,53,54,58]:Str).length+h.length)≤9223372036854775807) then
 some (([115,104,97,50,53,54,58]:Str)++h) else none
def qgc(self:Fu ((Int×((List GVal)×Int))×((Bool×Str)×((Bool×Str)×(GVal×Y0r)))) ((Bool×Str)×((Bool×Str)×(GVal×Y0r)))):Fu ((Int×((List GVal)×Int))×((Bool×Str)×((Bool×Str)×(GVal×Y0r)))) ((Bool×Str)×((Bool×Str)×(GVal×Y0r))):=fun((x49,x47,x48),c,c1,c2,c3)=>
 if(decide (x49<x48)) then(if((0:Int)≤x49) then
 if(x49<(x47.length:Int)) then
 z0o ((elt .val x47 x49.toNat).re,(([100,105,103,101,115,116]:Str),(2:Int)))>>=fun g=>
 z0o ((elt .val x47 x49.toNat).re,(([115,105,122,101]:Str),(1:Int)))>>=fun g1=>
 if(qq (c3.length+[(g.1.s,g1.1.n)].length) 24) then
 self (((w64 (x49+(1:Int))),(x47,x48)),(c,(c1,(c2.re,(c3++[(g.1.s,g1.1.n)]))))) else none else none else none) else
 some (c,(c1,(c2.re,c3)))
def qmo:Fu ((Int×((List GVal)×Int))×((Bool×Str)×((Bool×Str)×(GVal×Y0r)))) ((Bool×Str)×((Bool×Str)×(GVal×Y0r))):=kc qgc
theorem qpq q:qmo q=qgc qmo q:=ko q
def qco(self:Fu ((Int×((List GVal)×Int))×Y1e) Y1e):Fu ((Int×((List GVal)×Int))×Y1e) Y1e:=fun((x77,x75,x76),c,c1,c2,c3)=>
 if(decide (x77<x76)) then(if((0:Int)≤x77) then
 if(x77<(x75.length:Int)) then
 if(qq (c3.length+[(elt .val x75 x77.toNat).s].length) 16) then
 self (((w64 (x77+(1:Int))),(x75,x76)),(c,(c1,(c2,(c3++[(elt .val x75 x77.toNat).s]))))) else none else none else none) else
 some (c1,(c,(c2,c3)))
def qgb:Fu ((Int×((List GVal)×Int))×Y1e) Y1e:=kc qco
theorem qmn q:qgb q=qco qgb q:=ko q
def z0c:Fu GVal Y1d:=fun v=>
 z0o (v.re,(([107,105,110,100]:Str),(2:Int)))>>=fun g=>
 z0o (v.re,(([99,111,110,102,105,103]:Str),(2:Int)))>>=fun g1=>
 z0o (v.re,(([108,97,121,101,114,115]:Str),(3:Int)))>>=fun g2=>
 z0o (v.re,(([107,105,100,115]:Str),(3:Int)))>>=fun g3=>
 qmo (((0:Int),(g2.1.items,(g2.1.items.length:Int))),(((g.1.s==([105,110,100,101,120]:Str)),g1.1.s),((false,[]),(g3.1.re,[]))))>>=fun r=>
 qgb (((0:Int),(r.2.2.1.items,(r.2.2.1.items.length:Int))),(r.1,(r.2.1,(r.2.2.2,[]))))>>=fun r1=>
 some (r1.2.1.1,(r1.2.1.2,r1.2.2))
def z1e:Fu Str (Y1d×Int):=fun s=>
 z2e s>>=fun p=>
 if(p.2 !=(0:Int)) then some ((false,([],([],[]))),p.2) else
 z0c p.1.re>>=fun r=>
 z1s r>>=fun p1=>
 if(p1.2 !=(0:Int)) then some ((false,([],([],[]))),(8:Int)) else
 if(p1.1 !=s) then some ((false,([],([],[]))),(8:Int)) else
 some (r,(0:Int))
end Go.Plain
namespace Go.Plain
open Go.AM
set_option linter.unusedVariables false
end Go.Plain
namespace Go.Plain
open Go.AM
set_option linter.unusedVariables false
def z2x:Fu Y0f (Bool×Str):=fun(o,c)=>
 some ((o.1==c),c)
def qgp(self:Fu Y14 Y08):Fu Y14 Y08:=fun((x8,s,x7),c)=>
 if(decide (x8<x7)) then(if((0:Int)≤x8) then
 if(x8<(s.length:Int)) then
 z2x ((elt y00 s x8.toNat),c)>>=fun d=>
 if d.1 then some (.inl (x8,d.2)) else
 self (((w64 (x8+(1:Int))),(s,x7)),d.2) else none else none) else
 some (.inr c)
def qeq:Fu Y14 Y08:=kc qgp
theorem qp3 q:qeq q=qgp qeq q:=ko q
def z0y:Fu Y0p Y02:=fun(s,c)=>
 qeq (((0:Int),(s,(s.length:Int))),c)>>=fun r=>
 Sum.elim (fun r1=>some r1) (fun r1=>some ((-1:Int),r1)) r
def z25:Fu Y00 (Int):=fun(digest,data)=>
 z1t digest>>=fun p=>
 if(p.2 !=(0:Int)) then some p.2 else
 z00 [data]>>=fun s=>
 if(s !=p.1) then some (10:Int) else
 some (0:Int)
def z0n:Fu Y0p Y03:=fun(l,d)=>
 z0y (l,d)>>=fun o=>
 if(decide (o.1<(0:Int))) then some ([],(9:Int)) else
 if((0:Int)≤o.1) then
 if(o.1<(l.length:Int)) then
 z25 (o.2,(elt y00 l o.1.toNat).2)>>=fun f=>
 if(f !=(0:Int)) then some ([],(10:Int)) else
 if((0:Int)≤o.1) then
 if(o.1<(l.length:Int)) then
 some ((elt y00 l o.1.toNat).2,(0:Int)) else none else none else none else none
def qcp(self:Fu Y1f Y1i):Fu Y1f Y1i:=fun((x47,x45,d,x46),c,c1,c2)=>
 if(decide (x47<x46)) then(if((0:Int)≤x47) then
 if(x47<(x45.length:Int)) then
 z0f (c2,(elt .str x45 x47.toNat))>>=fun s=>
 if(!s) then(if(qq (c2.length+[(elt .str x45 x47.toNat)].length) 16) then
 self (((w64 (x47+(1:Int))),(x45,(d,x46))),(c,(c1,(c2++[(elt .str x45 x47.toNat)])))) else none) else
 self (((w64 (x47+(1:Int))),(x45,(d,x46))),(c,(c1,c2))) else none else none) else
 some (d,(c,(c1,c2)))
def qdh:Fu Y1f Y1i:=kc qcp
theorem qms q:qdh q=qcp qdh q:=ko q
abbrev qf7:=Y1m⊕Y1g⊕Y1n⊕Y1k
abbrev qcm:qf7→Type
 |(.inl _)=>(Int×Y1c)
 |(.inr (.inl _))=>Y1c
 |(.inr (.inr (.inl _)))=>(Int×Y1c)
 |(.inr (.inr (.inr _)))=>(Int×Y1c)⊕Y1c
def q77(z07:Y1m→Option ((Int×Y1c)))(z0h:Y1g→Option (Y1c))(z0d:Y1n→Option ((Int×Y1c)))(xv:Y1k→Option Y1l):Y1m→Option ((Int×Y1c)):=fun(k,c,c1,c2,c3)=>
 z0f (c2,k)>>=fun s=>
 if s then some ((0:Int),(c,(c1,(c2,c3)))) else
 z0h ((k,(w64 (c+(1:Int)))),(c1,(c2,c3)))>>=fun w=>
 some (w.1,(c,w.2))
def q51(z07:Y1m→Option ((Int×Y1c)))(z0h:Y1g→Option (Y1c))(z0d:Y1n→Option ((Int×Y1c)))(xv:Y1k→Option Y1l):Y1g→Option (Y1c):=fun((d,depth),c,c1,c2)=>
 if(decide (depth>(4:Int))) then some ((7:Int),(c,(c1,c2))) else
 z0n (c,d)>>=fun f=>
 if(f.2 !=(0:Int)) then some (f.2,(c,(c1,c2))) else
 z1e f.1>>=fun p=>
 if(p.2 !=(0:Int)) then some (p.2,(c,(c1,c2))) else
 z0d (p.1.2.2.2,(depth,(c,(c1,c2))))>>=fun d1=>
 if(d1.1 !=(0:Int)) then some (d1.1,d1.2.2) else
 z0k p.1>>=fun b=>
 qdh (((0:Int),(b,(d,(b.length:Int)))),d1.2.2)>>=fun r=>
 if(qq (r.2.2.1.length+[r.1].length) 16) then
 some ((0:Int),(r.2.1,((r.2.2.1++[r.1]),r.2.2.2))) else none
def q79(z07:Y1m→Option ((Int×Y1c)))(z0h:Y1g→Option (Y1c))(z0d:Y1n→Option ((Int×Y1c)))(xv:Y1k→Option Y1l):Y1n→Option ((Int×Y1c)):=fun(l,c,c1,c2,c3)=>
 xv (((0:Int),(l,(l.length:Int))),(c,(c1,(c2,c3))))>>=fun r=>
 Sum.elim (fun r1=>some r1) (fun r1=>some ((0:Int),r1)) r
def qgd(z07:Y1m→Option ((Int×Y1c)))(z0h:Y1g→Option (Y1c))(z0d:Y1n→Option ((Int×Y1c)))(xv:Y1k→Option Y1l):Y1k→Option Y1l:=fun((x10,x8,x9),c,c1,c2,c3)=>
 if(decide (x10<x9)) then(if((0:Int)≤x10) then
 if(x10<(x8.length:Int)) then
 z07 ((elt .str x8 x10.toNat),(c,(c1,(c2,c3))))>>=fun n=>
 if(n.1 !=(0:Int)) then some (.inl n) else
 xv (((w64 (x10+(1:Int))),(x8,x9)),n.2) else none else none) else
 some (.inr (c,(c1,(c2,c3))))
def gx(u: ∀a,Option (qcm a)): ∀a,Option (qcm a)
 |(.inl q)=>q77 (fun q=>u (.inl q)) (fun q=>u (.inr (.inl q))) (fun q=>u (.inr (.inr (.inl q)))) (fun q=>u (.inr (.inr (.inr q)))) q
 |(.inr (.inl q))=>q51 (fun q=>u (.inl q)) (fun q=>u (.inr (.inl q))) (fun q=>u (.inr (.inr (.inl q)))) (fun q=>u (.inr (.inr (.inr q)))) q
 |(.inr (.inr (.inl q)))=>q79 (fun q=>u (.inl q)) (fun q=>u (.inr (.inl q))) (fun q=>u (.inr (.inr (.inl q)))) (fun q=>u (.inr (.inr (.inr q)))) q
 |(.inr (.inr (.inr q)))=>qgd (fun q=>u (.inl q)) (fun q=>u (.inr (.inl q))) (fun q=>u (.inr (.inr (.inl q)))) (fun q=>u (.inr (.inr (.inr q)))) q
def z07(q:Y1m):Option ((Int×Y1c)):=xw gx (.inl q)
def z0h(q:Y1g):Option (Y1c):=xw gx (.inr (.inl q))
def z0d(q:Y1n):Option ((Int×Y1c)):=xw gx (.inr (.inr (.inl q)))
def xv(q:Y1k):Option Y1l:=xw gx (.inr (.inr (.inr q)))
theorem qy0: ∀a,Cont fun u=>gx u a
 |(.inl (k,c,c1,c2,c3))=>by unfold gx q77;exact(.bind (.const _) fun _=>(.ite (.const _) (.bind (.app _) fun _=>(.const _))))
 |(.inr (.inl ((d,depth),c,c1,c2)))=>by unfold gx q51;exact(.ite (.const _) (.bind (.const _) fun _=>(.ite (.const _) (.bind (.const _) fun _=>(.ite (.const _) (.bind (.app _) fun _=>(.const _)))))))
 |(.inr (.inr (.inl (l,c,c1,c2,c3))))=>by unfold gx q79;exact(.bind (.app _) fun _=>(.const _))
 |(.inr (.inr (.inr ((x10,x8,x9),c,c1,c2,c3))))=>by unfold gx qgd;exact(.ite (.ite (.ite (.bind (.app _) fun _=>(.ite (.const _) (.app _))) (.const _)) (.const _)) (.const _))
theorem ja9 q:z07 q=q77 z07 z0h z0d xv q:=k7 qy0 (.inl q)
theorem q52 q:z0h q=q51 z07 z0h z0d xv q:=k7 qy0 (.inr (.inl q))
theorem jbc q:z0d q=q79 z07 z0h z0d xv q:=k7 qy0 (.inr (.inr (.inl q)))
theorem qpr q:xv q=qgd z07 z0h z0d xv q:=k7 qy0 (.inr (.inr (.inr q)))
def qgv(self:Fu Y1k Y1l):Fu Y1k Y1l:=fun((x10,x8,x9),c,c1,c2,c3)=>
 if(decide (x10<x9)) then(if((0:Int)≤x10) then
 if(x10<(x8.length:Int)) then
 z07 ((elt .str x8 x10.toNat),(c,(c1,(c2,c3))))>>=fun n=>
 if(n.1 !=(0:Int)) then some (.inl n) else
 self (((w64 (x10+(1:Int))),(x8,x9)),n.2) else none else none) else
 some (.inr (c,(c1,(c2,c3))))
def qm8:Fu Y1k Y1l:=kc qgv
theorem qp8 q:qm8 q=qgv qm8 q:=ko q
def z14:Fu (Y01×(Int×Y0g)) (Int×Y1c):=fun(l,c,c1)=>
 qm8 (((0:Int),(l,(l.length:Int))),(c,(c1,([],[]))))>>=fun r=>
 Sum.elim (fun r1=>some r1) (fun r1=>some ((0:Int),r1)) r
def qcq(self:Fu Y1f Y1i):Fu Y1f Y1i:=fun((x47,x45,d,x46),c,c1,c2)=>
 if(decide (x47<x46)) then(if((0:Int)≤x47) then
 if(x47<(x45.length:Int)) then
 z0f (c2,(elt .str x45 x47.toNat))>>=fun s=>
 if(!s) then(if(qq (c2.length+[(elt .str x45 x47.toNat)].length) 16) then
 self (((w64 (x47+(1:Int))),(x45,(d,x46))),(c,(c1,(c2++[(elt .str x45 x47.toNat)])))) else none) else
 self (((w64 (x47+(1:Int))),(x45,(d,x46))),(c,(c1,c2))) else none else none) else
 some (d,(c,(c1,c2)))
def qgu:Fu Y1f Y1i:=kc qcq
theorem qm7 q:qgu q=qcq qgu q:=ko q
def z13:Fu (Y03×Y0g) Y1c:=fun((d,depth),c)=>
 if(decide (depth>(4:Int))) then some ((7:Int),(c,([],[]))) else
 z0n (c,d)>>=fun f=>
 if(f.2 !=(0:Int)) then some (f.2,(c,([],[]))) else
 z1e f.1>>=fun p=>
 if(p.2 !=(0:Int)) then some (p.2,(c,([],[]))) else
 z14 (p.1.2.2.2,(depth,c))>>=fun e=>
 if(e.1 !=(0:Int)) then some (e.1,e.2.2) else
 z0k p.1>>=fun b=>
 qgu (((0:Int),(b,(d,(b.length:Int)))),e.2.2)>>=fun r=>
 if(qq (r.2.2.1.length+[r.1].length) 16) then
 some ((0:Int),(r.2.1,((r.2.2.1++[r.1]),r.2.2.2))) else none
def z26:Fu Y0p (Y0i×Int):=fun(l,d)=>
 z13 ((d,(1:Int)),l)>>=fun z=>
 if(z.1 !=(0:Int)) then some (([],[]),z.1) else
 some (z.2.2,(0:Int))
end Go.Plain
namespace Go.AM
set_option linter.unusedSectionVars false
def q7z:List (Int×(Str×Y06)):=[
 (1,([98,108,111,98],(1,2))),(2,([112,117,116],(1,2))),(3,([110,97,109,101],(1,3))),(4,([117,110,110,97,109,101],(1,2))),
 (5,([114,117,108,101],(3,4))),(6,([117,110,115,101,116],(1,0))),(7,([102,105,114,101],(1,0))),(8,([116,105,99,107],(1,0))),
 (9,([115,116,101,112],(2,0))),(10,([115,116,111,112],(1,0))),(11,([97,103,97,105,110],(1,0))),(12,([99,114,97,115,104],(7,3)))]
variable [Lay]
end Go.AM
