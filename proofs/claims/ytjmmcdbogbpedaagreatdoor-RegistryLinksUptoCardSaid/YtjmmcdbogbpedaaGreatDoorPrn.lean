import Derived.Test.YtjmmcdbogbpedaaGreatDoorBMLib
noncomputable section
namespace Go.Plain
def jh:List Int:=[1116352408,1899447441,3049323471,3921009573,961987163,1508970993,2453635748,2870763221,3624381080,310598401,607225278,1426881987,1925078388,2162078206,2614888103,3248222580,3835390401,4022224774,264347078,604807628,770255983,1249150122,1555081692,1996064986,2554220882,2821834349,2952996808,3210313671,3336571891,3584528711,113926993,338241895,666307205,773529912,1294757372,1396182291,1695183700,1986661051,2177026350,2456956037,2730485921,2820302411,3259730800,3345764771,3516065817,3600352804,4094571909,275423344,430227734,506948616,659060556,883997877,958139571,1322822218,1537002063,1747873779,1955562222,2024104815,2227730452,2361852424,2428436474,2756734187,3204031479,3329325298]
end Go.Plain
namespace Go.Plain
open Go.AM
set_option linter.unusedVariables false
def z2p:Fu Str (Str⊕Y02):=fun c=>
 if(c==[]) then some (.inl c) else
 if((0:Int)<(c.length:Int)) then
 some (.inr ((bt c (0:Int)),c)) else none
def z2k:Fu Y02 (Str⊕Str):=fun(c,c1)=>
 z2p c1>>=fun e=>
 Sum.elim (fun e1=>some (.inl e1)) (fun e1=>if(e1.1 !=c) then some (.inl e1.2) else
 if((1:Int)≤(e1.2.length:Int)) then
 if((e1.2.length:Int)≤(e1.2.length:Int)) then
 some (.inr (List.drop 1 (List.take (e1.2.length:Int).toNat e1.2))) else none else none) e
def z2r:Fu Str (Str⊕Y00):=fun c=>
 z2k ((34:Int),c)>>=fun y=>
 Sum.elim (fun y1=>some (.inl y1)) (fun y1=>qhb (y1,([34]:Str))>>=fun c1=>
 if(!c1.2.2) then some (.inl y1) else
 some (.inr (c1.1,c1.2.1))) y
def qjp(self:Fu (Y0v×(Str×(GVal×GVal))) (Str×(GVal×GVal))):Fu (Y0v×(Str×(GVal×GVal))) (Str×(GVal×GVal)):=fun((x53,w,x52),c,c1,c2)=>
 if(decide (x53<x52)) then(if((0:Int)≤x53) then
 if(x53<(w.length:Int)) then
 self (((w64 (x53+(1:Int))),(w,x52)),(c,((GVal.mk c1.kind (w64 ((w64 ((10:Int)*c1.n))+(w64 (IntKind.wrap .u8 ((bt w x53)-(48:Int)))))) c1.s c1.items c1.names),c2.re))) else none else none) else
 some (c,(c2.re,c1.re))
def qk7:Fu (Y0v×(Str×(GVal×GVal))) (Str×(GVal×GVal)):=qt qjp
theorem qvy q:qk7 q=qjp qk7 q:=qw q
def z1q:Fu Str (Str⊕(GVal×Str)):=fun c=>
 yn (c,([48,49,50,51,52,53,54,55,56,57]:Str))>>=fun t=>
 if((0:Int)≤(w64 ((c.length:Int)-(t.length:Int)))) then
 if((w64 ((c.length:Int)-(t.length:Int)))≤(c.length:Int)) then
 if((0:Int)≤(w64 ((c.length:Int)-(t.length:Int)))) then
 if((w64 ((c.length:Int)-(t.length:Int)))≤(c.length:Int)) then
 if((c.length:Int)≤(c.length:Int)) then
 if((w64 ((c.length:Int)-(t.length:Int)))==(0:Int)) then some (.inl (List.drop (w64 ((c.length:Int)-(t.length:Int))).toNat (List.take (c.length:Int).toNat c))) else
 if(decide ((w64 ((c.length:Int)-(t.length:Int)))>(13:Int))) then some (.inl (List.drop (w64 ((c.length:Int)-(t.length:Int))).toNat (List.take (c.length:Int).toNat c))) else
 if(decide ((w64 ((c.length:Int)-(t.length:Int)))>(1:Int))) then(if((0:Int)<((List.take (w64 ((c.length:Int)-(t.length:Int))).toNat c).length:Int)) then
 if((bt (List.take (w64 ((c.length:Int)-(t.length:Int))).toNat c) (0:Int))==(48:Int)) then some (.inl (List.drop (w64 ((c.length:Int)-(t.length:Int))).toNat (List.take (c.length:Int).toNat c))) else
 qk7 (((0:Int),((List.take (w64 ((c.length:Int)-(t.length:Int))).toNat c),(w64 ((c.length:Int)-(t.length:Int))))),((List.drop (w64 ((c.length:Int)-(t.length:Int))).toNat (List.take (c.length:Int).toNat c)),((GVal.mk (1:Int) (0:Int) [] [] []),(GVal.mk (0:Int) (0:Int) [] [] []))))>>=fun r=>
 some (.inr (r.2.2.re,r.1)) else none) else
 qk7 (((0:Int),((List.take (w64 ((c.length:Int)-(t.length:Int))).toNat c),(w64 ((c.length:Int)-(t.length:Int))))),((List.drop (w64 ((c.length:Int)-(t.length:Int))).toNat (List.take (c.length:Int).toNat c)),((GVal.mk (1:Int) (0:Int) [] [] []),(GVal.mk (0:Int) (0:Int) [] [] []))))>>=fun r=>
 some (.inr (r.2.2.re,r.1)) else none else none else none else none else none
abbrev qqk:=Y02⊕Y1k⊕(Y07×(Str×(Y0u×(GVal×((List GVal)×Y01)))))
abbrev qig:qqk→Type
 |(.inl _)=>Str⊕(GVal×Str)
 |(.inr (.inl _))=>Str⊕(GVal×Str)
 |(.inr (.inr _))=>Str⊕(Int×(Str×(GVal×(Y0u×((List GVal)×Y01)))))
def jeu(z0b:Y02→Option (Str⊕(GVal×Str)))(z0i:Y1k→Option (Str⊕(GVal×Str)))(vl:(Y07×(Str×(Y0u×(GVal×((List GVal)×Y01)))))→Option (Str⊕(Int×(Str×(GVal×(Y0u×((List GVal)×Y01))))))):Y02→Option (Str⊕(GVal×Str)):=fun(deep,c)=>
 if(deep==(0:Int)) then some (.inl c) else
 z2p c>>=fun e=>
 Sum.elim (fun e1=>some (.inl e1)) (fun e1=>if(e1.1==(34:Int)) then(z2r e1.2>>=fun e2=>
 Sum.elim (fun e3=>some (.inl e3)) (fun e3=>some (.inr ((GVal.mk (2:Int) (0:Int) e3.1 [] []),e3.2))) e2) else
 if(e1.1==(91:Int)) then(z0i ((((3:Int),((0:Int),[])),((93:Int),deep)),e1.2)>>=fun t=>
 Sum.elim (fun t1=>some (.inl t1)) (fun t1=>some (.inr (t1.1.re,t1.2))) t) else
 if(e1.1==(123:Int)) then(z0i ((((4:Int),((0:Int),[])),((125:Int),deep)),e1.2)>>=fun t=>
 Sum.elim (fun t1=>some (.inl t1)) (fun t1=>some (.inr (t1.1.re,t1.2))) t) else
 z1q e1.2>>=fun e2=>
 Sum.elim (fun e3=>some (.inl e3)) (fun e3=>some (.inr (e3.1.re,e3.2))) e2) e
def q83(z0b:Y02→Option (Str⊕(GVal×Str)))(z0i:Y1k→Option (Str⊕(GVal×Str)))(vl:(Y07×(Str×(Y0u×(GVal×((List GVal)×Y01)))))→Option (Str⊕(Int×(Str×(GVal×(Y0u×((List GVal)×Y01))))))):Y1k→Option (Str⊕(GVal×Str)):=fun((v,end1,deep),c)=>
 if((1:Int)≤(c.length:Int)) then
 if((c.length:Int)≤(c.length:Int)) then
 vl ((deep,end1),((List.drop 1 (List.take (c.length:Int).toNat c)),(v,((GVal.mk (0:Int) (0:Int) [] [] []),([],[])))))>>=fun r=>
 Sum.elim (fun r1=>some (.inl r1)) (fun r1=>z2k (r1.1,r1.2.1)>>=fun y=>
 Sum.elim (fun y1=>some (.inl y1)) (fun y1=>some (.inr ((GVal.mk r1.2.2.2.1.1 r1.2.2.2.1.2.1 r1.2.2.2.1.2.2 r1.2.2.2.2.1 r1.2.2.2.2.2),y1))) y) r else none else none
def qyr(z0b:Y02→Option (Str⊕(GVal×Str)))(z0i:Y1k→Option (Str⊕(GVal×Str)))(vl:(Y07×(Str×(Y0u×(GVal×((List GVal)×Y01)))))→Option (Str⊕(Int×(Str×(GVal×(Y0u×((List GVal)×Y01))))))):(Y07×(Str×(Y0u×(GVal×((List GVal)×Y01)))))→Option (Str⊕(Int×(Str×(GVal×(Y0u×((List GVal)×Y01)))))):=fun((deep,end1),c,c1,c2,c3,c4)=>
 z2p c>>=fun e=>
 Sum.elim (fun e1=>some (.inl e1)) (fun e1=>if(e1.1 !=end1) then(if(decide ((c3.length:Int)>(0:Int))) then(z2k ((44:Int),e1.2)>>=fun y=>
 Sum.elim (fun y1=>some (.inl y1)) (fun y1=>if(c1.1==(4:Int)) then(z2r y1>>=fun e2=>
 Sum.elim (fun e3=>some (.inl e3)) (fun e3=>if(qi (c4.length+[e3.1].length) 16) then
 z2k ((58:Int),e3.2)>>=fun y2=>
 Sum.elim (fun y3=>some (.inl y3)) (fun y3=>z0b ((w64 (deep-(1:Int))),y3)>>=fun e4=>
 Sum.elim (fun e5=>some (.inl e5)) (fun e5=>if(qi (c3.length+[e5.1.re].length) 80) then
 if(decide (((c3++[e5.1.re]).length:Int)>(16:Int))) then some (.inl e5.2) else
 vl ((deep,end1),(e5.2,(c1,(c2.re,((c3++[e5.1.re]),(c4++[e3.1])))))) else none) e4) y2 else none) e2) else
 z0b ((w64 (deep-(1:Int))),y1)>>=fun e2=>
 Sum.elim (fun e3=>some (.inl e3)) (fun e3=>if(qi (c3.length+[e3.1.re].length) 80) then
 if(decide (((c3++[e3.1.re]).length:Int)>(16:Int))) then some (.inl e3.2) else
 vl ((deep,end1),(e3.2,(c1,(c2.re,((c3++[e3.1.re]),c4))))) else none) e2) y) else
 if(c1.1==(4:Int)) then(z2r e1.2>>=fun e2=>
 Sum.elim (fun e3=>some (.inl e3)) (fun e3=>if(qi (c4.length+[e3.1].length) 16) then
 z2k ((58:Int),e3.2)>>=fun y=>
 Sum.elim (fun y1=>some (.inl y1)) (fun y1=>z0b ((w64 (deep-(1:Int))),y1)>>=fun e4=>
 Sum.elim (fun e5=>some (.inl e5)) (fun e5=>if(qi (c3.length+[e5.1.re].length) 80) then
 if(decide (((c3++[e5.1.re]).length:Int)>(16:Int))) then some (.inl e5.2) else
 vl ((deep,end1),(e5.2,(c1,(c2.re,((c3++[e5.1.re]),(c4++[e3.1])))))) else none) e4) y else none) e2) else
 z0b ((w64 (deep-(1:Int))),e1.2)>>=fun e2=>
 Sum.elim (fun e3=>some (.inl e3)) (fun e3=>if(qi (c3.length+[e3.1.re].length) 80) then
 if(decide (((c3++[e3.1.re]).length:Int)>(16:Int))) then some (.inl e3.2) else
 vl ((deep,end1),(e3.2,(c1,(c2.re,((c3++[e3.1.re]),c4))))) else none) e2) else
 some (.inr (end1,(e1.2,(c2.re,(c1,(c3,c4))))))) e
def qdt(u: ∀a,Option (qig a)): ∀a,Option (qig a)
 |(.inl q)=>jeu (fun q=>u (.inl q)) (fun q=>u (.inr (.inl q))) (fun q=>u (.inr (.inr q))) q
 |(.inr (.inl q))=>q83 (fun q=>u (.inl q)) (fun q=>u (.inr (.inl q))) (fun q=>u (.inr (.inr q))) q
 |(.inr (.inr q))=>qyr (fun q=>u (.inl q)) (fun q=>u (.inr (.inl q))) (fun q=>u (.inr (.inr q))) q
def z0b(q:Y02):Option (Str⊕(GVal×Str)):=wi qdt (.inl q)
def z0i(q:Y1k):Option (Str⊕(GVal×Str)):=wi qdt (.inr (.inl q))
def vl(q:(Y07×(Str×(Y0u×(GVal×((List GVal)×Y01)))))):Option (Str⊕(Int×(Str×(GVal×(Y0u×((List GVal)×Y01)))))):=wi qdt (.inr (.inr q))
theorem jev: ∀a,Cont fun u=>qdt u a
 |(.inl (deep,c))=>by unfold qdt jeu;exact(.ite (.const _) (.bind (.const _) fun _=>(.sum (fun _=>(.const _)) (fun _=>(.ite (.const _) (.ite (.bind (.app _) fun _=>(.const _)) (.ite (.bind (.app _) fun _=>(.const _)) (.const _))))))))
 |(.inr (.inl ((v,end1,deep),c)))=>by unfold qdt q83;exact(.ite (.ite (.bind (.app _) fun _=>(.const _)) (.const _)) (.const _))
 |(.inr (.inr ((deep,end1),c,c1,c2,c3,c4)))=>by unfold qdt qyr;exact(.bind (.const _) fun _=>(.sum (fun _=>(.const _)) (fun _=>(.ite (.ite (.bind (.const _) fun _=>(.sum (fun _=>(.const _)) (fun _=>(.ite (.bind (.const _) fun _=>(.sum (fun _=>(.const _)) (fun _=>(.ite (.bind (.const _) fun _=>(.sum (fun _=>(.const _)) (fun _=>(.bind (.app _) fun _=>(.sum (fun _=>(.const _)) (fun _=>(.ite (.ite (.const _) (.app _)) (.const _)))))))) (.const _))))) (.bind (.app _) fun _=>(.sum (fun _=>(.const _)) (fun _=>(.ite (.ite (.const _) (.app _)) (.const _))))))))) (.ite (.bind (.const _) fun _=>(.sum (fun _=>(.const _)) (fun _=>(.ite (.bind (.const _) fun _=>(.sum (fun _=>(.const _)) (fun _=>(.bind (.app _) fun _=>(.sum (fun _=>(.const _)) (fun _=>(.ite (.ite (.const _) (.app _)) (.const _)))))))) (.const _))))) (.bind (.app _) fun _=>(.sum (fun _=>(.const _)) (fun _=>(.ite (.ite (.const _) (.app _)) (.const _))))))) (.const _)))))
theorem q4i q:z0b q=jeu z0b z0i vl q:=j7 jev (.inl q)
theorem q4l q:z0i q=q83 z0b z0i vl q:=j7 jev (.inr (.inl q))
theorem q84 q:vl q=qyr z0b z0i vl q:=j7 jev (.inr (.inr q))
def z3e:Fu Int (Bool):=fun c=>
 if(decide (c<(32:Int))) then some true else
 if(decide (c>(126:Int))) then some true else
 if(c==(34:Int)) then some true else
 some (c==(92:Int))
def qj5(self:Fu (Int×Y0c) Y09):Fu (Int×Y0c) Y09:=fun(x8,s,x7)=>
 if(decide (x8<x7)) then(if((0:Int)≤x8) then
 if(x8<(s.length:Int)) then
 z3e (elt (.int .u8) s x8.toNat)>>=fun w=>
 if w then some (.inl x8) else
 self ((w64 (x8+(1:Int))),(s,x7)) else none else none) else
 some (.inr ())
def qr9:Fu (Int×Y0c) Y09:=qt qj5
theorem qwd q:qr9 q=qj5 qr9 q:=qw q
def z29:Fu Y04 (Int):=fun s=>
 qr9 ((0:Int),(s,(s.length:Int)))>>=fun r=>
 Sum.elim (fun r1=>some r1) (fun r1=>some (-1:Int)) r
def z3w:Fu Y04 (Bool):=fun s=>
 z29 s>>=fun h=>
 some (decide (h≥(0:Int)))
def z2c:Fu Str (Bool):=fun s=>
 if(decide ((s.length:Int)≤(200:Int))) then(z3w (qj s)>>=fun h=>
 some (!h)) else
 some false
def qjc(self:Fu (Int×(Y01×(Y01×Y07))) (Bool⊕(Int×Y01))):Fu (Int×(Y01×(Y01×Y07))) (Bool⊕(Int×Y01)):=fun(x9,l,x7,many,x8)=>
 if(decide (x9<x8)) then(if((0:Int)≤x9) then
 if(x9<(x7.length:Int)) then
 z2c (elt .str x7 x9.toNat)>>=fun w=>
 if(!w) then some (.inl false) else
 if(decide (x9>(0:Int))) then(if((0:Int)≤(w64 (x9-(1:Int)))) then
 if((w64 (x9-(1:Int)))<(l.length:Int)) then
 if(!(Op.bytesLess (elt .str l (w64 (x9-(1:Int))).toNat) (elt .str x7 x9.toNat))) then some (.inl false) else
 self ((w64 (x9+(1:Int))),(l,(x7,(many,x8)))) else none else none) else
 self ((w64 (x9+(1:Int))),(l,(x7,(many,x8)))) else none else none) else
 some (.inr (many,l))
def qrk:Fu (Int×(Y01×(Y01×Y07))) (Bool⊕(Int×Y01)):=qt qjc
theorem qvl q:qrk q=qjc qrk q:=qw q
def z18:Fu Y05 (Bool):=fun(l,many)=>
 qrk ((0:Int),(l,(l,(many,(l.length:Int)))))>>=fun r=>
 Sum.elim (fun r1=>some r1) (fun r1=>some ((r1.2.length:Int)==r1.1)) r
abbrev qdg:=(GVal×Int)⊕((List GVal)×Int)⊕((List GVal)×Int)⊕((Int×((List GVal)×Int))×Int)⊕(GVal×Int)
abbrev qa9:qdg→Type
 |(.inl _)=>Bool
 |(.inr (.inl _))=>(Bool×Int)
 |(.inr (.inr (.inl _)))=>Y07
 |(.inr (.inr (.inr (.inl _))))=>Y07⊕Int
 |(.inr (.inr (.inr (.inr _))))=>(Bool×Int)
def jeo(z02:(GVal×Int)→Option (Bool))(z1c:((List GVal)×Int)→Option ((Bool×Int)))(z0k:((List GVal)×Int)→Option (Y07))(wm:((Int×((List GVal)×Int))×Int)→Option Y0b)(z2f:(GVal×Int)→Option ((Bool×Int))):(GVal×Int)→Option (Bool):=fun(v,deep)=>
 if(deep==(0:Int)) then some false else
 if(decide ((v.items.length:Int)>(16:Int))) then some false else
 if((v.items.length:Int)==(0:Int)) then(if(v.kind==(1:Int)) then(if((v.names.length:Int)==(0:Int)) then(if(v.s==[]) then(if(decide (v.n≥(0:Int))) then some (decide (v.n≤(1099511627776:Int))) else
 some false) else
 some false) else
 some false) else
 if(v.kind==(2:Int)) then(if((v.names.length:Int)==(0:Int)) then(if(v.n==(0:Int)) then(z2c v.s>>=fun w=>
 some w) else
 some false) else
 some false) else
 if(v.kind==(3:Int)) then(if(v.kind==(3:Int)) then(if(v.kind==(3:Int)) then(if(decide ((v.names.length:Int)>(0:Int))) then some false else
 if(v.kind==(4:Int)) then(z18 (v.names,(v.items.length:Int))>>=fun n=>
 if(!n) then some false else
 if(v.n !=(0:Int)) then some false else
 if(v.s !=[]) then some false else
 z1c (v.items,deep)>>=fun v1=>
 some (!v1.1)) else
 if(v.n !=(0:Int)) then some false else
 if(v.s !=[]) then some false else
 z1c (v.items,deep)>>=fun v1=>
 some (!v1.1)) else
 if(v.kind==(4:Int)) then(z18 (v.names,(v.items.length:Int))>>=fun n=>
 if(!n) then some false else
 if(v.n !=(0:Int)) then some false else
 if(v.s !=[]) then some false else
 z1c (v.items,deep)>>=fun v1=>
 some (!v1.1)) else
 if(v.n !=(0:Int)) then some false else
 if(v.s !=[]) then some false else
 z1c (v.items,deep)>>=fun v1=>
 some (!v1.1)) else
 some false) else
 if(v.kind==(4:Int)) then(if(v.kind==(3:Int)) then(if(decide ((v.names.length:Int)>(0:Int))) then some false else
 if(v.kind==(4:Int)) then(z18 (v.names,(v.items.length:Int))>>=fun n=>
 if(!n) then some false else
 if(v.n !=(0:Int)) then some false else
 if(v.s !=[]) then some false else
 z1c (v.items,deep)>>=fun v1=>
 some (!v1.1)) else
 if(v.n !=(0:Int)) then some false else
 if(v.s !=[]) then some false else
 z1c (v.items,deep)>>=fun v1=>
 some (!v1.1)) else
 if(v.kind==(4:Int)) then(z18 (v.names,(v.items.length:Int))>>=fun n=>
 if(!n) then some false else
 if(v.n !=(0:Int)) then some false else
 if(v.s !=[]) then some false else
 z1c (v.items,deep)>>=fun v1=>
 some (!v1.1)) else
 if(v.n !=(0:Int)) then some false else
 if(v.s !=[]) then some false else
 z1c (v.items,deep)>>=fun v1=>
 some (!v1.1)) else
 some false) else
 if(v.kind==(1:Int)) then some false else
 if(v.kind==(2:Int)) then some false else
 if(v.kind==(3:Int)) then(if(v.kind==(3:Int)) then(if(v.kind==(3:Int)) then(if(decide ((v.names.length:Int)>(0:Int))) then some false else
 if(v.kind==(4:Int)) then(z18 (v.names,(v.items.length:Int))>>=fun n=>
 if(!n) then some false else
 if(v.n !=(0:Int)) then some false else
 if(v.s !=[]) then some false else
 z1c (v.items,deep)>>=fun v1=>
 some (!v1.1)) else
 if(v.n !=(0:Int)) then some false else
 if(v.s !=[]) then some false else
 z1c (v.items,deep)>>=fun v1=>
 some (!v1.1)) else
 if(v.kind==(4:Int)) then(z18 (v.names,(v.items.length:Int))>>=fun n=>
 if(!n) then some false else
 if(v.n !=(0:Int)) then some false else
 if(v.s !=[]) then some false else
 z1c (v.items,deep)>>=fun v1=>
 some (!v1.1)) else
 if(v.n !=(0:Int)) then some false else
 if(v.s !=[]) then some false else
 z1c (v.items,deep)>>=fun v1=>
 some (!v1.1)) else
 some false) else
 if(v.kind==(4:Int)) then(if(v.kind==(3:Int)) then(if(decide ((v.names.length:Int)>(0:Int))) then some false else
 if(v.kind==(4:Int)) then(z18 (v.names,(v.items.length:Int))>>=fun n=>
 if(!n) then some false else
 if(v.n !=(0:Int)) then some false else
 if(v.s !=[]) then some false else
 z1c (v.items,deep)>>=fun v1=>
 some (!v1.1)) else
 if(v.n !=(0:Int)) then some false else
 if(v.s !=[]) then some false else
 z1c (v.items,deep)>>=fun v1=>
 some (!v1.1)) else
 if(v.kind==(4:Int)) then(z18 (v.names,(v.items.length:Int))>>=fun n=>
 if(!n) then some false else
 if(v.n !=(0:Int)) then some false else
 if(v.s !=[]) then some false else
 z1c (v.items,deep)>>=fun v1=>
 some (!v1.1)) else
 if(v.n !=(0:Int)) then some false else
 if(v.s !=[]) then some false else
 z1c (v.items,deep)>>=fun v1=>
 some (!v1.1)) else
 some false
def jho(z02:(GVal×Int)→Option (Bool))(z1c:((List GVal)×Int)→Option ((Bool×Int)))(z0k:((List GVal)×Int)→Option (Y07))(wm:((Int×((List GVal)×Int))×Int)→Option Y0b)(z2f:(GVal×Int)→Option ((Bool×Int))):((List GVal)×Int)→Option ((Bool×Int)):=fun(s,c)=>
 z0k (s,c)>>=fun v=>
 some ((decide (v.1≥(0:Int))),v.2)
def jhk(z02:(GVal×Int)→Option (Bool))(z1c:((List GVal)×Int)→Option ((Bool×Int)))(z0k:((List GVal)×Int)→Option (Y07))(wm:((Int×((List GVal)×Int))×Int)→Option Y0b)(z2f:(GVal×Int)→Option ((Bool×Int))):((List GVal)×Int)→Option (Y07):=fun(s,c)=>
 wm (((0:Int),(s,(s.length:Int))),c)>>=fun r=>
 Sum.elim (fun r1=>some r1) (fun r1=>some ((-1:Int),r1)) r
def qir(z02:(GVal×Int)→Option (Bool))(z1c:((List GVal)×Int)→Option ((Bool×Int)))(z0k:((List GVal)×Int)→Option (Y07))(wm:((Int×((List GVal)×Int))×Int)→Option Y0b)(z2f:(GVal×Int)→Option ((Bool×Int))):((Int×((List GVal)×Int))×Int)→Option Y0b:=fun((x8,s,x7),c)=>
 if(decide (x8<x7)) then(if((0:Int)≤x8) then
 if(x8<(s.length:Int)) then
 z2f ((elt .val s x8.toNat).re,c)>>=fun m=>
 if m.1 then some (.inl (x8,m.2)) else
 wm (((w64 (x8+(1:Int))),(s,x7)),m.2) else none else none) else
 some (.inr c)
def jhp(z02:(GVal×Int)→Option (Bool))(z1c:((List GVal)×Int)→Option ((Bool×Int)))(z0k:((List GVal)×Int)→Option (Y07))(wm:((Int×((List GVal)×Int))×Int)→Option Y0b)(z2f:(GVal×Int)→Option ((Bool×Int))):(GVal×Int)→Option ((Bool×Int)):=fun(x1,c)=>
 z02 (x1.re,(w64 (c-(1:Int))))>>=fun m=>
 some ((!m),c)
def zz(u: ∀a,Option (qa9 a)): ∀a,Option (qa9 a)
 |(.inl q)=>jeo (fun q=>u (.inl q)) (fun q=>u (.inr (.inl q))) (fun q=>u (.inr (.inr (.inl q)))) (fun q=>u (.inr (.inr (.inr (.inl q))))) (fun q=>u (.inr (.inr (.inr (.inr q))))) q
 |(.inr (.inl q))=>jho (fun q=>u (.inl q)) (fun q=>u (.inr (.inl q))) (fun q=>u (.inr (.inr (.inl q)))) (fun q=>u (.inr (.inr (.inr (.inl q))))) (fun q=>u (.inr (.inr (.inr (.inr q))))) q
 |(.inr (.inr (.inl q)))=>jhk (fun q=>u (.inl q)) (fun q=>u (.inr (.inl q))) (fun q=>u (.inr (.inr (.inl q)))) (fun q=>u (.inr (.inr (.inr (.inl q))))) (fun q=>u (.inr (.inr (.inr (.inr q))))) q
 |(.inr (.inr (.inr (.inl q))))=>qir (fun q=>u (.inl q)) (fun q=>u (.inr (.inl q))) (fun q=>u (.inr (.inr (.inl q)))) (fun q=>u (.inr (.inr (.inr (.inl q))))) (fun q=>u (.inr (.inr (.inr (.inr q))))) q
 |(.inr (.inr (.inr (.inr q))))=>jhp (fun q=>u (.inl q)) (fun q=>u (.inr (.inl q))) (fun q=>u (.inr (.inr (.inl q)))) (fun q=>u (.inr (.inr (.inr (.inl q))))) (fun q=>u (.inr (.inr (.inr (.inr q))))) q
def z02(q:(GVal×Int)):Option (Bool):=wi zz (.inl q)
def z1c(q:((List GVal)×Int)):Option ((Bool×Int)):=wi zz (.inr (.inl q))
def z0k(q:((List GVal)×Int)):Option (Y07):=wi zz (.inr (.inr (.inl q)))
def wm(q:((Int×((List GVal)×Int))×Int)):Option Y0b:=wi zz (.inr (.inr (.inr (.inl q))))
def z2f(q:(GVal×Int)):Option ((Bool×Int)):=wi zz (.inr (.inr (.inr (.inr q))))
theorem q16: ∀a,Cont fun u=>zz u a
 |(.inl (v,deep))=>by unfold zz jeo;exact(.ite (.const _) (.ite (.const _) (.ite (.ite (.const _) (.ite (.const _) (.ite (.ite (.ite (.ite (.const _) (.ite (.bind (.const _) fun _=>(.ite (.const _) (.ite (.const _) (.ite (.const _) (.bind (.app _) fun _=>(.const _)))))) (.ite (.const _) (.ite (.const _) (.bind (.app _) fun _=>(.const _)))))) (.ite (.bind (.const _) fun _=>(.ite (.const _) (.ite (.const _) (.ite (.const _) (.bind (.app _) fun _=>(.const _)))))) (.ite (.const _) (.ite (.const _) (.bind (.app _) fun _=>(.const _)))))) (.const _)) (.ite (.ite (.ite (.const _) (.ite (.bind (.const _) fun _=>(.ite (.const _) (.ite (.const _) (.ite (.const _) (.bind (.app _) fun _=>(.const _)))))) (.ite (.const _) (.ite (.const _) (.bind (.app _) fun _=>(.const _)))))) (.ite (.bind (.const _) fun _=>(.ite (.const _) (.ite (.const _) (.ite (.const _) (.bind (.app _) fun _=>(.const _)))))) (.ite (.const _) (.ite (.const _) (.bind (.app _) fun _=>(.const _)))))) (.const _))))) (.ite (.const _) (.ite (.const _) (.ite (.ite (.ite (.ite (.const _) (.ite (.bind (.const _) fun _=>(.ite (.const _) (.ite (.const _) (.ite (.const _) (.bind (.app _) fun _=>(.const _)))))) (.ite (.const _) (.ite (.const _) (.bind (.app _) fun _=>(.const _)))))) (.ite (.bind (.const _) fun _=>(.ite (.const _) (.ite (.const _) (.ite (.const _) (.bind (.app _) fun _=>(.const _)))))) (.ite (.const _) (.ite (.const _) (.bind (.app _) fun _=>(.const _)))))) (.const _)) (.ite (.ite (.ite (.const _) (.ite (.bind (.const _) fun _=>(.ite (.const _) (.ite (.const _) (.ite (.const _) (.bind (.app _) fun _=>(.const _)))))) (.ite (.const _) (.ite (.const _) (.bind (.app _) fun _=>(.const _)))))) (.ite (.bind (.const _) fun _=>(.ite (.const _) (.ite (.const _) (.ite (.const _) (.bind (.app _) fun _=>(.const _)))))) (.ite (.const _) (.ite (.const _) (.bind (.app _) fun _=>(.const _)))))) (.const _))))))))
 |(.inr (.inl (s,c)))=>by unfold zz jho;exact(.bind (.app _) fun _=>(.const _))
 |(.inr (.inr (.inl (s,c))))=>by unfold zz jhk;exact(.bind (.app _) fun _=>(.const _))
 |(.inr (.inr (.inr (.inl ((x8,s,x7),c)))))=>by unfold zz qir;exact(.ite (.ite (.ite (.bind (.app _) fun _=>(.ite (.const _) (.app _))) (.const _)) (.const _)) (.const _))
 |(.inr (.inr (.inr (.inr (x1,c)))))=>by unfold zz jhp;exact(.bind (.app _) fun _=>(.const _))
theorem jep q:z02 q=jeo z02 z1c z0k wm z2f q:=j7 q16 (.inl q)
theorem jk7 q:z1c q=jho z02 z1c z0k wm z2f q:=j7 q16 (.inr (.inl q))
theorem jk1 q:z0k q=jhk z02 z1c z0k wm z2f q:=j7 q16 (.inr (.inr (.inl q)))
theorem qu3 q:wm q=qir z02 z1c z0k wm z2f q:=j7 q16 (.inr (.inr (.inr (.inl q))))
theorem jlf q:z2f q=jhp z02 z1c z0k wm z2f q:=j7 q16 (.inr (.inr (.inr (.inr q))))
def z3j:Fu GVal (Bool):=fun v=>
 z02 (v.re,(6:Int))>>=fun m=>
 some m
def z2y:Fu Str (Str):=fun s=>
 if((([34]:Str).length+s.length)≤9223372036854775807) then
 if(((([34]:Str)++s).length+([34]:Str).length)≤9223372036854775807) then
 some ((([34]:Str)++s)++([34]:Str)) else none else none
abbrev q2a:=GVal⊕((Int×((List GVal)×Int))×(Y01×GVal))
abbrev qp9:q2a→Type
 |(.inl _)=>Str
 |(.inr _)=>(GVal×Y01)
def jhi(z07:GVal→Option (Str))(xr:((Int×((List GVal)×Int))×(Y01×GVal))→Option ((GVal×Y01))):GVal→Option (Str):=fun v=>
 if(v.kind==(1:Int)) then(xj v.n>>=fun i=>
 some i) else
 if(v.kind==(2:Int)) then(z2y v.s>>=fun q=>
 some q) else
 xr (((0:Int),(v.items,(v.items.length:Int))),([],v.re))>>=fun r=>
 zv (r.2,([44]:Str))>>=fun j=>
 if(r.1.kind==(3:Int)) then(if((([91]:Str).length+j.length)≤9223372036854775807) then
 if(((([91]:Str)++j).length+([93]:Str).length)≤9223372036854775807) then
 some ((([91]:Str)++j)++([93]:Str)) else none else none) else
 if((([123]:Str).length+j.length)≤9223372036854775807) then
 if(((([123]:Str)++j).length+([125]:Str).length)≤9223372036854775807) then
 some ((([123]:Str)++j)++([125]:Str)) else none else none
def qdm(z07:GVal→Option (Str))(xr:((Int×((List GVal)×Int))×(Y01×GVal))→Option ((GVal×Y01))):((Int×((List GVal)×Int))×(Y01×GVal))→Option ((GVal×Y01)):=fun((x23,x21,x22),c,c1)=>
 if(decide (x23<x22)) then(if((0:Int)≤x23) then
 if(x23<(x21.length:Int)) then
 z07 (elt .val x21 x23.toNat).re>>=fun w=>
 if(c1.kind==(4:Int)) then(if((0:Int)≤x23) then
 if(x23<(c1.names.length:Int)) then
 z2y (elt .str c1.names x23.toNat)>>=fun q=>
 if((q.length+([58]:Str).length)≤9223372036854775807) then
 if(((q++([58]:Str)).length+w.length)≤9223372036854775807) then
 if(qi (c.length+[((q++([58]:Str))++w)].length) 16) then
 xr (((w64 (x23+(1:Int))),(x21,x22)),((c++[((q++([58]:Str))++w)]),c1.re)) else none else none else none else none else none) else
 if(qi (c.length+[w].length) 16) then
 xr (((w64 (x23+(1:Int))),(x21,x22)),((c++[w]),c1.re)) else none else none else none) else
 some (c1.re,c)
def qma(u: ∀a,Option (qp9 a)): ∀a,Option (qp9 a)
 |(.inl q)=>jhi (fun q=>u (.inl q)) (fun q=>u (.inr q)) q
 |(.inr q)=>qdm (fun q=>u (.inl q)) (fun q=>u (.inr q)) q
def z07(q:GVal):Option (Str):=wi qma (.inl q)
def xr(q:((Int×((List GVal)×Int))×(Y01×GVal))):Option ((GVal×Y01)):=wi qma (.inr q)
theorem jiv: ∀a,Cont fun u=>qma u a
 |(.inl v)=>by unfold qma jhi;exact(.ite (.const _) (.ite (.const _) (.bind (.app _) fun _=>(.const _))))
 |(.inr ((x23,x21,x22),c,c1))=>by unfold qma qdm;exact(.ite (.ite (.ite (.bind (.app _) fun _=>(.ite (.ite (.ite (.bind (.const _) fun _=>(.ite (.ite (.ite (.app _) (.const _)) (.const _)) (.const _))) (.const _)) (.const _)) (.ite (.app _) (.const _)))) (.const _)) (.const _)) (.const _))
theorem jku q:z07 q=jhi z07 xr q:=j7 jiv (.inl q)
theorem qqb q:xr q=qdm z07 xr q:=j7 jiv (.inr q)
def z2z:Fu GVal Y03:=fun v=>
 z3j v.re>>=fun r=>
 if(!r) then some ([],(1:Int)) else
 z07 v.re>>=fun w=>
 if(decide ((w.length:Int)>(4096:Int))) then some ([],(2:Int)) else
 some (w,(0:Int))
def z3f:Fu Str (GVal×Int):=fun s=>
 if(decide ((s.length:Int)>(4096:Int))) then some ((GVal.mk (0:Int) (0:Int) [] [] []),(2:Int)) else
 z0b ((6:Int),s)>>=fun e=>
 Sum.elim (fun e1=>some ((GVal.mk (0:Int) (0:Int) [] [] []),(6:Int))) (fun e1=>z2z e1.1.re>>=fun p=>
 if(p.2 !=(0:Int)) then some ((GVal.mk (0:Int) (0:Int) [] [] []),(6:Int)) else
 if(p.1 !=s) then some ((GVal.mk (0:Int) (0:Int) [] [] []),(6:Int)) else
 some (e1.1.re,(0:Int))) e
def qi4(self:Fu Y02 Y08):Fu Y02 Y08:=fun(i,s)=>
 if(decide (i<(s.length:Int))) then(if((0:Int)≤i) then
 if(i<(s.length:Int)) then
 if(decide ((bt s i)<(32:Int))) then some (.inl false) else
 if((0:Int)≤i) then
 if(i<(s.length:Int)) then
 if(decide ((bt s i)>(126:Int))) then some (.inl false) else
 if((0:Int)≤i) then
 if(i<(s.length:Int)) then
 if((bt s i)==(34:Int)) then some (.inl false) else
 if((0:Int)≤i) then
 if(i<(s.length:Int)) then
 if((bt s i)==(92:Int)) then some (.inl false) else
 self ((w64 (i+(1:Int))),s) else none else none else none else none else none else none else none else none) else
 some (.inr s)
def qys:Fu Y02 Y08:=qt qi4
theorem qvd q:qys q=qi4 qys q:=qw q
def z0v:Fu Str (Bool):=fun s=>
 qys ((0:Int),s)>>=fun r=>
 Sum.elim (fun r1=>some r1) (fun r1=>some (decide ((r1.length:Int)≤(200:Int)))) r
def qe6(self:Fu Y0z (Bool⊕Y00)):Fu Y0z (Bool⊕Y00):=fun(i,b,a)=>
 if(decide (i<(a.length:Int))) then(if(decide (i<(b.length:Int))) then(if((0:Int)≤i) then
 if(i<(a.length:Int)) then
 if((0:Int)≤i) then
 if(i<(b.length:Int)) then
 if((bt a i) !=(bt b i)) then(if((0:Int)≤i) then
 if(i<(a.length:Int)) then
 if((0:Int)≤i) then
 if(i<(b.length:Int)) then
 some (.inl (decide ((bt a i)<(bt b i)))) else none else none else none else none) else
 self ((w64 (i+(1:Int))),(b,a)) else none else none else none else none) else
 some (.inr (b,a))) else
 some (.inr (b,a))
def qrb:Fu Y0z (Bool⊕Y00):=qt qe6
theorem qk5 q:qrb q=qe6 qrb q:=qw q
def z0y:Fu Y00 (Bool):=fun(a,b)=>
 qrb ((0:Int),(b,a))>>=fun r=>
 Sum.elim (fun r1=>some r1) (fun r1=>some (decide ((r1.2.length:Int)<(r1.1.length:Int)))) r
def qio(self:Fu ((Int×Y05)×GVal) Y06):Fu ((Int×Y05)×GVal) Y06:=fun((x92,x90,x91),c)=>
 if(decide (x92<x91)) then(if((0:Int)≤x92) then
 if(x92<(x90.length:Int)) then
 z0v (elt .str x90 x92.toNat)>>=fun w=>
 if(!w) then some (.inl false) else
 if(decide (x92>(0:Int))) then(if((0:Int)≤(w64 (x92-(1:Int)))) then
 if((w64 (x92-(1:Int)))<(c.names.length:Int)) then
 z0y ((elt .str c.names (w64 (x92-(1:Int))).toNat),(elt .str x90 x92.toNat))>>=fun l=>
 if(!l) then some (.inl false) else
 self (((w64 (x92+(1:Int))),(x90,x91)),c.re) else none else none) else
 self (((w64 (x92+(1:Int))),(x90,x91)),c.re) else none else none) else
 some (.inr ())
def je:Fu ((Int×Y05)×GVal) Y06:=qt qio
theorem qu1 q:je q=qio je q:=qw q
def z0h:Fu GVal (Bool):=fun v=>
 if(decide (v.kind<(1:Int))) then some false else
 if(decide (v.kind>(4:Int))) then some false else
 if(v.kind !=(1:Int)) then(if(v.n !=(0:Int)) then some false else
 if(v.kind !=(2:Int)) then(if(v.s !=[]) then some false else
 if(decide (v.kind<(3:Int))) then(if(decide ((v.items.length:Int)>(0:Int))) then some false else
 if(v.kind !=(4:Int)) then(if(decide ((v.names.length:Int)>(0:Int))) then some false else
 if(decide (v.n<(0:Int))) then some false else
 if(decide (v.n>(1099511627776:Int))) then some false else
 z0v v.s>>=fun w=>
 if(!w) then some false else
 if(decide ((v.items.length:Int)>(16:Int))) then some false else
 if(v.kind==(4:Int)) then(if((v.names.length:Int) !=(v.items.length:Int)) then some false else
 je (((0:Int),(v.names,(v.names.length:Int))),v.re)>>=fun r=>
 Sum.elim (fun r1=>some r1) (fun r1=>some true) r) else
 je (((0:Int),(v.names,(v.names.length:Int))),v.re)>>=fun r=>
 Sum.elim (fun r1=>some r1) (fun r1=>some true) r) else
 if(decide (v.n<(0:Int))) then some false else
 if(decide (v.n>(1099511627776:Int))) then some false else
 z0v v.s>>=fun w=>
 if(!w) then some false else
 if(decide ((v.items.length:Int)>(16:Int))) then some false else
 if(v.kind==(4:Int)) then(if((v.names.length:Int) !=(v.items.length:Int)) then some false else
 je (((0:Int),(v.names,(v.names.length:Int))),v.re)>>=fun r=>
 Sum.elim (fun r1=>some r1) (fun r1=>some true) r) else
 je (((0:Int),(v.names,(v.names.length:Int))),v.re)>>=fun r=>
 Sum.elim (fun r1=>some r1) (fun r1=>some true) r) else
 if(v.kind !=(4:Int)) then(if(decide ((v.names.length:Int)>(0:Int))) then some false else
 if(decide (v.n<(0:Int))) then some false else
 if(decide (v.n>(1099511627776:Int))) then some false else
 z0v v.s>>=fun w=>
 if(!w) then some false else
 if(decide ((v.items.length:Int)>(16:Int))) then some false else
 if(v.kind==(4:Int)) then(if((v.names.length:Int) !=(v.items.length:Int)) then some false else
 je (((0:Int),(v.names,(v.names.length:Int))),v.re)>>=fun r=>
 Sum.elim (fun r1=>some r1) (fun r1=>some true) r) else
 je (((0:Int),(v.names,(v.names.length:Int))),v.re)>>=fun r=>
 Sum.elim (fun r1=>some r1) (fun r1=>some true) r) else
 if(decide (v.n<(0:Int))) then some false else
 if(decide (v.n>(1099511627776:Int))) then some false else
 z0v v.s>>=fun w=>
 if(!w) then some false else
 if(decide ((v.items.length:Int)>(16:Int))) then some false else
 if(v.kind==(4:Int)) then(if((v.names.length:Int) !=(v.items.length:Int)) then some false else
 je (((0:Int),(v.names,(v.names.length:Int))),v.re)>>=fun r=>
 Sum.elim (fun r1=>some r1) (fun r1=>some true) r) else
 je (((0:Int),(v.names,(v.names.length:Int))),v.re)>>=fun r=>
 Sum.elim (fun r1=>some r1) (fun r1=>some true) r) else
 if(decide (v.kind<(3:Int))) then(if(decide ((v.items.length:Int)>(0:Int))) then some false else
 if(v.kind !=(4:Int)) then(if(decide ((v.names.length:Int)>(0:Int))) then some false else
 if(decide (v.n<(0:Int))) then some false else
 if(decide (v.n>(1099511627776:Int))) then some false else
 z0v v.s>>=fun w=>
 if(!w) then some false else
 if(decide ((v.items.length:Int)>(16:Int))) then some false else
 if(v.kind==(4:Int)) then(if((v.names.length:Int) !=(v.items.length:Int)) then some false else
 je (((0:Int),(v.names,(v.names.length:Int))),v.re)>>=fun r=>
 Sum.elim (fun r1=>some r1) (fun r1=>some true) r) else
 je (((0:Int),(v.names,(v.names.length:Int))),v.re)>>=fun r=>
 Sum.elim (fun r1=>some r1) (fun r1=>some true) r) else
 if(decide (v.n<(0:Int))) then some false else
 if(decide (v.n>(1099511627776:Int))) then some false else
 z0v v.s>>=fun w=>
 if(!w) then some false else
 if(decide ((v.items.length:Int)>(16:Int))) then some false else
 if(v.kind==(4:Int)) then(if((v.names.length:Int) !=(v.items.length:Int)) then some false else
 je (((0:Int),(v.names,(v.names.length:Int))),v.re)>>=fun r=>
 Sum.elim (fun r1=>some r1) (fun r1=>some true) r) else
 je (((0:Int),(v.names,(v.names.length:Int))),v.re)>>=fun r=>
 Sum.elim (fun r1=>some r1) (fun r1=>some true) r) else
 if(v.kind !=(4:Int)) then(if(decide ((v.names.length:Int)>(0:Int))) then some false else
 if(decide (v.n<(0:Int))) then some false else
 if(decide (v.n>(1099511627776:Int))) then some false else
 z0v v.s>>=fun w=>
 if(!w) then some false else
 if(decide ((v.items.length:Int)>(16:Int))) then some false else
 if(v.kind==(4:Int)) then(if((v.names.length:Int) !=(v.items.length:Int)) then some false else
 je (((0:Int),(v.names,(v.names.length:Int))),v.re)>>=fun r=>
 Sum.elim (fun r1=>some r1) (fun r1=>some true) r) else
 je (((0:Int),(v.names,(v.names.length:Int))),v.re)>>=fun r=>
 Sum.elim (fun r1=>some r1) (fun r1=>some true) r) else
 if(decide (v.n<(0:Int))) then some false else
 if(decide (v.n>(1099511627776:Int))) then some false else
 z0v v.s>>=fun w=>
 if(!w) then some false else
 if(decide ((v.items.length:Int)>(16:Int))) then some false else
 if(v.kind==(4:Int)) then(if((v.names.length:Int) !=(v.items.length:Int)) then some false else
 je (((0:Int),(v.names,(v.names.length:Int))),v.re)>>=fun r=>
 Sum.elim (fun r1=>some r1) (fun r1=>some true) r) else
 je (((0:Int),(v.names,(v.names.length:Int))),v.re)>>=fun r=>
 Sum.elim (fun r1=>some r1) (fun r1=>some true) r) else
 if(v.kind !=(2:Int)) then(if(v.s !=[]) then some false else
 if(decide (v.kind<(3:Int))) then(if(decide ((v.items.length:Int)>(0:Int))) then some false else
 if(v.kind !=(4:Int)) then(if(decide ((v.names.length:Int)>(0:Int))) then some false else
 if(decide (v.n<(0:Int))) then some false else
 if(decide (v.n>(1099511627776:Int))) then some false else
 z0v v.s>>=fun w=>
 if(!w) then some false else
 if(decide ((v.items.length:Int)>(16:Int))) then some false else
 if(v.kind==(4:Int)) then(if((v.names.length:Int) !=(v.items.length:Int)) then some false else
 je (((0:Int),(v.names,(v.names.length:Int))),v.re)>>=fun r=>
 Sum.elim (fun r1=>some r1) (fun r1=>some true) r) else
 je (((0:Int),(v.names,(v.names.length:Int))),v.re)>>=fun r=>
 Sum.elim (fun r1=>some r1) (fun r1=>some true) r) else
 if(decide (v.n<(0:Int))) then some false else
 if(decide (v.n>(1099511627776:Int))) then some false else
 z0v v.s>>=fun w=>
 if(!w) then some false else
 if(decide ((v.items.length:Int)>(16:Int))) then some false else
 if(v.kind==(4:Int)) then(if((v.names.length:Int) !=(v.items.length:Int)) then some false else
 je (((0:Int),(v.names,(v.names.length:Int))),v.re)>>=fun r=>
 Sum.elim (fun r1=>some r1) (fun r1=>some true) r) else
 je (((0:Int),(v.names,(v.names.length:Int))),v.re)>>=fun r=>
 Sum.elim (fun r1=>some r1) (fun r1=>some true) r) else
 if(v.kind !=(4:Int)) then(if(decide ((v.names.length:Int)>(0:Int))) then some false else
 if(decide (v.n<(0:Int))) then some false else
 if(decide (v.n>(1099511627776:Int))) then some false else
 z0v v.s>>=fun w=>
 if(!w) then some false else
 if(decide ((v.items.length:Int)>(16:Int))) then some false else
 if(v.kind==(4:Int)) then(if((v.names.length:Int) !=(v.items.length:Int)) then some false else
 je (((0:Int),(v.names,(v.names.length:Int))),v.re)>>=fun r=>
 Sum.elim (fun r1=>some r1) (fun r1=>some true) r) else
 je (((0:Int),(v.names,(v.names.length:Int))),v.re)>>=fun r=>
 Sum.elim (fun r1=>some r1) (fun r1=>some true) r) else
 if(decide (v.n<(0:Int))) then some false else
 if(decide (v.n>(1099511627776:Int))) then some false else
 z0v v.s>>=fun w=>
 if(!w) then some false else
 if(decide ((v.items.length:Int)>(16:Int))) then some false else
 if(v.kind==(4:Int)) then(if((v.names.length:Int) !=(v.items.length:Int)) then some false else
 je (((0:Int),(v.names,(v.names.length:Int))),v.re)>>=fun r=>
 Sum.elim (fun r1=>some r1) (fun r1=>some true) r) else
 je (((0:Int),(v.names,(v.names.length:Int))),v.re)>>=fun r=>
 Sum.elim (fun r1=>some r1) (fun r1=>some true) r) else
 if(decide (v.kind<(3:Int))) then(if(decide ((v.items.length:Int)>(0:Int))) then some false else
 if(v.kind !=(4:Int)) then(if(decide ((v.names.length:Int)>(0:Int))) then some false else
 if(decide (v.n<(0:Int))) then some false else
 if(decide (v.n>(1099511627776:Int))) then some false else
 z0v v.s>>=fun w=>
 if(!w) then some false else
 if(decide ((v.items.length:Int)>(16:Int))) then some false else
 if(v.kind==(4:Int)) then(if((v.names.length:Int) !=(v.items.length:Int)) then some false else
 je (((0:Int),(v.names,(v.names.length:Int))),v.re)>>=fun r=>
 Sum.elim (fun r1=>some r1) (fun r1=>some true) r) else
 je (((0:Int),(v.names,(v.names.length:Int))),v.re)>>=fun r=>
 Sum.elim (fun r1=>some r1) (fun r1=>some true) r) else
 if(decide (v.n<(0:Int))) then some false else
 if(decide (v.n>(1099511627776:Int))) then some false else
 z0v v.s>>=fun w=>
 if(!w) then some false else
 if(decide ((v.items.length:Int)>(16:Int))) then some false else
 if(v.kind==(4:Int)) then(if((v.names.length:Int) !=(v.items.length:Int)) then some false else
 je (((0:Int),(v.names,(v.names.length:Int))),v.re)>>=fun r=>
 Sum.elim (fun r1=>some r1) (fun r1=>some true) r) else
 je (((0:Int),(v.names,(v.names.length:Int))),v.re)>>=fun r=>
 Sum.elim (fun r1=>some r1) (fun r1=>some true) r) else
 if(v.kind !=(4:Int)) then(if(decide ((v.names.length:Int)>(0:Int))) then some false else
 if(decide (v.n<(0:Int))) then some false else
 if(decide (v.n>(1099511627776:Int))) then some false else
 z0v v.s>>=fun w=>
 if(!w) then some false else
 if(decide ((v.items.length:Int)>(16:Int))) then some false else
 if(v.kind==(4:Int)) then(if((v.names.length:Int) !=(v.items.length:Int)) then some false else
 je (((0:Int),(v.names,(v.names.length:Int))),v.re)>>=fun r=>
 Sum.elim (fun r1=>some r1) (fun r1=>some true) r) else
 je (((0:Int),(v.names,(v.names.length:Int))),v.re)>>=fun r=>
 Sum.elim (fun r1=>some r1) (fun r1=>some true) r) else
 if(decide (v.n<(0:Int))) then some false else
 if(decide (v.n>(1099511627776:Int))) then some false else
 z0v v.s>>=fun w=>
 if(!w) then some false else
 if(decide ((v.items.length:Int)>(16:Int))) then some false else
 if(v.kind==(4:Int)) then(if((v.names.length:Int) !=(v.items.length:Int)) then some false else
 je (((0:Int),(v.names,(v.names.length:Int))),v.re)>>=fun r=>
 Sum.elim (fun r1=>some r1) (fun r1=>some true) r) else
 je (((0:Int),(v.names,(v.names.length:Int))),v.re)>>=fun r=>
 Sum.elim (fun r1=>some r1) (fun r1=>some true) r
abbrev q19:=(GVal×Int)⊕(Int×(Int×((List GVal)×Int)))
abbrev qp8:q19→Type
 |(.inl _)=>Bool
 |(.inr _)=>Bool⊕Unit
def jes(z06:(GVal×Int)→Option (Bool))(qas:(Int×(Int×((List GVal)×Int)))→Option Y06):(GVal×Int)→Option (Bool):=fun(v,deep)=>
 if(deep==(0:Int)) then some false else
 z0h v.re>>=fun o=>
 if(!o) then some false else
 qas ((0:Int),(deep,(v.items,(v.items.length:Int))))>>=fun r=>
 Sum.elim (fun r1=>some r1) (fun r1=>some true) r
def qia(z06:(GVal×Int)→Option (Bool))(qas:(Int×(Int×((List GVal)×Int)))→Option Y06):(Int×(Int×((List GVal)×Int)))→Option Y06:=fun(x17,deep,x15,x16)=>
 if(decide (x17<x16)) then(if((0:Int)≤x17) then
 if(x17<(x15.length:Int)) then
 z06 ((elt .val x15 x17.toNat).re,(w64 (deep-(1:Int))))>>=fun m=>
 if(!m) then some (.inl false) else
 qas ((w64 (x17+(1:Int))),(deep,(x15,x16))) else none else none) else
 some (.inr ())
def ql9(u: ∀a,Option (qp8 a)): ∀a,Option (qp8 a)
 |(.inl q)=>jes (fun q=>u (.inl q)) (fun q=>u (.inr q)) q
 |(.inr q)=>qia (fun q=>u (.inl q)) (fun q=>u (.inr q)) q
def z06(q:(GVal×Int)):Option (Bool):=wi ql9 (.inl q)
def qas(q:(Int×(Int×((List GVal)×Int)))):Option Y06:=wi ql9 (.inr q)
theorem jiu: ∀a,Cont fun u=>ql9 u a
 |(.inl (v,deep))=>by unfold ql9 jes;exact(.ite (.const _) (.bind (.const _) fun _=>(.ite (.const _) (.bind (.app _) fun _=>(.const _)))))
 |(.inr (x17,deep,x15,x16))=>by unfold ql9 qia;exact(.ite (.ite (.ite (.bind (.app _) fun _=>(.ite (.const _) (.app _))) (.const _)) (.const _)) (.const _))
theorem jet q:z06 q=jes z06 qas q:=j7 jiu (.inl q)
theorem quu q:qas q=qia z06 qas q:=j7 jiu (.inr q)
def z3i:Fu GVal (Bool):=fun v=>
 z06 (v.re,(6:Int))>>=fun m=>
 some m
def qjf(self:Fu (Y0u×(GVal×Int)) ((GVal×Int)⊕(GVal×Int))):Fu (Y0u×(GVal×Int)) ((GVal×Int)⊕(GVal×Int)):=fun((i,at1,s),c)=>
 if(decide (i<(s.length:Int))) then(if((0:Int)≤i) then
 if(i<(s.length:Int)) then
 if((bt s i)==(34:Int)) then(if((0:Int)≤(w64 (at1+(1:Int)))) then
 if((w64 (at1+(1:Int)))≤i) then
 if(i≤(s.length:Int)) then
 some (.inl ((GVal.mk (2:Int) (0:Int) (List.drop (w64 (at1+(1:Int))).toNat (List.take i.toNat s)) [] []),(w64 (i+(1:Int))))) else none else none else none) else
 self (((w64 (i+(1:Int))),(at1,s)),(c.1.re,c.2)) else none else none) else
 some (.inr (c.1.re,c.2))
def qyw:Fu (Y0u×(GVal×Int)) ((GVal×Int)⊕(GVal×Int)):=qt qjf
theorem qvo q:qyw q=qjf qyw q:=qw q
def z1g:Fu Y03 (GVal×Int):=fun(s,at1)=>
 if(decide (at1≥(s.length:Int))) then some ((GVal.mk (0:Int) (0:Int) [] [] []),(-1:Int)) else
 if((0:Int)≤at1) then
 if(at1<(s.length:Int)) then
 if((bt s at1) !=(34:Int)) then some ((GVal.mk (0:Int) (0:Int) [] [] []),(-1:Int)) else
 qyw (((w64 (at1+(1:Int))),(at1,s)),((GVal.mk (0:Int) (0:Int) [] [] []),(0:Int)))>>=fun r=>
 Sum.elim (fun r1=>some (r1.1.re,r1.2)) (fun r1=>some ((GVal.mk (0:Int) (0:Int) [] [] []),(-1:Int))) r else none else none
def qb2(self:Fu ((Int×Y0y)×(GVal×Int)) ((GVal×Int)⊕((Int×Y0u)×(GVal×Int)))):Fu ((Int×Y0y)×(GVal×Int)) ((GVal×Int)⊕((Int×Y0u)×(GVal×Int))):=fun((at1,s,n,from1),c)=>
 if(decide (at1<(s.length:Int))) then(if((0:Int)≤at1) then
 if(at1<(s.length:Int)) then
 if(decide ((bt s at1)≥(48:Int))) then(if((0:Int)≤at1) then
 if(at1<(s.length:Int)) then
 if(decide ((bt s at1)≤(57:Int))) then(if(decide (n>(1099511627776:Int))) then some (.inl ((GVal.mk (0:Int) (0:Int) [] [] []),(-1:Int))) else
 if((0:Int)≤at1) then
 if(at1<(s.length:Int)) then
 self (((w64 (at1+(1:Int))),(s,((w64 ((w64 ((10:Int)*n))+(w64 (IntKind.wrap .u8 ((bt s at1)-(48:Int)))))),from1))),(c.1.re,c.2)) else none else none) else
 some (.inr ((at1,(n,(from1,s))),(c.1.re,c.2))) else none else none) else
 some (.inr ((at1,(n,(from1,s))),(c.1.re,c.2))) else none else none) else
 some (.inr ((at1,(n,(from1,s))),(c.1.re,c.2)))
def qk6:Fu ((Int×Y0y)×(GVal×Int)) ((GVal×Int)⊕((Int×Y0u)×(GVal×Int))):=qt qb2
theorem qfc q:qk6 q=qb2 qk6 q:=qw q
def z1d:Fu Y03 (GVal×Int):=fun(s,at1)=>
 qk6 ((at1,(s,((0:Int),at1))),((GVal.mk (0:Int) (0:Int) [] [] []),(0:Int)))>>=fun r=>
 Sum.elim (fun r1=>some (r1.1.re,r1.2)) (fun r1=>if(r1.1.1==r1.1.2.2.1) then some ((GVal.mk (0:Int) (0:Int) [] [] []),(-1:Int)) else
 xj r1.1.2.1>>=fun i=>
 if((0:Int)≤r1.1.2.2.1) then
 if(r1.1.2.2.1≤r1.1.1) then
 if(r1.1.1≤(r1.1.2.2.2.length:Int)) then
 if(i !=(List.drop r1.1.2.2.1.toNat (List.take r1.1.1.toNat r1.1.2.2.2))) then some ((GVal.mk (0:Int) (0:Int) [] [] []),(-1:Int)) else
 some ((GVal.mk (1:Int) r1.1.2.1 [] [] []),r1.1.1) else none else none else none) r
abbrev q18:=Y0y⊕((Str×Y0o)×((GVal×Int)×(Y0u×((List GVal)×Y01))))
abbrev qp6:q18→Type
 |(.inl _)=>(GVal×Int)
 |(.inr _)=>(GVal×Int)⊕(GVal×Int)
def q8y(z05:Y0y→Option ((GVal×Int)))(ji:((Str×Y0o)×((GVal×Int)×(Y0u×((List GVal)×Y01))))→Option ((GVal×Int)⊕(GVal×Int))):Y0y→Option ((GVal×Int)):=fun(s,at1,deep)=>
 if(decide (at1≥(s.length:Int))) then some ((GVal.mk (0:Int) (0:Int) [] [] []),(-1:Int)) else
 if(deep==(0:Int)) then some ((GVal.mk (0:Int) (0:Int) [] [] []),(-1:Int)) else
 if((0:Int)≤at1) then
 if(at1<(s.length:Int)) then
 if((bt s at1)==(34:Int)) then(z1g (s,at1)>>=fun q=>
 some (q.1.re,q.2)) else
 if((0:Int)≤at1) then
 if(at1<(s.length:Int)) then
 if((bt s at1) !=(91:Int)) then(if((0:Int)≤at1) then
 if(at1<(s.length:Int)) then
 if((bt s at1) !=(123:Int)) then(z1d (s,at1)>>=fun n=>
 some (n.1.re,n.2)) else
 if((0:Int)≤at1) then
 if(at1<(s.length:Int)) then
 if((bt s at1)==(123:Int)) then(if(decide ((w64 (at1+(1:Int)))<(s.length:Int))) then(if((0:Int)≤(w64 (at1+(1:Int)))) then
 if((w64 (at1+(1:Int)))<(s.length:Int)) then
 if((bt s (w64 (at1+(1:Int))))==(125:Int)) then some ((GVal.mk (4:Int) (0:Int) [] [] []),(w64 ((w64 (at1+(1:Int)))+(1:Int)))) else
 ji ((s,((125:Int),(deep,(w64 (at1+(1:Int)))))),(((GVal.mk (0:Int) (0:Int) [] [] []),(0:Int)),(((4:Int),((0:Int),[])),([],[]))))>>=fun r=>
 Sum.elim (fun r1=>some (r1.1.re,r1.2)) (fun r1=>some ((GVal.mk (0:Int) (0:Int) [] [] []),(-1:Int))) r else none else none) else
 ji ((s,((125:Int),(deep,(w64 (at1+(1:Int)))))),(((GVal.mk (0:Int) (0:Int) [] [] []),(0:Int)),(((4:Int),((0:Int),[])),([],[]))))>>=fun r=>
 Sum.elim (fun r1=>some (r1.1.re,r1.2)) (fun r1=>some ((GVal.mk (0:Int) (0:Int) [] [] []),(-1:Int))) r) else
 if(decide ((w64 (at1+(1:Int)))<(s.length:Int))) then(if((0:Int)≤(w64 (at1+(1:Int)))) then
 if((w64 (at1+(1:Int)))<(s.length:Int)) then
 if((bt s (w64 (at1+(1:Int))))==(93:Int)) then some ((GVal.mk (3:Int) (0:Int) [] [] []),(w64 ((w64 (at1+(1:Int)))+(1:Int)))) else
 ji ((s,((93:Int),(deep,(w64 (at1+(1:Int)))))),(((GVal.mk (0:Int) (0:Int) [] [] []),(0:Int)),(((3:Int),((0:Int),[])),([],[]))))>>=fun r=>
 Sum.elim (fun r1=>some (r1.1.re,r1.2)) (fun r1=>some ((GVal.mk (0:Int) (0:Int) [] [] []),(-1:Int))) r else none else none) else
 ji ((s,((93:Int),(deep,(w64 (at1+(1:Int)))))),(((GVal.mk (0:Int) (0:Int) [] [] []),(0:Int)),(((3:Int),((0:Int),[])),([],[]))))>>=fun r=>
 Sum.elim (fun r1=>some (r1.1.re,r1.2)) (fun r1=>some ((GVal.mk (0:Int) (0:Int) [] [] []),(-1:Int))) r else none else none else none else none) else
 if((0:Int)≤at1) then
 if(at1<(s.length:Int)) then
 if((bt s at1)==(123:Int)) then(if(decide ((w64 (at1+(1:Int)))<(s.length:Int))) then(if((0:Int)≤(w64 (at1+(1:Int)))) then
 if((w64 (at1+(1:Int)))<(s.length:Int)) then
 if((bt s (w64 (at1+(1:Int))))==(125:Int)) then some ((GVal.mk (4:Int) (0:Int) [] [] []),(w64 ((w64 (at1+(1:Int)))+(1:Int)))) else
 ji ((s,((125:Int),(deep,(w64 (at1+(1:Int)))))),(((GVal.mk (0:Int) (0:Int) [] [] []),(0:Int)),(((4:Int),((0:Int),[])),([],[]))))>>=fun r=>
 Sum.elim (fun r1=>some (r1.1.re,r1.2)) (fun r1=>some ((GVal.mk (0:Int) (0:Int) [] [] []),(-1:Int))) r else none else none) else
 ji ((s,((125:Int),(deep,(w64 (at1+(1:Int)))))),(((GVal.mk (0:Int) (0:Int) [] [] []),(0:Int)),(((4:Int),((0:Int),[])),([],[]))))>>=fun r=>
 Sum.elim (fun r1=>some (r1.1.re,r1.2)) (fun r1=>some ((GVal.mk (0:Int) (0:Int) [] [] []),(-1:Int))) r) else
 if(decide ((w64 (at1+(1:Int)))<(s.length:Int))) then(if((0:Int)≤(w64 (at1+(1:Int)))) then
 if((w64 (at1+(1:Int)))<(s.length:Int)) then
 if((bt s (w64 (at1+(1:Int))))==(93:Int)) then some ((GVal.mk (3:Int) (0:Int) [] [] []),(w64 ((w64 (at1+(1:Int)))+(1:Int)))) else
 ji ((s,((93:Int),(deep,(w64 (at1+(1:Int)))))),(((GVal.mk (0:Int) (0:Int) [] [] []),(0:Int)),(((3:Int),((0:Int),[])),([],[]))))>>=fun r=>
 Sum.elim (fun r1=>some (r1.1.re,r1.2)) (fun r1=>some ((GVal.mk (0:Int) (0:Int) [] [] []),(-1:Int))) r else none else none) else
 ji ((s,((93:Int),(deep,(w64 (at1+(1:Int)))))),(((GVal.mk (0:Int) (0:Int) [] [] []),(0:Int)),(((3:Int),((0:Int),[])),([],[]))))>>=fun r=>
 Sum.elim (fun r1=>some (r1.1.re,r1.2)) (fun r1=>some ((GVal.mk (0:Int) (0:Int) [] [] []),(-1:Int))) r else none else none else none else none else none else none
def qp7(z05:Y0y→Option ((GVal×Int)))(ji:((Str×Y0o)×((GVal×Int)×(Y0u×((List GVal)×Y01))))→Option ((GVal×Int)⊕(GVal×Int))):((Str×Y0o)×((GVal×Int)×(Y0u×((List GVal)×Y01))))→Option ((GVal×Int)⊕(GVal×Int)):=fun((s,end1,deep,at1),c,c1,c2,c3)=>
 if(decide ((c2.length:Int)<(17:Int))) then(if(c1.1==(4:Int)) then(z1g (s,at1)>>=fun q=>
 if(decide (q.2<(0:Int))) then some (.inl ((GVal.mk (0:Int) (0:Int) [] [] []),(-1:Int))) else
 if(decide (q.2≥(s.length:Int))) then some (.inl ((GVal.mk (0:Int) (0:Int) [] [] []),(-1:Int))) else
 if((0:Int)≤q.2) then
 if(q.2<(s.length:Int)) then
 if((bt s q.2) !=(58:Int)) then some (.inl ((GVal.mk (0:Int) (0:Int) [] [] []),(-1:Int))) else
 if(qi (c3.length+[q.1.s].length) 16) then
 z05 (s,((w64 (q.2+(1:Int))),(w64 (deep-(1:Int)))))>>=fun r=>
 if(decide (r.2<(0:Int))) then some (.inl ((GVal.mk (0:Int) (0:Int) [] [] []),(-1:Int))) else
 if(decide (r.2≥(s.length:Int))) then some (.inl ((GVal.mk (0:Int) (0:Int) [] [] []),(-1:Int))) else
 if(qi (c2.length+[r.1.re].length) 80) then
 if((0:Int)≤r.2) then
 if(r.2<(s.length:Int)) then
 if((bt s r.2)==end1) then some (.inl ((GVal.mk c1.1 c1.2.1 c1.2.2 (c2++[r.1.re]) (c3++[q.1.s])),(w64 (r.2+(1:Int))))) else
 if((0:Int)≤r.2) then
 if(r.2<(s.length:Int)) then
 if((bt s r.2) !=(44:Int)) then some (.inl ((GVal.mk (0:Int) (0:Int) [] [] []),(-1:Int))) else
 ji ((s,(end1,(deep,(w64 (r.2+(1:Int)))))),((c.1.re,c.2),(c1,((c2++[r.1.re]),(c3++[q.1.s]))))) else none else none else none else none else none else none else none else none) else
 z05 (s,(at1,(w64 (deep-(1:Int)))))>>=fun r=>
 if(decide (r.2<(0:Int))) then some (.inl ((GVal.mk (0:Int) (0:Int) [] [] []),(-1:Int))) else
 if(decide (r.2≥(s.length:Int))) then some (.inl ((GVal.mk (0:Int) (0:Int) [] [] []),(-1:Int))) else
 if(qi (c2.length+[r.1.re].length) 80) then
 if((0:Int)≤r.2) then
 if(r.2<(s.length:Int)) then
 if((bt s r.2)==end1) then some (.inl ((GVal.mk c1.1 c1.2.1 c1.2.2 (c2++[r.1.re]) c3),(w64 (r.2+(1:Int))))) else
 if((0:Int)≤r.2) then
 if(r.2<(s.length:Int)) then
 if((bt s r.2) !=(44:Int)) then some (.inl ((GVal.mk (0:Int) (0:Int) [] [] []),(-1:Int))) else
 ji ((s,(end1,(deep,(w64 (r.2+(1:Int)))))),((c.1.re,c.2),(c1,((c2++[r.1.re]),c3)))) else none else none else none else none else none) else
 some (.inr (c.1.re,c.2))
def ql8(u: ∀a,Option (qp6 a)): ∀a,Option (qp6 a)
 |(.inl q)=>q8y (fun q=>u (.inl q)) (fun q=>u (.inr q)) q
 |(.inr q)=>qp7 (fun q=>u (.inl q)) (fun q=>u (.inr q)) q
def z05(q:Y0y):Option ((GVal×Int)):=wi ql8 (.inl q)
def ji(q:((Str×Y0o)×((GVal×Int)×(Y0u×((List GVal)×Y01))))):Option ((GVal×Int)⊕(GVal×Int)):=wi ql8 (.inr q)
theorem jit: ∀a,Cont fun u=>ql8 u a
 |(.inl (s,at1,deep))=>by unfold ql8 q8y;exact(.ite (.const _) (.ite (.const _) (.ite (.ite (.ite (.const _) (.ite (.ite (.ite (.ite (.ite (.ite (.const _) (.ite (.ite (.ite (.ite (.ite (.ite (.ite (.const _) (.bind (.app _) fun _=>(.const _))) (.const _)) (.const _)) (.bind (.app _) fun _=>(.const _))) (.ite (.ite (.ite (.ite (.const _) (.bind (.app _) fun _=>(.const _))) (.const _)) (.const _)) (.bind (.app _) fun _=>(.const _)))) (.const _)) (.const _))) (.const _)) (.const _)) (.ite (.ite (.ite (.ite (.ite (.ite (.ite (.const _) (.bind (.app _) fun _=>(.const _))) (.const _)) (.const _)) (.bind (.app _) fun _=>(.const _))) (.ite (.ite (.ite (.ite (.const _) (.bind (.app _) fun _=>(.const _))) (.const _)) (.const _)) (.bind (.app _) fun _=>(.const _)))) (.const _)) (.const _))) (.const _)) (.const _))) (.const _)) (.const _))))
 |(.inr ((s,end1,deep,at1),c,c1,c2,c3))=>by unfold ql8 qp7;exact(.ite (.ite (.bind (.const _) fun _=>(.ite (.const _) (.ite (.const _) (.ite (.ite (.ite (.const _) (.ite (.bind (.app _) fun _=>(.ite (.const _) (.ite (.const _) (.ite (.ite (.ite (.ite (.const _) (.ite (.ite (.ite (.const _) (.app _)) (.const _)) (.const _))) (.const _)) (.const _)) (.const _))))) (.const _))) (.const _)) (.const _))))) (.bind (.app _) fun _=>(.ite (.const _) (.ite (.const _) (.ite (.ite (.ite (.ite (.const _) (.ite (.ite (.ite (.const _) (.app _)) (.const _)) (.const _))) (.const _)) (.const _)) (.const _)))))) (.const _))
theorem q4g q:z05 q=q8y z05 ji q:=j7 jit (.inl q)
theorem q4h q:ji q=qp7 z05 ji q:=j7 jit (.inr q)
def z3d:Fu Str (GVal×Bool):=fun s=>
 z05 (s,((0:Int),(6:Int)))>>=fun r=>
 if(r.2 !=(s.length:Int)) then some ((GVal.mk (0:Int) (0:Int) [] [] []),false) else
 z3i r.1.re>>=fun r1=>
 if(!r1) then some ((GVal.mk (0:Int) (0:Int) [] [] []),false) else
 some (r.1.re,true)
def qje(self:Fu Y1o Y09):Fu Y1o Y09:=fun(x8,s,v,x7)=>
 if(decide (x8<x7)) then(if((0:Int)≤x8) then
 if(x8<(s.length:Int)) then
 if(v==(elt .str s x8.toNat)) then some (.inl x8) else
 self ((w64 (x8+(1:Int))),(s,(v,x7))) else none else none) else
 some (.inr ())
def qrm:Fu Y1o Y09:=qt qje
theorem qvn q:qrm q=qje qrm q:=qw q
def z1f:Fu Y0a (Int):=fun(s,v)=>
 qrm ((0:Int),(s,(v,(s.length:Int))))>>=fun r=>
 Sum.elim (fun r1=>some r1) (fun r1=>some (-1:Int)) r
def z1b:Fu (GVal×Y03) (GVal×Int):=fun(v,name,kind)=>
 z1f (v.names,name)>>=fun s=>
 if(v.kind !=(4:Int)) then some ((GVal.mk (0:Int) (0:Int) [] [] []),(8:Int)) else
 if((v.names.length:Int) !=(v.items.length:Int)) then some ((GVal.mk (0:Int) (0:Int) [] [] []),(8:Int)) else
 if(decide (s<(0:Int))) then some ((GVal.mk (0:Int) (0:Int) [] [] []),(8:Int)) else
 if((0:Int)≤s) then
 if(s<(v.items.length:Int)) then
 if((elt .val v.items s.toNat).kind !=kind) then some ((GVal.mk (0:Int) (0:Int) [] [] []),(8:Int)) else
 if((0:Int)≤s) then
 if(s<(v.items.length:Int)) then
 some ((elt .val v.items s.toNat).re,(0:Int)) else none else none else none else none
end Go.Plain
namespace Go.Plain
open Go.AM
set_option linter.unusedVariables false
def z4b:Fu Y00 (Bool):=fun(s,prefix1)=>
 if(decide ((s.length:Int)≥(prefix1.length:Int))) then(if((prefix1.length:Int)≤(s.length:Int)) then
 some ((List.take (prefix1.length:Int).toNat s)==prefix1) else none) else
 some false
def z4a:Fu Y00 Y0e:=fun(s,prefix1)=>
 z4b (s,prefix1)>>=fun h=>
 if(!h) then some (s,false) else
 if((prefix1.length:Int)≤(s.length:Int)) then
 if((s.length:Int)≤(s.length:Int)) then
 some ((List.drop (prefix1.length:Int).toNat (List.take (s.length:Int).toNat s)),true) else none else none
def z48:Fu Y00 Y0e:=fun(s,prefix1)=>
 z4a (s,prefix1)>>=fun c=>
 some c
def qb0(self:Fu Y14 (Y03⊕Y04)):Fu Y14 (Y03⊕Y04):=fun((x18,s,x17),c)=>
 if(decide (x18<x17)) then(if((0:Int)≤(w64 ((2:Int)*x18))) then
 if((w64 ((2:Int)*x18))<(s.length:Int)) then
 jk (([48,49,50,51,52,53,54,55,56,57,97,98,99,100,101,102]:Str),(bt s (w64 ((2:Int)*x18))))>>=fun i=>
 if((0:Int)≤(w64 ((w64 ((2:Int)*x18))+(1:Int)))) then
 if((w64 ((w64 ((2:Int)*x18))+(1:Int)))<(s.length:Int)) then
 jk (([48,49,50,51,52,53,54,55,56,57,97,98,99,100,101,102]:Str),(bt s (w64 ((w64 ((2:Int)*x18))+(1:Int)))))>>=fun i1=>
 if(decide (i<(0:Int))) then some (.inl ([],(4:Int))) else
 if(decide (i1<(0:Int))) then some (.inl ([],(4:Int))) else
 if((0:Int)≤x18) then
 if(x18<(c.length:Int)) then
 if(x18.toNat<c.length) then
 self (((w64 (x18+(1:Int))),(s,x17)),(List.set c x18.toNat (IntKind.wrap .u8 (w64 ((w64 (i*(16:Int)))+i1))))) else none else none else none else none else none else none else none) else
 some (.inr c)
def qgj:Fu Y14 (Y03⊕Y04):=qt qb0
theorem qe8 q:qgj q=qb0 qgj q:=qw q
def z12:Fu Str Y03:=fun s=>
 if((Int.tmod (s.length:Int) (2:Int)) !=(0:Int)) then some ([],(4:Int)) else
 if((w64 (Int.tdiv (s.length:Int) (2:Int)))=(w64 (Int.tdiv (s.length:Int) (2:Int)))) then
 if((0:Int)≤(w64 (Int.tdiv (s.length:Int) (2:Int)))) then
 if(qi (w64 (Int.tdiv (s.length:Int) (2:Int))).toNat 1) then
 qgj (((0:Int),(s,((List.replicate (w64 (Int.tdiv (s.length:Int) (2:Int))).toNat (0:Int)).length:Int))),(List.replicate (w64 (Int.tdiv (s.length:Int) (2:Int))).toNat (0:Int)))>>=fun r=>
 Sum.elim (fun r1=>some r1) (fun r1=>some ((ja r1),(0:Int))) r else none else none else none
def z2x:Fu Str Y03:=fun s=>
 zh (s,([115,104,97,50,53,54,58]:Str))>>=fun c=>
 z12 c.1>>=fun b=>
 if(!c.2) then some ([],(6:Int)) else
 if(b.2 !=(0:Int)) then some ([],(6:Int)) else
 if((b.1.length:Int) !=(32:Int)) then some ([],(6:Int)) else
 some (b.1,(0:Int))
def z2n:Fu Str (Bool):=fun s=>
 z2x s>>=fun p=>
 some (p.2==(0:Int))
def z0x:Fu Y0a (Bool):=fun(s,v)=>
 z1f (s,v)>>=fun s1=>
 some (decide (s1≥(0:Int)))
def qi3(self:Fu Y2f Y2g):Fu Y2f Y2g:=fun((x11,x9,x10),c)=>
 if(decide (x11<x10)) then(if((0:Int)≤x11) then
 if(x11<(x9.length:Int)) then
 z2n (elt .str x9 x11.toNat)>>=fun i=>
 if(!i) then some (.inl false) else
 if((0:Int)≤x11) then
 if(x11≤(c.2.2.2.length:Int)) then
 z0x ((List.take x11.toNat c.2.2.2),(elt .str x9 x11.toNat))>>=fun s=>
 if s then some (.inl false) else
 self (((w64 (x11+(1:Int))),(x9,x10)),c) else none else none else none else none) else
 some (.inr c)
def qq9:Fu Y2f Y2g:=qt qi3
theorem qvc q:qq9 q=qi3 qq9 q:=qw q
def z3p:Fu Y03 (Bool):=fun l=>
 z2n l.1>>=fun i=>
 if(!i) then some true else
 if(decide (l.2<(0:Int))) then some true else
 some (decide (l.2>(4096:Int)))
def qj3(self:Fu (Int×Y0m) Y09):Fu (Int×Y0m) Y09:=fun(x8,s,x7)=>
 if(decide (x8<x7)) then(if((0:Int)≤x8) then
 if(x8<(s.length:Int)) then
 z3p (elt y03 s x8.toNat)>>=fun r=>
 if r then some (.inl x8) else
 self ((w64 (x8+(1:Int))),(s,x7)) else none else none) else
 some (.inr ())
def qr7:Fu (Int×Y0m) Y09:=qt qj3
theorem qwb q:qr7 q=qj3 qr7 q:=qw q
def z27:Fu Y0q (Int):=fun s=>
 qr7 ((0:Int),(s,(s.length:Int)))>>=fun r=>
 Sum.elim (fun r1=>some r1) (fun r1=>some (-1:Int)) r
def z3k:Fu Y0q (Bool):=fun s=>
 z27 s>>=fun y=>
 some (decide (y≥(0:Int)))
def z0u:Fu Y1w (Bool):=fun m=>
 if m.1 then(qq9 (((0:Int),(m.2.2.2,(m.2.2.2.length:Int))),m)>>=fun r=>
 Sum.elim (fun r1=>some r1) (fun r1=>if(decide ((r1.2.2.2.length:Int)≥(1:Int))) then(if(decide ((r1.2.2.2.length:Int)≤(8:Int))) then(if(r1.2.1==[]) then some ((r1.2.2.1.length:Int)==(0:Int)) else
 some false) else
 some false) else
 some false) r) else
 z2n m.2.1>>=fun i=>
 if i then(if((m.2.2.2.length:Int)==(0:Int)) then(if(decide ((m.2.2.1.length:Int)≤(8:Int))) then(z3k m.2.2.1>>=fun y=>
 some (!y)) else
 some false) else
 some false) else
 some false
def z2q:Fu Str (GVal):=fun s=>
 some (GVal.mk (2:Int) (0:Int) s [] [])
def qj6(self:Fu ((Int×Y05)×((Int×Y1g)×(GVal×(List GVal)))) (GVal×((Int×Y1g)×(List GVal)))):Fu ((Int×Y05)×((Int×Y1g)×(GVal×(List GVal)))) (GVal×((Int×Y1g)×(List GVal))):=fun((x11,x9,x10),c,c1,c2)=>
 if(decide (x11<x10)) then(if((0:Int)≤x11) then
 if(x11<(x9.length:Int)) then
 z2q (elt .str x9 x11.toNat)>>=fun w=>
 if(qi (c2.length+[w.re].length) 80) then
 self (((w64 (x11+(1:Int))),(x9,x10)),(c,(c1.re,(c2++[w.re])))) else none else none else none) else
 some (c1.re,(c,c2))
def qsa:Fu ((Int×Y05)×((Int×Y1g)×(GVal×(List GVal)))) (GVal×((Int×Y1g)×(List GVal))):=qt qj6
theorem qwe q:qsa q=qj6 qsa q:=qw q
def z2a:Fu Y01 (GVal):=fun l=>
 qsa (((0:Int),(l,(l.length:Int))),(((3:Int),((0:Int),([],[]))),((GVal.mk (0:Int) (0:Int) [] [] []),[])))>>=fun r=>
 some (GVal.mk r.2.1.1 r.2.1.2.1 r.2.1.2.2.1 r.2.2 r.2.1.2.2.2)
def z44:Fu Y03 (GVal):=fun l=>
 z2q l.1>>=fun w=>
 some (GVal.mk (4:Int) (0:Int) [] [w.re,(GVal.mk (1:Int) l.2 [] [] [])] [([100,105,103,101,115,116]:Str),([115,105,122,101]:Str)])
def qj4(self:Fu ((Int×Y0m)×((Int×Y1g)×(GVal×(List GVal)))) (GVal×((Int×Y1g)×(List GVal)))):Fu ((Int×Y0m)×((Int×Y1g)×(GVal×(List GVal)))) (GVal×((Int×Y1g)×(List GVal))):=fun((x11,x9,x10),c,c1,c2)=>
 if(decide (x11<x10)) then(if((0:Int)≤x11) then
 if(x11<(x9.length:Int)) then
 z44 (elt y03 x9 x11.toNat)>>=fun l=>
 if(qi (c2.length+[l.re].length) 80) then
 self (((w64 (x11+(1:Int))),(x9,x10)),(c,(c1.re,(c2++[l.re])))) else none else none else none) else
 some (c1.re,(c,c2))
def qr8:Fu ((Int×Y0m)×((Int×Y1g)×(GVal×(List GVal)))) (GVal×((Int×Y1g)×(List GVal))):=qt qj4
theorem qwc q:qr8 q=qj4 qr8 q:=qw q
def z28:Fu Y0q (GVal):=fun l=>
 qr8 (((0:Int),(l,(l.length:Int))),(((3:Int),((0:Int),([],[]))),((GVal.mk (0:Int) (0:Int) [] [] []),[])))>>=fun r=>
 some (GVal.mk r.2.1.1 r.2.1.2.1 r.2.1.2.2.1 r.2.2 r.2.1.2.2.2)
def z3q:Fu Y1w (GVal):=fun m=>
 if m.1 then(z2a m.2.2.2>>=fun s=>
 z2q ([105,110,100,101,120]:Str)>>=fun w=>
 some (GVal.mk (4:Int) (0:Int) [] [s.re,w.re] [([107,105,100,115]:Str),([107,105,110,100]:Str)])) else
 z2q m.2.1>>=fun w=>
 z2q ([105,109,97,103,101]:Str)>>=fun w1=>
 z28 m.2.2.1>>=fun m1=>
 some (GVal.mk (4:Int) (0:Int) [] [w.re,w1.re,m1.re] [([99,111,110,102,105,103]:Str),([107,105,110,100]:Str),([108,97,121,101,114,115]:Str)])
def z2w:Fu Y1w Y03:=fun m=>
 z0u m>>=fun r=>
 if(!r) then some ([],(1:Int)) else
 z3q m>>=fun v=>
 z2z v.re>>=fun p=>
 some p
def z32:Fu Int (Int):=fun c=>
 if(decide (c≥(48:Int))) then(if(decide (c≤(57:Int))) then some (w64 (IntKind.wrap .u8 (c-(48:Int)))) else
 if(decide (c≥(97:Int))) then(if(decide (c≤(102:Int))) then some (w64 ((w64 (IntKind.wrap .u8 (c-(97:Int))))+(10:Int))) else
 some (16:Int)) else
 some (16:Int)) else
 if(decide (c≥(97:Int))) then(if(decide (c≤(102:Int))) then some (w64 ((w64 (IntKind.wrap .u8 (c-(97:Int))))+(10:Int))) else
 some (16:Int)) else
 some (16:Int)
def qb1(self:Fu (Y02×Y04) (Y0e⊕Y12)):Fu (Y02×Y04) (Y0e⊕Y12):=fun((i,s),c)=>
 if(decide ((w64 (i+(1:Int)))<(s.length:Int))) then(if((0:Int)≤i) then
 if(i<(s.length:Int)) then
 z32 (bt s i)>>=fun h=>
 if(decide (h>(15:Int))) then some (.inl ([],false)) else
 if((0:Int)≤(w64 (i+(1:Int)))) then
 if((w64 (i+(1:Int)))<(s.length:Int)) then
 z32 (bt s (w64 (i+(1:Int))))>>=fun h1=>
 if(decide (h1>(15:Int))) then some (.inl ([],false)) else
 if((0:Int)≤i) then
 if(i<(s.length:Int)) then
 z32 (bt s i)>>=fun h2=>
 if((0:Int)≤(w64 (i+(1:Int)))) then
 if((w64 (i+(1:Int)))<(s.length:Int)) then
 z32 (bt s (w64 (i+(1:Int))))>>=fun h3=>
 if(qi (c.length+[(IntKind.wrap .u8 (w64 ((w64 ((16:Int)*h2))+h3)))].length) 1) then
 self (((w64 (i+(2:Int))),s),(c++[(IntKind.wrap .u8 (w64 ((w64 ((16:Int)*h2))+h3)))])) else none else none else none else none else none else none else none else none else none) else
 some (.inr (s,c))
def qgk:Fu (Y02×Y04) (Y0e⊕Y12):=qt qb1
theorem qfb q:qgk q=qb1 qgk q:=qw q
def z19:Fu Str Y0e:=fun s=>
 qgk (((0:Int),s),[])>>=fun r=>
 Sum.elim (fun r1=>some r1) (fun r1=>some ((ja r1.2),((Int.tmod (r1.1.length:Int) (2:Int))==(0:Int)))) r
def z2l:Fu Str Y0e:=fun s=>
 if((s.length:Int) !=(71:Int)) then some ([],false) else
 if((7:Int)≤(s.length:Int)) then
 if((List.take 7 s) !=([115,104,97,50,53,54,58]:Str)) then some ([],false) else
 if((7:Int)≤(s.length:Int)) then
 if((s.length:Int)≤(s.length:Int)) then
 z19 (List.drop 7 (List.take (s.length:Int).toNat s))>>=fun b=>
 some b else none else none else none
def z2o:Fu Str (Bool):=fun s=>
 z2l s>>=fun p=>
 some p.2
def qjl(self:Fu Y1h Y06):Fu Y1h Y06:=fun(x9,s,x7,x8)=>
 if(decide (x9<x8)) then(if((0:Int)≤x9) then
 if(x9<(x7.length:Int)) then
 if((elt .str x7 x9.toNat)==s) then some (.inl true) else
 self ((w64 (x9+(1:Int))),(s,(x7,x8))) else none else none) else
 some (.inr ())
def qrs:Fu Y1h Y06:=qt qjl
theorem qvu q:qrs q=qjl qrs q:=qw q
def z1m:Fu Y0a (Bool):=fun(l,s)=>
 qrs ((0:Int),(s,(l,(l.length:Int))))>>=fun r=>
 Sum.elim (fun r1=>some r1) (fun r1=>some false) r
def qiq(self:Fu Y2f Y2g):Fu Y2f Y2g:=fun((x10,x8,x9),c)=>
 if(decide (x10<x9)) then(if((0:Int)≤x10) then
 if(x10<(x8.length:Int)) then
 z2o (elt .str x8 x10.toNat)>>=fun i=>
 if(!i) then some (.inl false) else
 if((0:Int)≤x10) then
 if(x10≤(c.2.2.2.length:Int)) then
 z1m ((List.take x10.toNat c.2.2.2),(elt .str x8 x10.toNat))>>=fun h=>
 if h then some (.inl false) else
 self (((w64 (x10+(1:Int))),(x8,x9)),c) else none else none else none else none) else
 some (.inr c)
def qqu:Fu Y2f Y2g:=qt qiq
theorem qu2 q:qqu q=qiq qqu q:=qw q
def qd0(self:Fu Y2n Y2g):Fu Y2n Y2g:=fun((x30,x28,x29),c)=>
 if(decide (x30<x29)) then(if((0:Int)≤x30) then
 if(x30<(x28.length:Int)) then
 z2o (elt y03 x28 x30.toNat).1>>=fun i=>
 if(!i) then some (.inl false) else
 if(decide ((elt y03 x28 x30.toNat).2<(0:Int))) then some (.inl false) else
 if(decide ((elt y03 x28 x30.toNat).2>(4096:Int))) then some (.inl false) else
 self (((w64 (x30+(1:Int))),(x28,x29)),c) else none else none) else
 some (.inr c)
def qip:Fu Y2n Y2g:=qt qd0
theorem qqt q:qip q=qd0 qip q:=qw q
def z0j:Fu Y1w (Bool):=fun m=>
 qqu (((0:Int),(m.2.2.2,(m.2.2.2.length:Int))),m)>>=fun r=>
 Sum.elim (fun r1=>some r1) (fun r1=>qip (((0:Int),(r1.2.2.1,(r1.2.2.1.length:Int))),r1)>>=fun r2=>
 Sum.elim (fun r3=>some r3) (fun r3=>if(decide ((r3.2.2.2.length:Int)>(8:Int))) then some false else
 if(decide ((r3.2.2.1.length:Int)>(8:Int))) then some false else
 if r3.1 then(if(decide ((r3.2.2.2.length:Int)>(0:Int))) then(if(r3.2.1==[]) then some ((r3.2.2.1.length:Int)==(0:Int)) else
 some false) else
 some false) else
 z2o r3.2.1>>=fun i=>
 if i then some ((r3.2.2.2.length:Int)==(0:Int)) else
 some false) r2) r
def qi9(self:Fu Y1j Y01):Fu Y1j Y01:=fun((x19,x17,x18),c)=>
 if(decide (x19<x18)) then(if((0:Int)≤x19) then
 if(x19<(x17.length:Int)) then
 z0x (c,(elt y03 x17 x19.toNat).1)>>=fun s=>
 if(!s) then(if(qi (c.length+[(elt y03 x17 x19.toNat).1].length) 16) then
 self (((w64 (x19+(1:Int))),(x17,x18)),(c++[(elt y03 x17 x19.toNat).1])) else none) else
 self (((w64 (x19+(1:Int))),(x17,x18)),c) else none else none) else
 some c
def qrg:Fu Y1j Y01:=qt qi9
theorem qvi q:qrg q=qi9 qrg q:=qw q
def z14:Fu Y1w Y01:=fun m=>
 if m.1 then some [] else
 z0u m>>=fun r=>
 if(!r) then some [] else
 qrg (((0:Int),(m.2.2.1,(m.2.2.1.length:Int))),[m.2.1])>>=fun r1=>
 some r1
def qi8(self:Fu Y1j Y01):Fu Y1j Y01:=fun((x23,x21,x22),c)=>
 if(decide (x23<x22)) then(if((0:Int)≤x23) then
 if(x23<(x21.length:Int)) then
 z1m (c,(elt y03 x21 x23.toNat).1)>>=fun h=>
 if(!h) then(if(qi (c.length+[(elt y03 x21 x23.toNat).1].length) 16) then
 self (((w64 (x23+(1:Int))),(x21,x22)),(c++[(elt y03 x21 x23.toNat).1])) else none) else
 self (((w64 (x23+(1:Int))),(x21,x22)),c) else none else none) else
 some c
def qrf:Fu Y1j Y01:=qt qi8
theorem qvh q:qrf q=qi8 qrf q:=qw q
def z13:Fu Y1w Y01:=fun m=>
 if m.1 then some [] else
 z0j m>>=fun r=>
 if(!r) then some [] else
 qrf (((0:Int),(m.2.2.1,(m.2.2.1.length:Int))),[m.2.1])>>=fun r1=>
 some r1
def qh5(self:Fu Y03 Y02):Fu Y03 Y02:=fun(s,many)=>
 if((Int.tmod (s.length:Int) (64:Int)) !=(56:Int)) then(if((s.length+([0]:Str).length)≤9223372036854775807) then
 self ((s++([0]:Str)),many) else none) else
 some (many,s)
def qyq:Fu Y03 Y02:=qt qh5
theorem qur q:qyq q=qh5 qyq q:=qw q
def qda(self:Fu Y0u (Str)):Fu Y0u (Str):=fun(i,many,s)=>
 if(decide (i≥(0:Int))) then(if((0:Int)≤(w64 ((8:Int)*i))) then
 if((s.length+(ja [(IntKind.wrap .u8 (jv .u64 many (w64 ((8:Int)*i))))]).length)≤9223372036854775807) then
 self ((w64 (i-(1:Int))),(many,(s++(ja [(IntKind.wrap .u8 (jv .u64 many (w64 ((8:Int)*i))))])))) else none else none) else
 some s
def qh3:Fu Y0u (Str):=qt qda
theorem qps q:qh3 q=qda qh3 q:=qw q
def z45:Fu Unit Y3b:=fun _=>
 some ((1779033703:Int),((3144134277:Int),((1013904242:Int),((2773480762:Int),((1359893119:Int),((2600822924:Int),((528734635:Int),(1541459225:Int))))))))
def z3t:Fu Str (Int):=fun s=>
 if((0:Int)<(s.length:Int)) then
 if((1:Int)<(s.length:Int)) then
 if((2:Int)<(s.length:Int)) then
 if((3:Int)<(s.length:Int)) then
 some (ior .u32 (ior .u32 (ior .u32 (qsk .u32 (IntKind.wrap .u32 (bt s (0:Int))) (24:Int)) (qsk .u32 (IntKind.wrap .u32 (bt s (1:Int))) (16:Int))) (qsk .u32 (IntKind.wrap .u32 (bt s (2:Int))) (8:Int))) (IntKind.wrap .u32 (bt s (3:Int)))) else none else none else none else none
def z35:Fu Y07 (Int):=fun(x1,k)=>
 if((0:Int)≤(IntKind.wrap .u64 ((32:Int)-(yy .u64 (IntKind.wrap .u64 k) (31:Int))))) then
 some (ior .u32 (qsk .u32 x1 (yy .u64 (IntKind.wrap .u64 k) (31:Int))) (jv .u32 x1 (IntKind.wrap .u64 ((32:Int)-(yy .u64 (IntKind.wrap .u64 k) (31:Int)))))) else none
def z2m:Fu (Int×(Int×(Int×(Int×Bool)))) (Int):=fun(x1,a,b,c,moved)=>
 z35 (x1,(w64 ((0:Int)-c)))>>=fun b1=>
 if moved then(if((0:Int)≤c) then
 z35 (x1,(w64 ((0:Int)-a)))>>=fun b2=>
 z35 (x1,(w64 ((0:Int)-b)))>>=fun b3=>
 some (vg .u32 (vg .u32 b2 b3) (jv .u32 x1 c)) else none) else
 z35 (x1,(w64 ((0:Int)-a)))>>=fun b2=>
 z35 (x1,(w64 ((0:Int)-b)))>>=fun b3=>
 some (vg .u32 (vg .u32 b2 b3) b1)
def qic(self:Fu (Y02×Y1c) Y1c):Fu (Y02×Y1c) Y1c:=fun((x14,s),c,c1,c2)=>
 if(decide (x14<(64:Int))) then(if(decide (x14<(16:Int))) then(if((0:Int)≤(w64 ((4:Int)*x14))) then
 if((w64 ((4:Int)*x14))≤(s.length:Int)) then
 if((s.length:Int)≤(s.length:Int)) then
 z3t (List.drop (w64 ((4:Int)*x14)).toNat (List.take (s.length:Int).toNat s))>>=fun b=>
 if((0:Int)≤x14) then
 if(x14<(64:Int)) then
 if(x14.toNat<c.length) then
 self (((w64 (x14+(1:Int))),s),((List.set c x14.toNat b),(c1,c2))) else none else none else none else none else none else none) else
 if((0:Int)≤(w64 (x14-(2:Int)))) then
 if((w64 (x14-(2:Int)))<(64:Int)) then
 if((w64 (x14-(2:Int))).toNat<c.length) then
 z2m ((elt (.int .u32) c (w64 (x14-(2:Int))).toNat),((17:Int),((19:Int),((10:Int),true))))>>=fun m=>
 if((0:Int)≤(w64 (x14-(7:Int)))) then
 if((w64 (x14-(7:Int)))<(64:Int)) then
 if((w64 (x14-(7:Int))).toNat<c.length) then
 if((0:Int)≤(w64 (x14-(15:Int)))) then
 if((w64 (x14-(15:Int)))<(64:Int)) then
 if((w64 (x14-(15:Int))).toNat<c.length) then
 z2m ((elt (.int .u32) c (w64 (x14-(15:Int))).toNat),((7:Int),((18:Int),((3:Int),true))))>>=fun m1=>
 if((0:Int)≤(w64 (x14-(16:Int)))) then
 if((w64 (x14-(16:Int)))<(64:Int)) then
 if((w64 (x14-(16:Int))).toNat<c.length) then
 if((0:Int)≤x14) then
 if(x14<(64:Int)) then
 if(x14.toNat<c.length) then
 self (((w64 (x14+(1:Int))),s),((List.set c x14.toNat (IntKind.wrap .u32 ((IntKind.wrap .u32 ((IntKind.wrap .u32 (m+(elt (.int .u32) c (w64 (x14-(7:Int))).toNat)))+m1))+(elt (.int .u32) c (w64 (x14-(16:Int))).toNat)))),(c1,c2))) else none else none else none else none else none else none else none else none else none else none else none else none else none else none else none) else
 some (c,(c1,c2))
def qgi:Fu (Y02×Y1c) Y1c:=qt qic
theorem quw q:qgi q=qic qgi q:=qw q
def qdp(self:Fu (Int×(Y04×Y1c)) Y1c):Fu (Int×(Y04×Y1c)) Y1c:=fun(x51,c,c1,c2,c3)=>
 if(decide (x51<(64:Int))) then(if(0<c.length) then
 if(4<c.length) then
 if(7<c.length) then
 z2m ((elt (.int .u32) c 4),((6:Int),((11:Int),((25:Int),false))))>>=fun m=>
 if(5<c.length) then
 if(6<c.length) then
 if((0:Int)≤x51) then
 if(x51<(64:Int)) then
 if(x51<(jh.length:Int)) then
 if((0:Int)≤x51) then
 if(x51<(64:Int)) then
 if(x51.toNat<c1.length) then
 z2m ((elt (.int .u32) c 0),((2:Int),((13:Int),((22:Int),false))))>>=fun m1=>
 if(1<c.length) then
 if(2<c.length) then
 if(1<c.length) then
 if(2<c.length) then
 if(1<c.length) then
 if(2<c.length) then
 if(3<c.length) then
 if(5<c.length) then
 if(6<c.length) then
 if(c.length=8) then
 self ((w64 (x51+(1:Int))),([(IntKind.wrap .u32 ((IntKind.wrap .u32 ((IntKind.wrap .u32 ((IntKind.wrap .u32 ((IntKind.wrap .u32 ((elt (.int .u32) c 7)+m))+(vg .u32 (yy .u32 (elt (.int .u32) c 4) (elt (.int .u32) c 5)) (yy .u32 (vg .u32 (4294967295:Int) (elt (.int .u32) c 4)) (elt (.int .u32) c 6)))))+(elt (.int .u32) jh x51.toNat)))+(elt (.int .u32) c1 x51.toNat)))+(IntKind.wrap .u32 (m1+(vg .u32 (vg .u32 (yy .u32 (elt (.int .u32) c 0) (elt (.int .u32) c 1)) (yy .u32 (elt (.int .u32) c 0) (elt (.int .u32) c 2))) (yy .u32 (elt (.int .u32) c 1) (elt (.int .u32) c 2))))))),(elt (.int .u32) c 0),(elt (.int .u32) c 1),(elt (.int .u32) c 2),(IntKind.wrap .u32 ((elt (.int .u32) c 3)+(IntKind.wrap .u32 ((IntKind.wrap .u32 ((IntKind.wrap .u32 ((IntKind.wrap .u32 ((elt (.int .u32) c 7)+m))+(vg .u32 (yy .u32 (elt (.int .u32) c 4) (elt (.int .u32) c 5)) (yy .u32 (vg .u32 (4294967295:Int) (elt (.int .u32) c 4)) (elt (.int .u32) c 6)))))+(elt (.int .u32) jh x51.toNat)))+(elt (.int .u32) c1 x51.toNat))))),(elt (.int .u32) c 4),(elt (.int .u32) c 5),(elt (.int .u32) c 6)],(c1,(c2,c3)))) else none else none else none else none else none else none else none else none else none else none else none else none else none else none else none else none else none else none else none else none else none) else
 some (c2,(c,c3))
def qez:Fu (Int×(Y04×Y1c)) Y1c:=qt qdp
theorem qqf q:qez q=qdp qez q:=qw q
def qdq(self:Fu (Int×Y1c) Y0l):Fu (Int×Y1c) Y0l:=fun(x119,c,c1,c2)=>
 if(decide (x119<(8:Int))) then(if((0:Int)≤x119) then
 if(x119<(8:Int)) then
 if(x119.toNat<c.length) then
 if((0:Int)≤x119) then
 if(x119<(8:Int)) then
 if(x119.toNat<c1.length) then
 if((0:Int)≤x119) then
 if(x119<(8:Int)) then
 if(x119.toNat<c.length) then
 self ((w64 (x119+(1:Int))),((List.set c x119.toNat (IntKind.wrap .u32 ((elt (.int .u32) c x119.toNat)+(elt (.int .u32) c1 x119.toNat)))),(c1,c2))) else none else none else none else none else none else none else none else none else none) else
 some (c2,c)
def qbz:Fu (Int×Y1c) Y0l:=qt qdq
theorem qqg q:qbz q=qdq qbz q:=qw q
def z09:Fu (Y3b×Str) Y3b:=fun(h,s)=>
 qgi (((0:Int),s),((List.replicate 64 (0:Int)),([h.1,h.2.1,h.2.2.1,h.2.2.2.1,h.2.2.2.2.1,h.2.2.2.2.2.1,h.2.2.2.2.2.2.1,h.2.2.2.2.2.2.2],[0,0,0,0,0,0,0,0])))>>=fun r=>
 if(8≤r.2.1.length) then
 qez ((0:Int),([(elt (.int .u32) r.2.1 0),(elt (.int .u32) r.2.1 1),(elt (.int .u32) r.2.1 2),(elt (.int .u32) r.2.1 3),(elt (.int .u32) r.2.1 4),(elt (.int .u32) r.2.1 5),(elt (.int .u32) r.2.1 6),(elt (.int .u32) r.2.1 7)],r))>>=fun r1=>
 qbz ((0:Int),r1)>>=fun r2=>
 if(8≤r2.2.length) then
 if(r2.1.length=8) then
 some ((elt (.int .u32) r2.2 0),((elt (.int .u32) r2.2 1),((elt (.int .u32) r2.2 2),((elt (.int .u32) r2.2 3),((elt (.int .u32) r2.2 4),((elt (.int .u32) r2.2 5),((elt (.int .u32) r2.2 6),(elt (.int .u32) r2.2 7)))))))) else none else none else none
def qdb(self:Fu Y12 Y04):Fu Y12 Y04:=fun(s,c)=>
 if(s !=[]) then(if(8≤c.length) then
 z09 (((elt (.int .u32) c 0),((elt (.int .u32) c 1),((elt (.int .u32) c 2),((elt (.int .u32) c 3),((elt (.int .u32) c 4),((elt (.int .u32) c 5),((elt (.int .u32) c 6),(elt (.int .u32) c 7)))))))),s)>>=fun o=>
 if(c.length=8) then
 if((64:Int)≤(s.length:Int)) then
 if((s.length:Int)≤(s.length:Int)) then
 self ((List.drop 64 (List.take (s.length:Int).toNat s)),[o.1,o.2.1,o.2.2.1,o.2.2.2.1,o.2.2.2.2.1,o.2.2.2.2.2.1,o.2.2.2.2.2.2.1,o.2.2.2.2.2.2.2]) else none else none else none else none) else
 some c
def qh4:Fu Y12 Y04:=qt qdb
theorem qpt q:qh4 q=qdb qh4 q:=qw q
def we(self:Fu Y3i Y04):Fu Y3i Y04:=fun((x46,x45),c)=>
 if(decide (x46<(8:Int))) then(if(decide (x46=(7:Int))) then(if(qi (c.length+[(IntKind.wrap .u8 (jv .u32 x45.2.2.2.2.2.2.2 (24:Int))),(IntKind.wrap .u8 (jv .u32 x45.2.2.2.2.2.2.2 (16:Int))),(IntKind.wrap .u8 (jv .u32 x45.2.2.2.2.2.2.2 (8:Int))),(IntKind.wrap .u8 x45.2.2.2.2.2.2.2)].length) 1) then
 self (((w64 ((7:Int)+(1:Int))),x45),(c++[(IntKind.wrap .u8 (jv .u32 x45.2.2.2.2.2.2.2 (24:Int))),(IntKind.wrap .u8 (jv .u32 x45.2.2.2.2.2.2.2 (16:Int))),(IntKind.wrap .u8 (jv .u32 x45.2.2.2.2.2.2.2 (8:Int))),(IntKind.wrap .u8 x45.2.2.2.2.2.2.2)])) else none) else
 if(decide (x46=(6:Int))) then(if(qi (c.length+[(IntKind.wrap .u8 (jv .u32 x45.2.2.2.2.2.2.1 (24:Int))),(IntKind.wrap .u8 (jv .u32 x45.2.2.2.2.2.2.1 (16:Int))),(IntKind.wrap .u8 (jv .u32 x45.2.2.2.2.2.2.1 (8:Int))),(IntKind.wrap .u8 x45.2.2.2.2.2.2.1)].length) 1) then
 self (((w64 ((6:Int)+(1:Int))),x45),(c++[(IntKind.wrap .u8 (jv .u32 x45.2.2.2.2.2.2.1 (24:Int))),(IntKind.wrap .u8 (jv .u32 x45.2.2.2.2.2.2.1 (16:Int))),(IntKind.wrap .u8 (jv .u32 x45.2.2.2.2.2.2.1 (8:Int))),(IntKind.wrap .u8 x45.2.2.2.2.2.2.1)])) else none) else
 if(decide (x46=(5:Int))) then(if(qi (c.length+[(IntKind.wrap .u8 (jv .u32 x45.2.2.2.2.2.1 (24:Int))),(IntKind.wrap .u8 (jv .u32 x45.2.2.2.2.2.1 (16:Int))),(IntKind.wrap .u8 (jv .u32 x45.2.2.2.2.2.1 (8:Int))),(IntKind.wrap .u8 x45.2.2.2.2.2.1)].length) 1) then
 self (((w64 ((5:Int)+(1:Int))),x45),(c++[(IntKind.wrap .u8 (jv .u32 x45.2.2.2.2.2.1 (24:Int))),(IntKind.wrap .u8 (jv .u32 x45.2.2.2.2.2.1 (16:Int))),(IntKind.wrap .u8 (jv .u32 x45.2.2.2.2.2.1 (8:Int))),(IntKind.wrap .u8 x45.2.2.2.2.2.1)])) else none) else
 if(decide (x46=(4:Int))) then(if(qi (c.length+[(IntKind.wrap .u8 (jv .u32 x45.2.2.2.2.1 (24:Int))),(IntKind.wrap .u8 (jv .u32 x45.2.2.2.2.1 (16:Int))),(IntKind.wrap .u8 (jv .u32 x45.2.2.2.2.1 (8:Int))),(IntKind.wrap .u8 x45.2.2.2.2.1)].length) 1) then
 self (((w64 ((4:Int)+(1:Int))),x45),(c++[(IntKind.wrap .u8 (jv .u32 x45.2.2.2.2.1 (24:Int))),(IntKind.wrap .u8 (jv .u32 x45.2.2.2.2.1 (16:Int))),(IntKind.wrap .u8 (jv .u32 x45.2.2.2.2.1 (8:Int))),(IntKind.wrap .u8 x45.2.2.2.2.1)])) else none) else
 if(decide (x46=(3:Int))) then(if(qi (c.length+[(IntKind.wrap .u8 (jv .u32 x45.2.2.2.1 (24:Int))),(IntKind.wrap .u8 (jv .u32 x45.2.2.2.1 (16:Int))),(IntKind.wrap .u8 (jv .u32 x45.2.2.2.1 (8:Int))),(IntKind.wrap .u8 x45.2.2.2.1)].length) 1) then
 self (((w64 ((3:Int)+(1:Int))),x45),(c++[(IntKind.wrap .u8 (jv .u32 x45.2.2.2.1 (24:Int))),(IntKind.wrap .u8 (jv .u32 x45.2.2.2.1 (16:Int))),(IntKind.wrap .u8 (jv .u32 x45.2.2.2.1 (8:Int))),(IntKind.wrap .u8 x45.2.2.2.1)])) else none) else
 if(decide (x46=(2:Int))) then(if(qi (c.length+[(IntKind.wrap .u8 (jv .u32 x45.2.2.1 (24:Int))),(IntKind.wrap .u8 (jv .u32 x45.2.2.1 (16:Int))),(IntKind.wrap .u8 (jv .u32 x45.2.2.1 (8:Int))),(IntKind.wrap .u8 x45.2.2.1)].length) 1) then
 self (((w64 ((2:Int)+(1:Int))),x45),(c++[(IntKind.wrap .u8 (jv .u32 x45.2.2.1 (24:Int))),(IntKind.wrap .u8 (jv .u32 x45.2.2.1 (16:Int))),(IntKind.wrap .u8 (jv .u32 x45.2.2.1 (8:Int))),(IntKind.wrap .u8 x45.2.2.1)])) else none) else
 if(decide (x46=(1:Int))) then(if(qi (c.length+[(IntKind.wrap .u8 (jv .u32 x45.2.1 (24:Int))),(IntKind.wrap .u8 (jv .u32 x45.2.1 (16:Int))),(IntKind.wrap .u8 (jv .u32 x45.2.1 (8:Int))),(IntKind.wrap .u8 x45.2.1)].length) 1) then
 self (((w64 ((1:Int)+(1:Int))),x45),(c++[(IntKind.wrap .u8 (jv .u32 x45.2.1 (24:Int))),(IntKind.wrap .u8 (jv .u32 x45.2.1 (16:Int))),(IntKind.wrap .u8 (jv .u32 x45.2.1 (8:Int))),(IntKind.wrap .u8 x45.2.1)])) else none) else
 if(decide (x46=(0:Int))) then(if(qi (c.length+[(IntKind.wrap .u8 (jv .u32 x45.1 (24:Int))),(IntKind.wrap .u8 (jv .u32 x45.1 (16:Int))),(IntKind.wrap .u8 (jv .u32 x45.1 (8:Int))),(IntKind.wrap .u8 x45.1)].length) 1) then
 self (((w64 ((0:Int)+(1:Int))),x45),(c++[(IntKind.wrap .u8 (jv .u32 x45.1 (24:Int))),(IntKind.wrap .u8 (jv .u32 x45.1 (16:Int))),(IntKind.wrap .u8 (jv .u32 x45.1 (8:Int))),(IntKind.wrap .u8 x45.1)])) else none) else
 none) else
 some c
def j9:Fu Y3i Y04:=qt we
theorem wd q:j9 q=we j9 q:=qw q
def z00:Fu Y01 (Str):=fun qm=>
 zv (qm,[])>>=fun j=>
 if((j.length+([128]:Str).length)≤9223372036854775807) then
 qyq ((j++([128]:Str)),(IntKind.wrap .u64 ((IntKind.wrap .u64 (j.length:Int))*(8:Int))))>>=fun r=>
 qh3 ((7:Int),r)>>=fun r1=>
 z45 ()>>=fun b=>
 qh4 (r1,[b.1,b.2.1,b.2.2.1,b.2.2.2.1,b.2.2.2.2.1,b.2.2.2.2.2.1,b.2.2.2.2.2.2.1,b.2.2.2.2.2.2.2])>>=fun r2=>
 if(8≤r2.length) then
 j9 (((0:Int),((elt (.int .u32) r2 0),((elt (.int .u32) r2 1),((elt (.int .u32) r2 2),((elt (.int .u32) r2 3),((elt (.int .u32) r2 4),((elt (.int .u32) r2 5),((elt (.int .u32) r2 6),(elt (.int .u32) r2 7))))))))),[])>>=fun r3=>
 some (ja r3) else none else none
def z30:Fu Str (Str):=fun s=>
 z00 [s]>>=fun s1=>
 qmy s1>>=fun h=>
 if((([115,104,97,50,53,54,58]:Str).length+h.length)≤9223372036854775807) then
 some (([115,104,97,50,53,54,58]:Str)++h) else none
def qiz(self:Fu Y1h (Str)):Fu Y1h (Str):=fun(x13,out,x11,x12)=>
 if(decide (x13<x12)) then(if((0:Int)≤x13) then
 if(x13<(x11.length:Int)) then
 if(decide (x13>(0:Int))) then(if((out.length+([44]:Str).length)≤9223372036854775807) then
 if(((out++([44]:Str)).length+([34]:Str).length)≤9223372036854775807) then
 if((((out++([44]:Str))++([34]:Str)).length+(elt .str x11 x13.toNat).length)≤9223372036854775807) then
 if(((((out++([44]:Str))++([34]:Str))++(elt .str x11 x13.toNat)).length+([34]:Str).length)≤9223372036854775807) then
 self ((w64 (x13+(1:Int))),(((((out++([44]:Str))++([34]:Str))++(elt .str x11 x13.toNat))++([34]:Str)),(x11,x12))) else none else none else none else none) else
 if((out.length+([34]:Str).length)≤9223372036854775807) then
 if(((out++([34]:Str)).length+(elt .str x11 x13.toNat).length)≤9223372036854775807) then
 if((((out++([34]:Str))++(elt .str x11 x13.toNat)).length+([34]:Str).length)≤9223372036854775807) then
 self ((w64 (x13+(1:Int))),((((out++([34]:Str))++(elt .str x11 x13.toNat))++([34]:Str)),(x11,x12))) else none else none else none else none else none) else
 some out
def qq5:Fu Y1h (Str):=qt qiz
theorem qu9 q:qq5 q=qiz qq5 q:=qw q
def qd5(self:Fu ((Int×(Str×Y0m))×Y1w) (Str×Y1w)):Fu ((Int×(Str×Y0m))×Y1w) (Str×Y1w):=fun((x34,out,x32,x33),c)=>
 if(decide (x34<x33)) then(if((0:Int)≤x34) then
 if(x34<(x32.length:Int)) then
 if(decide (x34>(0:Int))) then(if((out.length+([44]:Str).length)≤9223372036854775807) then
 if(((out++([44]:Str)).length+([123,34,100,105,103,101,115,116,34,58,34]:Str).length)≤9223372036854775807) then
 if((((out++([44]:Str))++([123,34,100,105,103,101,115,116,34,58,34]:Str)).length+(elt y03 x32 x34.toNat).1.length)≤9223372036854775807) then
 if(((((out++([44]:Str))++([123,34,100,105,103,101,115,116,34,58,34]:Str))++(elt y03 x32 x34.toNat).1).length+([34,44,34,115,105,122,101,34,58]:Str).length)≤9223372036854775807) then
 xj (elt y03 x32 x34.toNat).2>>=fun i=>
 if((((((out++([44]:Str))++([123,34,100,105,103,101,115,116,34,58,34]:Str))++(elt y03 x32 x34.toNat).1)++([34,44,34,115,105,122,101,34,58]:Str)).length+i.length)≤9223372036854775807) then
 if(((((((out++([44]:Str))++([123,34,100,105,103,101,115,116,34,58,34]:Str))++(elt y03 x32 x34.toNat).1)++([34,44,34,115,105,122,101,34,58]:Str))++i).length+([125]:Str).length)≤9223372036854775807) then
 self (((w64 (x34+(1:Int))),(((((((out++([44]:Str))++([123,34,100,105,103,101,115,116,34,58,34]:Str))++(elt y03 x32 x34.toNat).1)++([34,44,34,115,105,122,101,34,58]:Str))++i)++([125]:Str)),(x32,x33))),c) else none else none else none else none else none else none) else
 if((out.length+([123,34,100,105,103,101,115,116,34,58,34]:Str).length)≤9223372036854775807) then
 if(((out++([123,34,100,105,103,101,115,116,34,58,34]:Str)).length+(elt y03 x32 x34.toNat).1.length)≤9223372036854775807) then
 if((((out++([123,34,100,105,103,101,115,116,34,58,34]:Str))++(elt y03 x32 x34.toNat).1).length+([34,44,34,115,105,122,101,34,58]:Str).length)≤9223372036854775807) then
 xj (elt y03 x32 x34.toNat).2>>=fun i=>
 if(((((out++([123,34,100,105,103,101,115,116,34,58,34]:Str))++(elt y03 x32 x34.toNat).1)++([34,44,34,115,105,122,101,34,58]:Str)).length+i.length)≤9223372036854775807) then
 if((((((out++([123,34,100,105,103,101,115,116,34,58,34]:Str))++(elt y03 x32 x34.toNat).1)++([34,44,34,115,105,122,101,34,58]:Str))++i).length+([125]:Str).length)≤9223372036854775807) then
 self (((w64 (x34+(1:Int))),((((((out++([123,34,100,105,103,101,115,116,34,58,34]:Str))++(elt y03 x32 x34.toNat).1)++([34,44,34,115,105,122,101,34,58]:Str))++i)++([125]:Str)),(x32,x33))),c) else none else none else none else none else none else none else none) else
 some (out,c)
def qiy:Fu ((Int×(Str×Y0m))×Y1w) (Str×Y1w):=qt qd5
theorem qq4 q:qiy q=qd5 qiy q:=qw q
def z0q:Fu Y1w (Str):=fun m=>
 if m.1 then(qq5 ((0:Int),([],(m.2.2.2,(m.2.2.2.length:Int))))>>=fun r=>
 if((([123,34,107,105,100,115,34,58,91]:Str).length+r.length)≤9223372036854775807) then
 if(((([123,34,107,105,100,115,34,58,91]:Str)++r).length+([93,44,34,107,105,110,100,34,58,34,105,110,100,101,120,34,125]:Str).length)≤9223372036854775807) then
 some ((([123,34,107,105,100,115,34,58,91]:Str)++r)++([93,44,34,107,105,110,100,34,58,34,105,110,100,101,120,34,125]:Str)) else none else none) else
 qiy (((0:Int),([],(m.2.2.1,(m.2.2.1.length:Int)))),m)>>=fun r=>
 if((([123,34,99,111,110,102,105,103,34,58,34]:Str).length+r.2.2.1.length)≤9223372036854775807) then
 if(((([123,34,99,111,110,102,105,103,34,58,34]:Str)++r.2.2.1).length+([34,44,34,107,105,110,100,34,58,34,105,109,97,103,101,34,44,34,108,97,121,101,114,115,34,58,91]:Str).length)≤9223372036854775807) then
 if((((([123,34,99,111,110,102,105,103,34,58,34]:Str)++r.2.2.1)++([34,44,34,107,105,110,100,34,58,34,105,109,97,103,101,34,44,34,108,97,121,101,114,115,34,58,91]:Str)).length+r.1.length)≤9223372036854775807) then
 if(((((([123,34,99,111,110,102,105,103,34,58,34]:Str)++r.2.2.1)++([34,44,34,107,105,110,100,34,58,34,105,109,97,103,101,34,44,34,108,97,121,101,114,115,34,58,91]:Str))++r.1).length+([93,125]:Str).length)≤9223372036854775807) then
 some ((((([123,34,99,111,110,102,105,103,34,58,34]:Str)++r.2.2.1)++([34,44,34,107,105,110,100,34,58,34,105,109,97,103,101,34,44,34,108,97,121,101,114,115,34,58,91]:Str))++r.1)++([93,125]:Str)) else none else none else none else none
def qix(self:Fu ((Int×((List GVal)×Int))×((Bool×Str)×((Bool×Str)×(GVal×Y0q)))) ((Bool×Str)×((Bool×Str)×(GVal×Y0q)))):Fu ((Int×((List GVal)×Int))×((Bool×Str)×((Bool×Str)×(GVal×Y0q)))) ((Bool×Str)×((Bool×Str)×(GVal×Y0q))):=fun((x49,x47,x48),c,c1,c2,c3)=>
 if(decide (x49<x48)) then(if((0:Int)≤x49) then
 if(x49<(x47.length:Int)) then
 z1b ((elt .val x47 x49.toNat).re,(([100,105,103,101,115,116]:Str),(2:Int)))>>=fun g=>
 z1b ((elt .val x47 x49.toNat).re,(([115,105,122,101]:Str),(1:Int)))>>=fun g1=>
 if(qi (c3.length+[(g.1.s,g1.1.n)].length) 24) then
 self (((w64 (x49+(1:Int))),(x47,x48)),(c,(c1,(c2.re,(c3++[(g.1.s,g1.1.n)]))))) else none else none else none) else
 some (c,(c1,(c2.re,c3)))
def qq3:Fu ((Int×((List GVal)×Int))×((Bool×Str)×((Bool×Str)×(GVal×Y0q)))) ((Bool×Str)×((Bool×Str)×(GVal×Y0q))):=qt qix
theorem qu8 q:qq3 q=qix qq3 q:=qw q
def qd4(self:Fu ((Int×((List GVal)×Int))×Y1y) Y1y):Fu ((Int×((List GVal)×Int))×Y1y) Y1y:=fun((x77,x75,x76),c,c1,c2,c3)=>
 if(decide (x77<x76)) then(if((0:Int)≤x77) then
 if(x77<(x75.length:Int)) then
 if(qi (c3.length+[(elt .val x75 x77.toNat).s].length) 16) then
 self (((w64 (x77+(1:Int))),(x75,x76)),(c,(c1,(c2,(c3++[(elt .val x75 x77.toNat).s]))))) else none else none else none) else
 some (c1,(c,(c2,c3)))
def qiw:Fu ((Int×((List GVal)×Int))×Y1y) Y1y:=qt qd4
theorem qq2 q:qiw q=qd4 qiw q:=qw q
def z0p:Fu GVal Y1w:=fun v=>
 z1b (v.re,(([107,105,110,100]:Str),(2:Int)))>>=fun g=>
 z1b (v.re,(([99,111,110,102,105,103]:Str),(2:Int)))>>=fun g1=>
 z1b (v.re,(([108,97,121,101,114,115]:Str),(3:Int)))>>=fun g2=>
 z1b (v.re,(([107,105,100,115]:Str),(3:Int)))>>=fun g3=>
 qq3 (((0:Int),(g2.1.items,(g2.1.items.length:Int))),(((g.1.s==([105,110,100,101,120]:Str)),g1.1.s),((false,[]),(g3.1.re,[]))))>>=fun r=>
 qiw (((0:Int),(r.2.2.1.items,(r.2.2.1.items.length:Int))),(r.1,(r.2.1,(r.2.2.2,[]))))>>=fun r1=>
 some (r1.2.1.1,(r1.2.1.2,r1.2.2))
def z2d:Fu Str (Y1w×Int):=fun s=>
 z3f s>>=fun p=>
 if(p.2 !=(0:Int)) then some ((false,([],([],[]))),p.2) else
 z0p p.1.re>>=fun r=>
 z2w r>>=fun p1=>
 if(p1.2 !=(0:Int)) then some ((false,([],([],[]))),(8:Int)) else
 if(p1.1 !=s) then some ((false,([],([],[]))),(8:Int)) else
 some (r,(0:Int))
end Go.Plain
namespace Go.Plain
open Go.AM
set_option linter.unusedVariables false
def qi2(self:Fu (Y1h×(GVal×GVal)) (GVal⊕GVal)):Fu (Y1h×(GVal×GVal)) (GVal⊕GVal):=fun((x10,name,x8,x9),c,c1)=>
 if(decide (x10<x9)) then(if((0:Int)≤x10) then
 if(x10<(x8.length:Int)) then
 if((elt .str x8 x10.toNat)==name) then(if(decide (x10<(c1.items.length:Int))) then(if((0:Int)≤x10) then
 if(x10<(c1.items.length:Int)) then
 some (.inl (elt .val c1.items x10.toNat).re) else none else none) else
 self (((w64 (x10+(1:Int))),(name,(x8,x9))),(c.re,c1.re))) else
 self (((w64 (x10+(1:Int))),(name,(x8,x9))),(c.re,c1.re)) else none else none) else
 some (.inr c.re)
def qq8:Fu (Y1h×(GVal×GVal)) (GVal⊕GVal):=qt qi2
theorem qvb q:qq8 q=qi2 qq8 q:=qw q
def z0t:Fu (GVal×Str) (GVal):=fun(v,name)=>
 qq8 (((0:Int),(name,(v.names,(v.names.length:Int)))),((GVal.mk (0:Int) (0:Int) [] [] []),v.re))>>=fun r=>
 Sum.elim (fun r1=>some r1.re) (fun r1=>some (GVal.mk (0:Int) (0:Int) [] [] [])) r
def qdw(self:Fu ((Int×((List GVal)×Y03))×((Bool×Str)×((Bool×Str)×(GVal×Y0q)))) (Str×((Bool×Str)×((Bool×Str)×(GVal×Y0q))))):Fu ((Int×((List GVal)×Y03))×((Bool×Str)×((Bool×Str)×(GVal×Y0q)))) (Str×((Bool×Str)×((Bool×Str)×(GVal×Y0q)))):=fun((x35,x33,s,x34),c,c1,c2,c3)=>
 if(decide (x35<x34)) then(if((0:Int)≤x35) then
 if(x35<(x33.length:Int)) then
 z0t ((elt .val x33 x35.toNat).re,([100,105,103,101,115,116]:Str))>>=fun g=>
 z0t ((elt .val x33 x35.toNat).re,([115,105,122,101]:Str))>>=fun g1=>
 if(qi (c3.length+[(g.s,g1.n)].length) 24) then
 self (((w64 (x35+(1:Int))),(x33,(s,x34))),(c,(c1,(c2.re,(c3++[(g.s,g1.n)]))))) else none else none else none) else
 some (s,(c,(c1,(c2.re,c3))))
def qik:Fu ((Int×((List GVal)×Y03))×((Bool×Str)×((Bool×Str)×(GVal×Y0q)))) (Str×((Bool×Str)×((Bool×Str)×(GVal×Y0q)))):=qt qdw
theorem qqn q:qik q=qdw qik q:=qw q
def qdx(self:Fu ((Int×((List GVal)×Y03))×Y1y) (Str×Y1y)):Fu ((Int×((List GVal)×Y03))×Y1y) (Str×Y1y):=fun((x56,x54,s,x55),c,c1,c2,c3)=>
 if(decide (x56<x55)) then(if((0:Int)≤x56) then
 if(x56<(x54.length:Int)) then
 if(qi (c3.length+[(elt .val x54 x56.toNat).s].length) 16) then
 self (((w64 (x56+(1:Int))),(x54,(s,x55))),(c,(c1,(c2,(c3++[(elt .val x54 x56.toNat).s]))))) else none else none else none) else
 some (s,(c1,(c,(c2,c3))))
def qil:Fu ((Int×((List GVal)×Y03))×Y1y) (Str×Y1y):=qt qdx
theorem qqo q:qil q=qdx qil q:=qw q
def z0e:Fu Str (Y1w×Int):=fun s=>
 if(decide ((s.length:Int)>(4096:Int))) then some ((false,([],([],[]))),(2:Int)) else
 z3d s>>=fun p=>
 if(!p.2) then some ((false,([],([],[]))),(6:Int)) else
 z0t (p.1.re,([107,105,110,100]:Str))>>=fun g=>
 z0t (p.1.re,([99,111,110,102,105,103]:Str))>>=fun g1=>
 z0t (p.1.re,([108,97,121,101,114,115]:Str))>>=fun g2=>
 qik (((0:Int),(g2.items,(s,(g2.items.length:Int)))),(((g.s==([105,110,100,101,120]:Str)),g1.s),((false,[]),(p.1.re,[]))))>>=fun r=>
 z0t (r.2.2.2.1.re,([107,105,100,115]:Str))>>=fun g3=>
 qil (((0:Int),(g3.items,(r.1,(g3.items.length:Int)))),(r.2.1,(r.2.2.1,(r.2.2.2.2,[]))))>>=fun r1=>
 z0j (r1.2.2.1.1,(r1.2.2.1.2,r1.2.2.2))>>=fun r2=>
 if(!r2) then some ((false,([],([],[]))),(8:Int)) else
 z0q (r1.2.2.1.1,(r1.2.2.1.2,r1.2.2.2))>>=fun t=>
 if(t !=r1.1) then some ((false,([],([],[]))),(8:Int)) else
 some ((r1.2.2.1.1,(r1.2.2.1.2,r1.2.2.2)),(0:Int))
end Go.Plain
namespace Go.Plain
open Go.AM
set_option linter.unusedVariables false
def z41:Fu (Y00×Str) (Bool×Str):=fun(o,c)=>
 some ((o.1==c),c)
def qjw(self:Fu Y1i Y0d):Fu Y1i Y0d:=fun((x8,s,x7),c)=>
 if(decide (x8<x7)) then(if((0:Int)≤x8) then
 if(x8<(s.length:Int)) then
 z41 ((elt y00 s x8.toNat),c)>>=fun d=>
 if d.1 then some (.inl (x8,d.2)) else
 self (((w64 (x8+(1:Int))),(s,x7)),d.2) else none else none) else
 some (.inr c)
def qgl:Fu Y1i Y0d:=qt qjw
theorem qv5 q:qgl q=qjw qgl q:=qw q
def z1x:Fu Y0w Y02:=fun(s,c)=>
 qgl (((0:Int),(s,(s.length:Int))),c)>>=fun r=>
 Sum.elim (fun r1=>some r1) (fun r1=>some ((-1:Int),r1)) r
def z36:Fu Y00 (Int):=fun(digest,data)=>
 z2x digest>>=fun p=>
 if(p.2 !=(0:Int)) then some p.2 else
 z00 [data]>>=fun s=>
 if(s !=p.1) then some (10:Int) else
 some (0:Int)
def z1a:Fu Y0w Y03:=fun(l,d)=>
 z1x (l,d)>>=fun o=>
 if(decide (o.1<(0:Int))) then some ([],(9:Int)) else
 if((0:Int)≤o.1) then
 if(o.1<(l.length:Int)) then
 z36 (o.2,(elt y00 l o.1.toNat).2)>>=fun f=>
 if(f !=(0:Int)) then some ([],(10:Int)) else
 if((0:Int)≤o.1) then
 if(o.1<(l.length:Int)) then
 some ((elt y00 l o.1.toNat).2,(0:Int)) else none else none else none else none
def qd8(self:Fu Y26 Y25):Fu Y26 Y25:=fun((x47,x45,d,x46),c,c1,c2)=>
 if(decide (x47<x46)) then(if((0:Int)≤x47) then
 if(x47<(x45.length:Int)) then
 z0x (c2,(elt .str x45 x47.toNat))>>=fun s=>
 if(!s) then(if(qi (c2.length+[(elt .str x45 x47.toNat)].length) 16) then
 self (((w64 (x47+(1:Int))),(x45,(d,x46))),(c,(c1,(c2++[(elt .str x45 x47.toNat)])))) else none) else
 self (((w64 (x47+(1:Int))),(x45,(d,x46))),(c,(c1,c2))) else none else none) else
 some (d,(c,(c1,c2)))
def qe7:Fu Y26 Y25:=qt qd8
theorem qrc q:qe7 q=qd8 qe7 q:=qw q
abbrev qih:=Y2h⊕Y21⊕Y2i⊕Y29
abbrev qdu:qih→Type
 |(.inl _)=>(Int×Y1v)
 |(.inr (.inl _))=>Y1v
 |(.inr (.inr (.inl _)))=>(Int×Y1v)
 |(.inr (.inr (.inr _)))=>(Int×Y1v)⊕Y1v
def jhj(z0c:Y2h→Option ((Int×Y1v)))(z0z:Y21→Option (Y1v))(z0r:Y2i→Option ((Int×Y1v)))(yx:Y29→Option Y2c):Y2h→Option ((Int×Y1v)):=fun(k,c,c1,c2,c3)=>
 z0x (c2,k)>>=fun s=>
 if s then some ((0:Int),(c,(c1,(c2,c3)))) else
 z0z ((k,(w64 (c+(1:Int)))),(c1,(c2,c3)))>>=fun w=>
 some (w.1,(c,w.2))
def je0(z0c:Y2h→Option ((Int×Y1v)))(z0z:Y21→Option (Y1v))(z0r:Y2i→Option ((Int×Y1v)))(yx:Y29→Option Y2c):Y21→Option (Y1v):=fun((d,depth),c,c1,c2)=>
 if(decide (depth>(4:Int))) then some ((7:Int),(c,(c1,c2))) else
 z1a (c,d)>>=fun f=>
 if(f.2 !=(0:Int)) then some (f.2,(c,(c1,c2))) else
 z2d f.1>>=fun p=>
 if(p.2 !=(0:Int)) then some (p.2,(c,(c1,c2))) else
 z0r (p.1.2.2.2,(depth,(c,(c1,c2))))>>=fun d1=>
 if(d1.1 !=(0:Int)) then some (d1.1,d1.2.2) else
 z14 p.1>>=fun b=>
 qe7 (((0:Int),(b,(d,(b.length:Int)))),d1.2.2)>>=fun r=>
 if(qi (r.2.2.1.length+[r.1].length) 16) then
 some ((0:Int),(r.2.1,((r.2.2.1++[r.1]),r.2.2.2))) else none
def jhl(z0c:Y2h→Option ((Int×Y1v)))(z0z:Y21→Option (Y1v))(z0r:Y2i→Option ((Int×Y1v)))(yx:Y29→Option Y2c):Y2i→Option ((Int×Y1v)):=fun(l,c,c1,c2,c3)=>
 yx (((0:Int),(l,(l.length:Int))),(c,(c1,(c2,c3))))>>=fun r=>
 Sum.elim (fun r1=>some r1) (fun r1=>some ((0:Int),r1)) r
def qi0(z0c:Y2h→Option ((Int×Y1v)))(z0z:Y21→Option (Y1v))(z0r:Y2i→Option ((Int×Y1v)))(yx:Y29→Option Y2c):Y29→Option Y2c:=fun((x10,x8,x9),c,c1,c2,c3)=>
 if(decide (x10<x9)) then(if((0:Int)≤x10) then
 if(x10<(x8.length:Int)) then
 z0c ((elt .str x8 x10.toNat),(c,(c1,(c2,c3))))>>=fun n=>
 if(n.1 !=(0:Int)) then some (.inl n) else
 yx (((w64 (x10+(1:Int))),(x8,x9)),n.2) else none else none) else
 some (.inr (c,(c1,(c2,c3))))
def qah(u: ∀a,Option (qdu a)): ∀a,Option (qdu a)
 |(.inl q)=>jhj (fun q=>u (.inl q)) (fun q=>u (.inr (.inl q))) (fun q=>u (.inr (.inr (.inl q)))) (fun q=>u (.inr (.inr (.inr q)))) q
 |(.inr (.inl q))=>je0 (fun q=>u (.inl q)) (fun q=>u (.inr (.inl q))) (fun q=>u (.inr (.inr (.inl q)))) (fun q=>u (.inr (.inr (.inr q)))) q
 |(.inr (.inr (.inl q)))=>jhl (fun q=>u (.inl q)) (fun q=>u (.inr (.inl q))) (fun q=>u (.inr (.inr (.inl q)))) (fun q=>u (.inr (.inr (.inr q)))) q
 |(.inr (.inr (.inr q)))=>qi0 (fun q=>u (.inl q)) (fun q=>u (.inr (.inl q))) (fun q=>u (.inr (.inr (.inl q)))) (fun q=>u (.inr (.inr (.inr q)))) q
def z0c(q:Y2h):Option ((Int×Y1v)):=wi qah (.inl q)
def z0z(q:Y21):Option (Y1v):=wi qah (.inr (.inl q))
def z0r(q:Y2i):Option ((Int×Y1v)):=wi qah (.inr (.inr (.inl q)))
def yx(q:Y29):Option Y2c:=wi qah (.inr (.inr (.inr q)))
theorem q54: ∀a,Cont fun u=>qah u a
 |(.inl (k,c,c1,c2,c3))=>by unfold qah jhj;exact(.bind (.const _) fun _=>(.ite (.const _) (.bind (.app _) fun _=>(.const _))))
 |(.inr (.inl ((d,depth),c,c1,c2)))=>by unfold qah je0;exact(.ite (.const _) (.bind (.const _) fun _=>(.ite (.const _) (.bind (.const _) fun _=>(.ite (.const _) (.bind (.app _) fun _=>(.const _)))))))
 |(.inr (.inr (.inl (l,c,c1,c2,c3))))=>by unfold qah jhl;exact(.bind (.app _) fun _=>(.const _))
 |(.inr (.inr (.inr ((x10,x8,x9),c,c1,c2,c3))))=>by unfold qah qi0;exact(.ite (.ite (.ite (.bind (.app _) fun _=>(.ite (.const _) (.app _))) (.const _)) (.const _)) (.const _))
theorem jkw q:z0c q=jhj z0c z0z z0r yx q:=j7 q54 (.inl q)
theorem je1 q:z0z q=je0 z0c z0z z0r yx q:=j7 q54 (.inr (.inl q))
theorem jk3 q:z0r q=jhl z0c z0z z0r yx q:=j7 q54 (.inr (.inr (.inl q)))
theorem qva q:yx q=qi0 z0c z0z z0r yx q:=j7 q54 (.inr (.inr (.inr q)))
def qj2(self:Fu Y29 Y2c):Fu Y29 Y2c:=fun((x10,x8,x9),c,c1,c2,c3)=>
 if(decide (x10<x9)) then(if((0:Int)≤x10) then
 if(x10<(x8.length:Int)) then
 z0c ((elt .str x8 x10.toNat),(c,(c1,(c2,c3))))>>=fun n=>
 if(n.1 !=(0:Int)) then some (.inl n) else
 self (((w64 (x10+(1:Int))),(x8,x9)),n.2) else none else none) else
 some (.inr (c,(c1,(c2,c3))))
def qr6:Fu Y29 Y2c:=qt qj2
theorem qwa q:qr6 q=qj2 qr6 q:=qw q
def z26:Fu (Y01×(Int×Y0g)) (Int×Y1v):=fun(l,c,c1)=>
 qr6 (((0:Int),(l,(l.length:Int))),(c,(c1,([],[]))))>>=fun r=>
 Sum.elim (fun r1=>some r1) (fun r1=>some ((0:Int),r1)) r
def qd9(self:Fu Y26 Y25):Fu Y26 Y25:=fun((x47,x45,d,x46),c,c1,c2)=>
 if(decide (x47<x46)) then(if((0:Int)≤x47) then
 if(x47<(x45.length:Int)) then
 z0x (c2,(elt .str x45 x47.toNat))>>=fun s=>
 if(!s) then(if(qi (c2.length+[(elt .str x45 x47.toNat)].length) 16) then
 self (((w64 (x47+(1:Int))),(x45,(d,x46))),(c,(c1,(c2++[(elt .str x45 x47.toNat)])))) else none) else
 self (((w64 (x47+(1:Int))),(x45,(d,x46))),(c,(c1,c2))) else none else none) else
 some (d,(c,(c1,c2)))
def qj1:Fu Y26 Y25:=qt qd9
theorem qr5 q:qj1 q=qd9 qj1 q:=qw q
def z25:Fu (Y03×Y0g) Y1v:=fun((d,depth),c)=>
 if(decide (depth>(4:Int))) then some ((7:Int),(c,([],[]))) else
 z1a (c,d)>>=fun f=>
 if(f.2 !=(0:Int)) then some (f.2,(c,([],[]))) else
 z2d f.1>>=fun p=>
 if(p.2 !=(0:Int)) then some (p.2,(c,([],[]))) else
 z26 (p.1.2.2.2,(depth,c))>>=fun e=>
 if(e.1 !=(0:Int)) then some (e.1,e.2.2) else
 z14 p.1>>=fun b=>
 qj1 (((0:Int),(b,(d,(b.length:Int)))),e.2.2)>>=fun r=>
 if(qi (r.2.2.1.length+[r.1].length) 16) then
 some ((0:Int),(r.2.1,((r.2.2.1++[r.1]),r.2.2.2))) else none
def z38:Fu Y0w (Y0i×Int):=fun(l,d)=>
 z25 ((d,(1:Int)),l)>>=fun z=>
 if(z.1 !=(0:Int)) then some (([],[]),z.1) else
 some (z.2.2,(0:Int))
def qh9(self:Fu Y10 Y10):Fu Y10 Y10:=fun(bits,c)=>
 if((Int.tmod (c.length:Int) (64:Int)) !=(56:Int)) then(if(qi (c.length+[(0:Int)].length) 1) then
 self (bits,(c++[(0:Int)])) else none) else
 some (bits,c)
def qp5:Fu Y10 Y10:=qt qh9
theorem qut q:qp5 q=qh9 qp5 q:=qw q
def qdj(self:Fu Y15 Y04):Fu Y15 Y04:=fun((i,p,bits),c)=>
 if(decide (i<(8:Int))) then(if(p≠(0:Int)) then
 if(qi (c.length+[(IntKind.wrap .u8 (Int.tmod (IntKind.wrap .u64 (Int.tdiv bits p)) (256:Int)))].length) 1) then
 self (((w64 (i+(1:Int))),((IntKind.wrap .u64 (Int.tdiv p (256:Int))),bits)),(c++[(IntKind.wrap .u8 (Int.tmod (IntKind.wrap .u64 (Int.tdiv bits p)) (256:Int)))])) else none else none) else
 some c
def qev:Fu Y15 Y04:=qt qdj
theorem qp2 q:qev q=qdj qev q:=qw q
def z47:Fu Unit Y04:=fun _=>
 some [(1779033703:Int),(3144134277:Int),(1013904242:Int),(2773480762:Int),(1359893119:Int),(2600822924:Int),(528734635:Int),(1541459225:Int)]
def z3u:Fu Unit Y04:=fun _=>
 some (List.set (List.set (List.set (List.set (List.set (List.set (List.set (List.set (List.set (List.set (List.set (List.set (List.set (List.set (List.set (List.set (List.set (List.set (List.set (List.set (List.set (List.set (List.set (List.set (List.set (List.set (List.set (List.set (List.set (List.set (List.set (List.set (List.set (List.set (List.set (List.set (List.set (List.set (List.set (List.set (List.set (List.set (List.set (List.set (List.set (List.set (List.set (List.set (List.set (List.set (List.set (List.set (List.set (List.set (List.set (List.set (List.set (List.set (List.set (List.set (List.set (List.set (List.set (List.set (List.replicate 64 (0:Int)) 0 (1116352408:Int)) 1 (1899447441:Int)) 2 (3049323471:Int)) 3 (3921009573:Int)) 4 (961987163:Int)) 5 (1508970993:Int)) 6 (2453635748:Int)) 7 (2870763221:Int)) 8 (3624381080:Int)) 9 (310598401:Int)) 10 (607225278:Int)) 11 (1426881987:Int)) 12 (1925078388:Int)) 13 (2162078206:Int)) 14 (2614888103:Int)) 15 (3248222580:Int)) 16 (3835390401:Int)) 17 (4022224774:Int)) 18 (264347078:Int)) 19 (604807628:Int)) 20 (770255983:Int)) 21 (1249150122:Int)) 22 (1555081692:Int)) 23 (1996064986:Int)) 24 (2554220882:Int)) 25 (2821834349:Int)) 26 (2952996808:Int)) 27 (3210313671:Int)) 28 (3336571891:Int)) 29 (3584528711:Int)) 30 (113926993:Int)) 31 (338241895:Int)) 32 (666307205:Int)) 33 (773529912:Int)) 34 (1294757372:Int)) 35 (1396182291:Int)) 36 (1695183700:Int)) 37 (1986661051:Int)) 38 (2177026350:Int)) 39 (2456956037:Int)) 40 (2730485921:Int)) 41 (2820302411:Int)) 42 (3259730800:Int)) 43 (3345764771:Int)) 44 (3516065817:Int)) 45 (3600352804:Int)) 46 (4094571909:Int)) 47 (275423344:Int)) 48 (430227734:Int)) 49 (506948616:Int)) 50 (659060556:Int)) 51 (883997877:Int)) 52 (958139571:Int)) 53 (1322822218:Int)) 54 (1537002063:Int)) 55 (1747873779:Int)) 56 (1955562222:Int)) 57 (2024104815:Int)) 58 (2227730452:Int)) 59 (2361852424:Int)) 60 (2428436474:Int)) 61 (2756734187:Int)) 62 (3204031479:Int)) 63 (3329325298:Int))
def qdc(self:Fu ((Int×(Int×(Str×(Int×Y0l))))×Y04) ((Str×(Y04×(Y04×Y07)))×Y04)):Fu ((Int×(Int×(Str×(Int×Y0l))))×Y04) ((Str×(Y04×(Y04×Y07)))×Y04):=fun((i,t,s,x1,keys,h),c)=>
 if(decide (i<(4:Int))) then(if((0:Int)≤(w64 ((w64 ((4:Int)*t))+i))) then
 if((w64 ((w64 ((4:Int)*t))+i))<(s.length:Int)) then
 self (((w64 (i+(1:Int))),(t,(s,((IntKind.wrap .u32 ((IntKind.wrap .u32 ((256:Int)*x1))+(IntKind.wrap .u32 (bt s (w64 ((w64 ((4:Int)*t))+i)))))),(keys,h))))),c) else none else none) else
 some ((s,(keys,(h,(t,x1)))),c)
def qeu:Fu ((Int×(Int×(Str×(Int×Y0l))))×Y04) ((Str×(Y04×(Y04×Y07)))×Y04):=qt qdc
theorem qpu q:qeu q=qdc qeu q:=qw q
def qh8(self:Fu ((Int×(Str×Y0l))×Y04) Y0x):Fu ((Int×(Str×Y0l))×Y04) Y0x:=fun((t,s,keys,h),c)=>
 if(decide (t<(16:Int))) then(qeu (((0:Int),(t,(s,((0:Int),(keys,h))))),c)>>=fun r=>
 if(qi (r.2.length+[r.1.2.2.2.2].length) 4) then
 self (((w64 (r.1.2.2.2.1+(1:Int))),(r.1.1,(r.1.2.1,r.1.2.2.1))),(r.2++[r.1.2.2.2.2])) else none) else
 some ((keys,h),c)
def qpy:Fu ((Int×(Str×Y0l))×Y04) Y0x:=qt qh8
theorem qus q:qpy q=qh8 qpy q:=qw q
def qij(self:Fu Y1f Y0o):Fu Y1f Y0o:=fun(i,p,x1,n)=>
 if(decide (i<n)) then(self ((w64 (i+(1:Int))),((IntKind.wrap .u32 ((2:Int)*p)),(x1,n)))) else
 some (p,(x1,n))
def qqm:Fu Y1f Y0o:=qt qij
theorem quy q:qqm q=qij qqm q:=qw q
def qdv(self:Fu Y1f Y0o):Fu Y1f Y0o:=fun(i,q,p,x1)=>
 if(decide (i<(32:Int))) then(self ((w64 (i+(1:Int))),((IntKind.wrap .u32 ((2:Int)*q)),(p,x1)))) else
 some (q,(p,x1))
def qii:Fu Y1f Y0o:=qt qdv
theorem qql q:qii q=qdv qii q:=qw q
def z0d:Fu Y07 (Int):=fun(x1,n)=>
 qqm ((0:Int),((1:Int),(x1,n)))>>=fun r=>
 qii (r.2.2,((1:Int),(r.1,r.2.1)))>>=fun r1=>
 if(r1.2.1≠(0:Int)) then
 if(r1.2.1≠(0:Int)) then
 some (IntKind.wrap .u32 ((IntKind.wrap .u32 (Int.tdiv r1.2.2 r1.2.1))+(IntKind.wrap .u32 ((Int.tmod r1.2.2 r1.2.1)*r1.1)))) else none else none
def qdd(self:Fu Y1d Y0x):Fu Y1d Y0x:=fun((t,keys,h),c)=>
 if(decide (t<(64:Int))) then(if((0:Int)≤(w64 (t-(15:Int)))) then
 if((w64 (t-(15:Int)))<(c.length:Int)) then
 if((w64 (t-(15:Int))).toNat<c.length) then
 if((0:Int)≤(w64 (t-(2:Int)))) then
 if((w64 (t-(2:Int)))<(c.length:Int)) then
 if((w64 (t-(2:Int))).toNat<c.length) then
 z0d ((elt (.int .u32) c (w64 (t-(15:Int))).toNat),(7:Int))>>=fun t1=>
 z0d ((elt (.int .u32) c (w64 (t-(15:Int))).toNat),(18:Int))>>=fun t2=>
 z0d ((elt (.int .u32) c (w64 (t-(2:Int))).toNat),(17:Int))>>=fun t3=>
 z0d ((elt (.int .u32) c (w64 (t-(2:Int))).toNat),(19:Int))>>=fun t4=>
 if((0:Int)≤(w64 (t-(7:Int)))) then
 if((w64 (t-(7:Int)))<(c.length:Int)) then
 if((w64 (t-(7:Int))).toNat<c.length) then
 if((0:Int)≤(w64 (t-(16:Int)))) then
 if((w64 (t-(16:Int)))<(c.length:Int)) then
 if((w64 (t-(16:Int))).toNat<c.length) then
 if(qi (c.length+[(IntKind.wrap .u32 ((IntKind.wrap .u32 ((IntKind.wrap .u32 ((vg .u32 (vg .u32 t3 t4) (IntKind.wrap .u32 (Int.tdiv (elt (.int .u32) c (w64 (t-(2:Int))).toNat) (1024:Int))))+(elt (.int .u32) c (w64 (t-(7:Int))).toNat)))+(vg .u32 (vg .u32 t1 t2) (IntKind.wrap .u32 (Int.tdiv (elt (.int .u32) c (w64 (t-(15:Int))).toNat) (8:Int))))))+(elt (.int .u32) c (w64 (t-(16:Int))).toNat)))].length) 4) then
 self (((w64 (t+(1:Int))),(keys,h)),(c++[(IntKind.wrap .u32 ((IntKind.wrap .u32 ((IntKind.wrap .u32 ((vg .u32 (vg .u32 t3 t4) (IntKind.wrap .u32 (Int.tdiv (elt (.int .u32) c (w64 (t-(2:Int))).toNat) (1024:Int))))+(elt (.int .u32) c (w64 (t-(7:Int))).toNat)))+(vg .u32 (vg .u32 t1 t2) (IntKind.wrap .u32 (Int.tdiv (elt (.int .u32) c (w64 (t-(15:Int))).toNat) (8:Int))))))+(elt (.int .u32) c (w64 (t-(16:Int))).toNat)))])) else none else none else none else none else none else none else none else none else none else none else none else none else none) else
 some ((keys,h),c)
def qh6:Fu Y1d Y0x:=qt qdd
theorem qpv q:qh6 q=qdd qh6 q:=qw q
def z3v:Fu (Y04×Y07) Y04:=fun(v,k,w)=>
 if((4:Int)<(v.length:Int)) then
 if((0:Int)<(v.length:Int)) then
 z0d ((elt (.int .u32) v 4),(6:Int))>>=fun t=>
 z0d ((elt (.int .u32) v 4),(11:Int))>>=fun t1=>
 z0d ((elt (.int .u32) v 4),(25:Int))>>=fun t2=>
 if((5:Int)<(v.length:Int)) then
 if((6:Int)<(v.length:Int)) then
 if((7:Int)<(v.length:Int)) then
 z0d ((elt (.int .u32) v 0),(2:Int))>>=fun t3=>
 z0d ((elt (.int .u32) v 0),(13:Int))>>=fun t4=>
 z0d ((elt (.int .u32) v 0),(22:Int))>>=fun t5=>
 if((1:Int)<(v.length:Int)) then
 if((2:Int)<(v.length:Int)) then
 if((1:Int)<(v.length:Int)) then
 if((2:Int)<(v.length:Int)) then
 if((1:Int)<(v.length:Int)) then
 if((2:Int)<(v.length:Int)) then
 if((3:Int)<(v.length:Int)) then
 if((5:Int)<(v.length:Int)) then
 if((6:Int)<(v.length:Int)) then
 some [(IntKind.wrap .u32 ((IntKind.wrap .u32 ((IntKind.wrap .u32 ((IntKind.wrap .u32 ((IntKind.wrap .u32 ((IntKind.wrap .u32 ((elt (.int .u32) v 7)+(vg .u32 (vg .u32 t t1) t2)))+(vg .u32 (yy .u32 (elt (.int .u32) v 4) (elt (.int .u32) v 5)) (yy .u32 (IntKind.wrap .u32 ((4294967295:Int)-(elt (.int .u32) v 4))) (elt (.int .u32) v 6)))))+k))+w))+(vg .u32 (vg .u32 t3 t4) t5)))+(vg .u32 (vg .u32 (yy .u32 (elt (.int .u32) v 0) (elt (.int .u32) v 1)) (yy .u32 (elt (.int .u32) v 0) (elt (.int .u32) v 2))) (yy .u32 (elt (.int .u32) v 1) (elt (.int .u32) v 2))))),(elt (.int .u32) v 0),(elt (.int .u32) v 1),(elt (.int .u32) v 2),(IntKind.wrap .u32 ((elt (.int .u32) v 3)+(IntKind.wrap .u32 ((IntKind.wrap .u32 ((IntKind.wrap .u32 ((IntKind.wrap .u32 ((elt (.int .u32) v 7)+(vg .u32 (vg .u32 t t1) t2)))+(vg .u32 (yy .u32 (elt (.int .u32) v 4) (elt (.int .u32) v 5)) (yy .u32 (IntKind.wrap .u32 ((4294967295:Int)-(elt (.int .u32) v 4))) (elt (.int .u32) v 6)))))+k))+w)))),(elt (.int .u32) v 4),(elt (.int .u32) v 5),(elt (.int .u32) v 6)] else none else none else none else none else none else none else none else none else none else none else none else none else none else none
def qde(self:Fu Y27 Y0l):Fu Y27 Y0l:=fun((t,keys,v,h),c)=>
 if(decide (t<(64:Int))) then(if((0:Int)≤t) then
 if(t<(keys.length:Int)) then
 if((0:Int)≤t) then
 if(t<(c.length:Int)) then
 if(t.toNat<c.length) then
 z3v (v,((elt (.int .u32) keys t.toNat),(elt (.int .u32) c t.toNat)))>>=fun s=>
 self (((w64 (t+(1:Int))),(keys,(s,h))),c) else none else none else none else none else none) else
 some (v,h)
def qh7:Fu Y27 Y0l:=qt qde
theorem qpw q:qh7 q=qde qh7 q:=qw q
def qdf(self:Fu Y1d Y04):Fu Y1d Y04:=fun((i,v,h),c)=>
 if(decide (i<(8:Int))) then(if((0:Int)≤i) then
 if(i<(h.length:Int)) then
 if((0:Int)≤i) then
 if(i<(v.length:Int)) then
 if(qi (c.length+[(IntKind.wrap .u32 ((elt (.int .u32) h i.toNat)+(elt (.int .u32) v i.toNat)))].length) 4) then
 self (((w64 (i+(1:Int))),(v,h)),(c++[(IntKind.wrap .u32 ((elt (.int .u32) h i.toNat)+(elt (.int .u32) v i.toNat)))])) else none else none else none else none else none) else
 some c
def qbx:Fu Y1d Y04:=qt qdf
theorem qpx q:qbx q=qdf qbx q:=qw q
def z01:Fu (Y04×(Y04×Str)) Y04:=fun(h,keys,s)=>
 qpy (((0:Int),(s,(keys,h))),[])>>=fun r=>
 qh6 (((16:Int),r.1),r.2)>>=fun r1=>
 qh7 (((0:Int),(r1.1.1,(r1.1.2,r1.1.2))),r1.2)>>=fun r2=>
 qbx (((0:Int),r2),[])>>=fun r3=>
 some r3
def qdk(self:Fu Y1d Y04):Fu Y1d Y04:=fun((at1,keys,h),c)=>
 if(decide (at1<(c.length:Int))) then(if((0:Int)≤at1) then
 if(at1≤(w64 (at1+(64:Int)))) then
 if((w64 (at1+(64:Int)))≤(c.length:Int)) then
 z01 (h,(keys,(ja (List.drop at1.toNat (List.take (w64 (at1+(64:Int))).toNat c)))))>>=fun b=>
 self (((w64 (at1+(64:Int))),(keys,b)),c) else none else none else none) else
 some h
def qew:Fu Y1d Y04:=qt qdk
theorem qp3 q:qew q=qdk qew q:=qw q
def qdl(self:Fu Y16 Y04):Fu Y16 Y04:=fun((x63,x61,x62),c)=>
 if(decide (x63<x62)) then(if((0:Int)≤x63) then
 if(x63<(x61.length:Int)) then
 if(qi (c.length+[(IntKind.wrap .u8 (IntKind.wrap .u32 (Int.tdiv (elt (.int .u32) x61 x63.toNat) (16777216:Int)))),(IntKind.wrap .u8 (Int.tmod (IntKind.wrap .u32 (Int.tdiv (elt (.int .u32) x61 x63.toNat) (65536:Int))) (256:Int))),(IntKind.wrap .u8 (Int.tmod (IntKind.wrap .u32 (Int.tdiv (elt (.int .u32) x61 x63.toNat) (256:Int))) (256:Int))),(IntKind.wrap .u8 (Int.tmod (elt (.int .u32) x61 x63.toNat) (256:Int)))].length) 1) then
 self (((w64 (x63+(1:Int))),(x61,x62)),(c++[(IntKind.wrap .u8 (IntKind.wrap .u32 (Int.tdiv (elt (.int .u32) x61 x63.toNat) (16777216:Int)))),(IntKind.wrap .u8 (Int.tmod (IntKind.wrap .u32 (Int.tdiv (elt (.int .u32) x61 x63.toNat) (65536:Int))) (256:Int))),(IntKind.wrap .u8 (Int.tmod (IntKind.wrap .u32 (Int.tdiv (elt (.int .u32) x61 x63.toNat) (256:Int))) (256:Int))),(IntKind.wrap .u8 (Int.tmod (elt (.int .u32) x61 x63.toNat) (256:Int)))])) else none else none else none) else
 some c
def gu:Fu Y16 Y04:=qt qdl
theorem qp4 q:gu q=qdl gu q:=qw q
def z04:Fu Str (Str):=fun s=>
 if(qi ((qj s).length+[(128:Int)].length) 1) then
 qp5 ((IntKind.wrap .u64 ((IntKind.wrap .u64 (s.length:Int))*(8:Int))),((qj s)++[(128:Int)]))>>=fun r=>
 qev (((0:Int),((72057594037927936:Int),r.1)),r.2)>>=fun r1=>
 z47 ()>>=fun f=>
 z3u ()>>=fun k=>
 qew (((0:Int),(k,f)),r1)>>=fun r2=>
 gu (((0:Int),(r2,(r2.length:Int))),[])>>=fun r3=>
 some (ja r3) else none
def qi6(self:Fu Y24 Y0f):Fu Y24 Y0f:=fun(x12,digest,x10,x11)=>
 if(decide (x12<x11)) then(if((0:Int)≤x12) then
 if(x12<(x10.length:Int)) then
 if((elt y00 x10 x12.toNat).1 !=digest) then(self ((w64 (x12+(1:Int))),(digest,(x10,x11)))) else
 z2l digest>>=fun p=>
 if(!p.2) then some (.inl ([],(10:Int))) else
 z04 (elt y00 x10 x12.toNat).2>>=fun s=>
 if(s !=p.1) then some (.inl ([],(10:Int))) else
 some (.inl ((elt y00 x10 x12.toNat).2,(0:Int))) else none else none) else
 some (.inr ())
def qrd:Fu Y24 Y0f:=qt qi6
theorem qvf q:qrd q=qi6 qrd q:=qw q
def z10:Fu Y0w Y03:=fun(l,digest)=>
 qrd ((0:Int),(digest,(l,(l.length:Int))))>>=fun r=>
 Sum.elim (fun r1=>some r1) (fun r1=>some ([],(9:Int))) r
def qjb(self:Fu Y1h Y06):Fu Y1h Y06:=fun(x9,s,x7,x8)=>
 if(decide (x9<x8)) then(if((0:Int)≤x9) then
 if(x9<(x7.length:Int)) then
 if((elt .str x7 x9.toNat)==s) then some (.inl true) else
 self ((w64 (x9+(1:Int))),(s,(x7,x8))) else none else none) else
 some (.inr ())
def qrj:Fu Y1h Y06:=qt qjb
theorem qvk q:qrj q=qjb qrj q:=qw q
def z17:Fu Y0a (Bool):=fun(l,s)=>
 qrj ((0:Int),(s,(l,(l.length:Int))))>>=fun r=>
 Sum.elim (fun r1=>some r1) (fun r1=>some false) r
def qdi(self:Fu Y2m Y2k):Fu Y2m Y2k:=fun((x66,x64,digest,x65),c,c1,c2,c3)=>
 if(decide (x66<x65)) then(if((0:Int)≤x66) then
 if(x66<(x64.length:Int)) then
 z17 (c3,(elt .str x64 x66.toNat))>>=fun h=>
 if(!h) then(if(qi (c3.length+[(elt .str x64 x66.toNat)].length) 16) then
 self (((w64 (x66+(1:Int))),(x64,(digest,x65))),(c,(c1,(c2,(c3++[(elt .str x64 x66.toNat)]))))) else none) else
 self (((w64 (x66+(1:Int))),(x64,(digest,x65))),(c,(c1,(c2,c3)))) else none else none) else
 some (digest,(c1,(c,(c2,c3))))
def qby:Fu Y2m Y2k:=qt qdi
theorem qp1 q:qby q=qdi qby q:=qw q
abbrev q17:=Y1l⊕Y33
abbrev qpz:q17→Type
 |(.inl _)=>Y1e
 |(.inr _)=>Y1e⊕Y38
def jeq(z03:Y1l→Option (Y1e))(yw:Y33→Option Y3d):Y1l→Option (Y1e):=fun((l,t,digest,depth),c,c1)=>
 if(decide (depth>(4:Int))) then some ((7:Int),([],[])) else
 z10 (l,digest)>>=fun f=>
 if(f.2 !=(0:Int)) then some (f.2,([],[])) else
 z0e f.1>>=fun p=>
 if(p.2 !=(0:Int)) then some (p.2,([],[])) else
 yw (((0:Int),(depth,(l,(p.1.2.2.2,(digest,(p.1.2.2.2.length:Int)))))),((0:Int),(t,(p.1,(c,c1)))))>>=fun r=>
 Sum.elim (fun r1=>some r1) (fun r1=>z13 r1.2.2.2.1>>=fun b=>
 qby (((0:Int),(b,(r1.1,(b.length:Int)))),(r1.2.1,(r1.2.2.1,r1.2.2.2.2)))>>=fun r2=>
 if(qi (r2.2.2.2.1.length+[r2.1].length) 16) then
 some (r2.2.2.1,((r2.2.2.2.1++[r2.1]),r2.2.2.2.2)) else none) r
def qdh(z03:Y1l→Option (Y1e))(yw:Y33→Option Y3d):Y33→Option Y3d:=fun((x42,depth,l,x40,digest,x41),c,c1,c2,c3,c4)=>
 if(decide (x42<x41)) then(if((0:Int)≤x42) then
 if(x42<(x40.length:Int)) then
 z17 (c3,(elt .str x40 x42.toNat))>>=fun h=>
 if(!h) then(z03 ((l,(c1,((elt .str x40 x42.toNat),(w64 (depth+(1:Int)))))),(c3,c4))>>=fun k=>
 if(k.1 !=(0:Int)) then some (.inl k) else
 yw (((w64 (x42+(1:Int))),(depth,(l,(x40,(digest,x41))))),(c,(k.1,(c2,k.2))))) else
 yw (((w64 (x42+(1:Int))),(depth,(l,(x40,(digest,x41))))),(c,(c1,(c2,(c3,c4))))) else none else none) else
 some (.inr (digest,(c1,(c,(c2,(c3,c4))))))
def ql7(u: ∀a,Option (qpz a)): ∀a,Option (qpz a)
 |(.inl q)=>jeq (fun q=>u (.inl q)) (fun q=>u (.inr q)) q
 |(.inr q)=>qdh (fun q=>u (.inl q)) (fun q=>u (.inr q)) q
def z03(q:Y1l):Option (Y1e):=wi ql7 (.inl q)
def yw(q:Y33):Option Y3d:=wi ql7 (.inr q)
theorem jis: ∀a,Cont fun u=>ql7 u a
 |(.inl ((l,t,digest,depth),c,c1))=>by unfold ql7 jeq;exact(.ite (.const _) (.bind (.const _) fun _=>(.ite (.const _) (.bind (.const _) fun _=>(.ite (.const _) (.bind (.app _) fun _=>(.const _)))))))
 |(.inr ((x42,depth,l,x40,digest,x41),c,c1,c2,c3,c4))=>by unfold ql7 qdh;exact(.ite (.ite (.ite (.bind (.const _) fun _=>(.ite (.bind (.app _) fun _=>(.ite (.const _) (.app _))) (.app _))) (.const _)) (.const _)) (.const _))
theorem jer q:z03 q=jeq z03 yw q:=j7 jis (.inl q)
theorem qp0 q:yw q=qdh z03 yw q:=j7 jis (.inr q)
def qd6(self:Fu Y33 Y3d):Fu Y33 Y3d:=fun((x42,depth,l,x40,digest,x41),c,c1,c2,c3,c4)=>
 if(decide (x42<x41)) then(if((0:Int)≤x42) then
 if(x42<(x40.length:Int)) then
 z17 (c3,(elt .str x40 x42.toNat))>>=fun h=>
 if(!h) then(z03 ((l,(c1,((elt .str x40 x42.toNat),(w64 (depth+(1:Int)))))),(c3,c4))>>=fun k=>
 if(k.1 !=(0:Int)) then some (.inl k) else
 self (((w64 (x42+(1:Int))),(depth,(l,(x40,(digest,x41))))),(c,(k.1,(c2,k.2))))) else
 self (((w64 (x42+(1:Int))),(depth,(l,(x40,(digest,x41))))),(c,(c1,(c2,(c3,c4))))) else none else none) else
 some (.inr (digest,(c1,(c,(c2,(c3,c4))))))
def qi1:Fu Y33 Y3d:=qt qd6
theorem qq6 q:qi1 q=qd6 qi1 q:=qw q
def qd7(self:Fu Y2m Y2k):Fu Y2m Y2k:=fun((x66,x64,digest,x65),c,c1,c2,c3)=>
 if(decide (x66<x65)) then(if((0:Int)≤x66) then
 if(x66<(x64.length:Int)) then
 z17 (c3,(elt .str x64 x66.toNat))>>=fun h=>
 if(!h) then(if(qi (c3.length+[(elt .str x64 x66.toNat)].length) 16) then
 self (((w64 (x66+(1:Int))),(x64,(digest,x65))),(c,(c1,(c2,(c3++[(elt .str x64 x66.toNat)]))))) else none) else
 self (((w64 (x66+(1:Int))),(x64,(digest,x65))),(c,(c1,(c2,c3)))) else none else none) else
 some (digest,(c1,(c,(c2,c3))))
def qe5:Fu Y2m Y2k:=qt qd7
theorem qq7 q:qe5 q=qd7 qe5 q:=qw q
def z0s:Fu (Y0g×Y0v) Y1e:=fun(l,t,digest,depth)=>
 if(decide (depth>(4:Int))) then some ((7:Int),([],[])) else
 z10 (l,digest)>>=fun f=>
 if(f.2 !=(0:Int)) then some (f.2,([],[])) else
 z0e f.1>>=fun p=>
 if(p.2 !=(0:Int)) then some (p.2,([],[])) else
 qi1 (((0:Int),(depth,(l,(p.1.2.2.2,(digest,(p.1.2.2.2.length:Int)))))),((0:Int),(t,(p.1,([],[])))))>>=fun r=>
 Sum.elim (fun r1=>some r1) (fun r1=>z13 r1.2.2.2.1>>=fun b=>
 qe5 (((0:Int),(b,(r1.1,(b.length:Int)))),(r1.2.1,(r1.2.2.1,r1.2.2.2.2)))>>=fun r2=>
 if(qi (r2.2.2.2.1.length+[r2.1].length) 16) then
 some (r2.2.2.1,((r2.2.2.2.1++[r2.1]),r2.2.2.2.2)) else none) r
end Go.Plain
namespace Go.AM
set_option linter.unusedSectionVars false
def jhb:List (Int×Y0y):=[
 (1,([98,108,111,98],(1,2))),(2,([112,117,116],(1,2))),(3,([110,97,109,101],(1,3))),(4,([117,110,110,97,109,101],(1,2))),
 (5,([114,117,108,101],(3,4))),(6,([117,110,115,101,116],(1,0))),(7,([102,105,114,101],(1,0))),(8,([116,105,99,107],(1,0))),
 (9,([115,116,101,112],(2,0))),(10,([115,116,111,112],(1,0))),(11,([97,103,97,105,110],(1,0))),(12,([99,114,97,115,104],(7,3)))]
variable [Lay]
end Go.AM
