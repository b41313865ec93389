import Derived.Test.YtjmmcdbogbpedaaGreatDoorMani
import Derived.Test.YtjmmcdbogbpedaaGreatDoorPrn
namespace Go.Plain
open Go.AM
def qr(s:Str):GVal:= .mk 2 0 s [] []
def q9(l:Str×Int):GVal:= .mk 4 0 [] [qr l.1,.mk 1 l.2 [] [] []] [[100,105,103,101,115,116],[115,105,122,101]]
def val(m:Man):GVal:=
 if m.1 then .mk 4 0 [] [.mk 3 0 [] (m.2.2.2.map qr) [],qr [105,110,100,101,120]] [[107,105,100,115],[107,105,110,100]]
 else .mk 4 0 [] [qr m.2.1,qr [105,109,97,103,101],.mk 3 0 [] (m.2.2.1.map q9) []] [[99,111,110,102,105,103],[107,105,110,100],[108,97,121,101,114,115]]
theorem q8l(c:Int×(Int×(Str×List Str)))(c1:GVal): ∀(b a:List Str) (d:List GVal),(a++b).length≤5000→d.length≤a.length→
  qsa (((a.length:Int),(a++b,((a++b).length:Int))),(c,(c1,d)))=some (c1,(c,d++b.map qr)):=by
 intro b
 induction b with
 |nil=>
  intro a d hl _
  rw [qwe]
  unfold qj6
  dsimp only
  rw [if_neg (by simp),qq]
  simp
 |cons x b ih=>
  intro a d hl hd
  have hl2:(a++x::b).length=a.length+(b.length+1):=by simp
  have hw:w64 ((a.length:Int)+1)=(a.length:Int)+1:=qh (by omega)
  have h1:=ih (a++[x]) (d++[qr x]) (by simp at hl ⊢;omega) (by simp;omega)
  rw [j4,←jf] at h1
  rw [qwe]
  unfold qj6
  dsimp only
  have hwd:z2q x=some (qr x):=rfl
  rw [Int.toNat_natCast,jc .str,if_pos (by rw [decide_eq_true_eq];omega),if_pos (by omega),if_pos (by omega),hwd,sb,qq,if_pos (by constructor <;>(simp;omega)),qq,hw,h1]
  simp
theorem q3z(c:Int×(Int×(Str×List Str)))(c1:GVal): ∀(b a:List (Str×Int)) (d:List GVal),(a++b).length≤5000→d.length≤a.length→
  qr8 (((a.length:Int),(a++b,((a++b).length:Int))),(c,(c1,d)))=some (c1,(c,d++b.map q9)):=by
 intro b
 induction b with
 |nil=>
  intro a d hl _
  rw [qwc]
  unfold qj4
  dsimp only
  rw [if_neg (by simp),qq]
  simp
 |cons x b ih=>
  intro a d hl hd
  have hl2:(a++x::b).length=a.length+(b.length+1):=by simp
  have hw:w64 ((a.length:Int)+1)=(a.length:Int)+1:=qh (by omega)
  have h1:=ih (a++[x]) (d++[q9 x]) (by simp at hl ⊢;omega) (by simp;omega)
  rw [j4,←jf] at h1
  rw [qwc]
  unfold qj4
  dsimp only
  have hwd:z44 x=some (q9 x):=rfl
  rw [Int.toNat_natCast,jc (.pair .str (.int .i64)),if_pos (by rw [decide_eq_true_eq];omega),if_pos (by omega),if_pos (by omega),hwd,sb,qq,if_pos (by constructor <;>(simp;omega)),qq,hw,h1]
  simp
theorem jem{m:Man}(hm:MB m):z3q m=some (val m):=by
 have h:=q8l ((3:Int),((0:Int),([],[]))) (GVal.mk (0:Int) (0:Int) [] [] []) m.2.2.2 [] [] (by simpa using hm.2.2.2.1) (by simp)
 have g:=q3z ((3:Int),((0:Int),([],[]))) (GVal.mk (0:Int) (0:Int) [] [] []) m.2.2.1 [] [] (by simpa using hm.2.1) (by simp)
 have h:qsa (((0:Int),(m.2.2.2,(m.2.2.2.length:Int))),_)=_:=h
 have g:qr8 (((0:Int),(m.2.2.1,(m.2.2.1.length:Int))),_)=_:=g
 unfold z3q z2a z28 val
 cases m.1 with
 |true=>
  rw [if_pos rfl,h]
  rfl
 |false=>
  rw [if_neg (show¬(false=true) by decide),g]
  rfl
theorem q7f{b:UInt8}(h:ju b=true):okC b=true:=by
 simp only [ju,Bool.or_eq_true,Bool.and_eq_true,decide_eq_true_eq] at h
 simp only [okC,Bool.not_eq_true',Bool.or_eq_false_iff,decide_eq_false_iff_not]
 omega
theorem qbk{s:Str}(h:isD s=true):s.length=71:=by
 simp only [isD,Bool.and_eq_true,decide_eq_true_eq] at h
 exact h.1.1
theorem qxb{s:Str}(h:isD s=true):okW s=true:=by
 have hl:=qbk h
 simp only [isD,Bool.and_eq_true,decide_eq_true_eq] at h
 have e:s=qfh++s.drop 7:=by
  rw [←h.1.2]
  exact(List.take_append_drop 7 s).symm
 unfold okW
 rw [decide_eq_true (by omega),Bool.and_true,e,List.all_append]
 have h2:qfh.all okC=true:=by decide
 rw [h2,Bool.true_and,List.all_eq_true]
 intro x hx
 exact q7f (List.all_eq_true.1 h.2 x hx)
theorem qxy(d:Nat)(items:List GVal)(names:List Str):okV (d+1) (.mk 4 0 [] items names)=(decide (items.length≤16)&&(okN names&&decide (names.length=items.length)&&items.all (okV d))):=by
 simp [okV,GVal.items,GVal.kind,GVal.names,GVal.s,GVal.n]
 rfl
theorem q5m(d:Nat)(items:List GVal):okV (d+1) (.mk 3 0 [] items [])=(decide (items.length≤16)&&items.all (okV d)):=by
 simp [okV,GVal.items,GVal.kind,GVal.names,GVal.s,GVal.n]
 rfl
theorem jgq(d:Nat)(n:Int):okV (d+1) (.mk 1 n [] [] [])=(decide (0≤n)&&decide (n≤1099511627776)):=by
 simp [okV,GVal.items,GVal.kind,GVal.names,GVal.s,GVal.n]
 rfl
theorem qxi: ∀{l a:List Str},kf a l=true→∀x∈l,isD x=true
 |[],_,_,x,hx=>by cases hx
 |k::r,a,h,x,hx=>by
  simp only [kf,Bool.and_eq_true] at h
  rcases List.mem_cons.1 hx with rfl|hx
  ·exact h.1.1
  ·exact qxi h.2 x hx
theorem qol{l:Str×Int}(h:lf l=true):isD l.1=true∧0≤l.2∧l.2≤4096:=by
 simp only [lf,Bool.and_eq_true,decide_eq_true_eq] at h
 exact⟨h.1.1,h.1.2,h.2⟩
theorem qa2{m:Man}(h:okM m=true)(hi:m.1=true):kf [] m.2.2.2=true∧1≤m.2.2.2.length∧m.2.2.2.length≤8∧m.2.1=[]∧m.2.2.1=[]:=by
 unfold okM at h
 rw [hi,if_pos rfl] at h
 simp only [Bool.and_eq_true,decide_eq_true_eq] at h
 exact⟨h.1.1.1.1,h.1.1.1.2,h.1.1.2,h.1.2,h.2⟩
theorem ub{m:Man}(h:okM m=true)(hi:m.1=false):isD m.2.1=true∧m.2.2.2=[]∧m.2.2.1.length≤8∧∀l∈m.2.2.1,lf l=true:=by
 unfold okM at h
 rw [hi,if_neg (show¬(false=true) by decide)] at h
 simp only [Bool.and_eq_true,decide_eq_true_eq,List.all_eq_true] at h
 exact⟨h.1.1.1,h.1.1.2,h.1.2,h.2⟩
theorem zx:okN [[100,105,103,101,115,116],[115,105,122,101]]=true:=by decide
theorem zw:okN [[107,105,100,115],[107,105,110,100]]=true:=by decide
theorem wy:okN [[99,111,110,102,105,103],[107,105,110,100],[108,97,121,101,114,115]]=true:=by decide
theorem q7q(d:Nat){l:Str×Int}(h:lf l=true):okV (d+2) (q9 l)=true:=by
 obtain⟨h1,h2,h3⟩:=qol h
 unfold q9 qr
 rw [qxy,zx]
 simp only [List.all_cons,List.all_nil,qhj,jgq,qxb h1]
 simp
 omega
theorem qbo{m:Man}(h:okM m=true):okV 6 (val m)=true:=by
 unfold val
 cases hi:m.1 with
 | true =>
  obtain⟨h1,h2,h3,h4,h5⟩:=qa2 h hi
  rw [if_pos rfl,qxy,zw]
  simp only [List.all_cons,List.all_nil,q5m,qr,qhj]
  have:(m.2.2.2.map fun s=>GVal.mk 2 0 s [] []).all (okV 4)=true:=by
   rw [List.all_map,List.all_eq_true]
   intro x hx
   show okV 4 (GVal.mk 2 0 x [] [])=true
   rw [qhj,qxb (qxi h1 x hx)]
  have this:(List.map qr m.2.2.2).all (okV 4)=true:=this
  rw [this,List.length_map]
  have:okW ([105,110,100,101,120]:Str)=true:=by decide
  rw [this,decide_eq_true (p:=m.2.2.2.length≤16) (by omega)]
  rfl
 | false =>
  obtain⟨h1,h2,h3,h4⟩:=ub h hi
  rw [if_neg (show¬(false=true) by decide),qxy,wy]
  simp only [List.all_cons,List.all_nil,q5m,qr,qhj]
  have:(m.2.2.1.map q9).all (okV 4)=true:=by
   rw [List.all_map,List.all_eq_true]
   intro x hx
   exact q7q 2 (h4 x hx)
  rw [this,List.length_map,qxb h1]
  have:okW ([105,109,97,103,101]:Str)=true:=by decide
  rw [this,decide_eq_true (p:=m.2.2.1.length≤16) (by omega)]
  rfl
noncomputable def z8(l:Str×Int):Str:=[123,34,100,105,103,101,115,116,34,58,34]++l.1++[34,44,34,115,105,122,101,34,58]++Lib.itoa l.2++[125]
theorem qhy(s:Str):txt (qr s)=quo s:=by
 unfold qr txt
 rw [if_neg (by decide),if_pos rfl]
theorem q8v(l:Str×Int):txt (q9 l)=z8 l:=by
 have h1:=qhy l.1
 unfold qr at h1
 unfold q9 z8 qr
 rw [v8 (by decide) (by decide)]
 have h2:txt (.mk 1 l.2 [] [] [])=Lib.itoa l.2:=by unfold txt;rw [if_pos rfl]
 simp [qm,jr,gm,quo,h1,h2]
theorem qui{m:Man}(h:m.1=true):txt (val m)=[123,34,107,105,100,115,34,58,91]++jr true (m.2.2.2.map quo)++[93,44,34,107,105,110,100,34,58,34,105,110,100,101,120,34,125]:=by
 unfold val
 rw [h,if_pos rfl,v8 (by decide) (by decide)]
 have h1:txt (.mk 3 0 [] (m.2.2.2.map qr) [])=[91]++jr true (m.2.2.2.map quo)++[93]:=by
  rw [v8 (by decide) (by decide)]
  have:(m.2.2.2.map qr).map txt=m.2.2.2.map quo:=by
   rw [List.map_map]
   exact List.map_congr_left fun x _=>qhy x
  simp [qm,this]
 simp [qm,jr,gm,quo,h1,qhy]
theorem qk0{m:Man}(h:m.1=false):txt (val m)=[123,34,99,111,110,102,105,103,34,58,34]++m.2.1++[34,44,34,107,105,110,100,34,58,34,105,109,97,103,101,34,44,34,108,97,121,101,114,115,34,58,91]++jr true (m.2.2.1.map z8)++[93,125]:=by
 unfold val
 rw [h,if_neg (show¬(false=true) by decide),v8 (by decide) (by decide)]
 have h1:txt (.mk 3 0 [] (m.2.2.1.map q9) [])=[91]++jr true (m.2.2.1.map z8)++[93]:=by
  rw [v8 (by decide) (by decide)]
  have:(m.2.2.1.map q9).map txt=m.2.2.1.map z8:=by
   rw [List.map_map]
   exact List.map_congr_left fun x _=>q8v x
  simp [qm,this]
 simp [qm,jr,gm,quo,h1,qhy]
theorem q3a{l:Str×Int}(h0:0≤l.2)(h1:l.2≤1099511627776):(z8 l).length≤l.1.length+45:=by
 have hl:(Lib.itoa l.2).length≤21:=by
  have:=Lib.itoa_length_le l.2 (by omega) (by omega)
  omega
 unfold z8
 simp only [List.length_append,List.length_cons,List.length_nil]
 omega
end Go.Plain
namespace Go.Plain
open Go.AM
theorem w8{m:Man}(h:okM m=true):(txt (val m)).length≤4096:=by
 cases hi:m.1 with
 | true =>
  obtain⟨h1,h2,h3,h4,h5⟩:=qa2 h hi
  have hj:=qxf 73 (m.2.2.2.map quo) true (fun x hx=>by
   obtain⟨y,hy,rfl⟩:=List.mem_map.1 hx
   have:=qbk (qxi h1 y hy)
   simp [quo]
   omega)
  rw [List.length_map] at hj
  rw [qui hi]
  simp only [List.length_append,List.length_cons,List.length_nil]
  omega
 | false =>
  obtain⟨h1,h2,h3,h4⟩:=ub h hi
  have hj:=qxf 116 (m.2.2.1.map z8) true (fun x hx=>by
   obtain⟨y,hy,rfl⟩:=List.mem_map.1 hx
   obtain⟨q1,q2,q3⟩:=qol (h4 y hy)
   have:=qbk q1
   have:=q3a (l:=y) q2 (by omega)
   omega)
  rw [List.length_map] at hj
  have:=qbk h1
  rw [qk0 hi]
  simp only [List.length_append,List.length_cons,List.length_nil]
  omega
theorem qcr{s:Str}(h:s.length≤5000):inV (qr s):=⟨by decide,by decide,by omega,by decide,trivial,by decide,fun _ h=>by cases h⟩
theorem qkl{l:Str×Int}(h:l.1.length≤5000)(h2: -9223372036854775808≤l.2∧l.2≤9223372036854775807):inV (q9 l):=
 ⟨by decide, by decide, by decide, by simp, ⟨qcr h, ⟨by decide, h2, by decide, by decide, trivial, by decide, fun _ h => by cases h⟩, trivial⟩, by decide, fun x hx => by
  simp at hx
  rcases hx with rfl|rfl <;>simp⟩
theorem qxa{m:Man}(hm:MB m):inV (val m):=by
 obtain⟨h1,h2,h3,h4,h5⟩:=hm
 unfold val
 cases m.1 with
 | true =>
  rw [if_pos rfl]
  refine⟨by decide,by decide,by decide,by simp,⟨⟨by decide,by decide,by decide,by rw [List.length_map];omega,qmx fun x hx=> ?_,by decide,fun _ h=>by cases h⟩,qcr (by simp),trivial⟩,by decide,fun x hx=>by
   simp at hx
   rcases hx with rfl|rfl <;>simp⟩
  obtain⟨y,hy,rfl⟩:=List.mem_map.1 hx
  exact qcr (h5 y hy)
 | false =>
  rw [if_neg (show¬(false=true) by decide)]
  refine⟨by decide,by decide,by decide,by simp,⟨qcr h1,qcr (by simp),⟨by decide,by decide,by decide,by rw [List.length_map];omega,qmx fun x hx=> ?_,by decide,fun _ h=>by cases h⟩,trivial⟩,by decide,fun x hx=>by
   simp at hx
   rcases hx with rfl|rfl|rfl <;>simp⟩
  obtain⟨y,hy,rfl⟩:=List.mem_map.1 hx
  exact qkl (h3 y hy).1 (h3 y hy).2
theorem je7{m:Man}(hm:MB m):z2w m=some (if okM m then(txt (val m),0) else([],1)):=by
 unfold z2w
 rw [jey hm,sb]
 cases h:okM m with
 |false=>rfl
 |true=>
  rw [if_neg (by decide),jem hm,sb,qq,je9 (qxa hm),sb,qbo h,if_pos rfl,if_neg (by have:=w8 h;omega)]
  rfl
theorem qsq: ∀(b a:List Str) (out:Str),(a++b).length≤5000→(∀x∈b,x.length≤5000)→out.length+b.length*6000≤1000000000→
  qq5 ((a.length:Int),(out,(a++b,((a++b).length:Int))))=some (out++jr (decide (a.length=0)) (b.map quo)):=by
 intro b
 induction b with
 |nil=>
  intro a out hl _ _
  rw [qu9]
  unfold qiz
  dsimp only
  rw [if_neg (by simp)]
  simp [jr]
 | cons x b ih =>
  intro a out hl hs hO
  have hl2:(a++x::b).length=a.length+(b.length+1):=by simp
  have hx:=hs x (by simp)
  have hw:w64 ((a.length:Int)+1)=(a.length:Int)+1:=qh (by omega)
  rw [List.length_cons] at hO
  have ih:=fun o=>ih (a++[x]) o (by simp at hl ⊢;omega) (fun y hy=>hs y (by simp [hy]))
  rw [j4,←jf] at ih
  rw [qu9]
  unfold qiz
  dsimp only
  rw [Int.toNat_natCast,jc .str,if_pos (by rw [decide_eq_true_eq];omega),if_pos (by omega),if_pos (by omega),hw]
  have e0:decide ((a++[x]).length=0)=false:=by simp
  rw [e0] at ih
  by_cases c:a.length=0
  ·rw [if_neg (by rw [decide_eq_true_eq]; omega), if_pos (by simp; omega), if_pos (by simp; omega), if_pos (by simp; omega), ih _ (by simp; omega)]
   simp [c,jr,quo]
  ·rw [if_pos (by rw [decide_eq_true_eq]; omega), if_pos (by simp; omega), if_pos (by simp; omega), if_pos (by simp; omega), if_pos (by simp; omega), ih _ (by simp; omega)]
   simp [c,jr,quo]
theorem qpb(c:Man): ∀(b a:List (Str×Int)) (out:Str),(a++b).length≤5000→(∀x∈b,x.1.length≤5000∧0≤x.2∧x.2≤4096)→out.length+b.length*6000≤1000000000→
  qiy (((a.length:Int),(out,(a++b,((a++b).length:Int)))),c)=some (out++jr (decide (a.length=0)) (b.map z8),c):=by
 intro b
 induction b with
 |nil=>
  intro a out hl _ _
  rw [qq4]
  unfold qd5
  dsimp only
  rw [if_neg (by simp)]
  simp [jr]
 | cons x b ih =>
  intro a out hl hs hO
  have hl2:(a++x::b).length=a.length+(b.length+1):=by simp
  obtain⟨hx,hx1,hx2⟩:=hs x (by simp)
  have hw:w64 ((a.length:Int)+1)=(a.length:Int)+1:=qh (by omega)
  have hi:=Lib.itoa_length_le x.2 (by omega) (by omega)
  rw [List.length_cons] at hO
  have ih:=fun o=>ih (a++[x]) o (by simp at hl ⊢;omega) (fun y hy=>hs y (by simp [hy]))
  rw [j4,←jf] at ih
  rw [qq4]
  unfold qd5
  dsimp only
  rw [Int.toNat_natCast,jc (.pair .str (.int .i64)),if_pos (by rw [decide_eq_true_eq];omega),if_pos (by omega),if_pos (by omega),hw,qab (by omega) (by omega),sb,sb]
  have e0:decide ((a++[x]).length=0)=false:=by simp
  rw [e0] at ih
  by_cases c:a.length=0
  ·rw [if_neg (by rw [decide_eq_true_eq]; omega), if_pos (by simp; omega), if_pos (by simp; omega), if_pos (by simp; omega), if_pos (by simp; omega), if_pos (by simp; omega), ih _ (by simp; omega)]
   simp [c,jr,z8]
  ·rw [if_pos (by rw [decide_eq_true_eq]; omega), if_pos (by simp; omega), if_pos (by simp; omega), if_pos (by simp; omega), if_pos (by simp; omega), if_pos (by simp; omega), if_pos (by simp; omega), ih _ (by simp; omega)]
   simp [c,jr,z8]
theorem jk2{m:Man}(hm:MB m)(h:okM m=true):z0q m=some (txt (val m)):=by
 have hl:=w8 h
 unfold z0q
 cases hi:m.1 with
 |true=>
  have h1:=qsq m.2.2.2 [] [] (by simpa using hm.2.2.2.1) hm.2.2.2.2 (by have:=hm.2.2.2.1;simp;omega)
  have h1:qq5 ((0:Int),([],(m.2.2.2,(m.2.2.2.length:Int))))=some (jr true (m.2.2.2.map quo)):=h1
  rw [qui hi] at hl ⊢
  simp only [List.length_append] at hl
  rw [if_pos rfl,h1,sb,if_pos (by omega),if_pos (by simp only [List.length_append];omega)]
 |false=>
  obtain⟨_,_,_,h4⟩:=ub h hi
  have h1:=qpb m m.2.2.1 [] [] (by simpa using hm.2.1) (fun x hx=>⟨(hm.2.2.1 x hx).1,(qol (h4 x hx)).2⟩) (by have:=hm.2.1;simp;omega)
  have h1:qiy (((0:Int),([],(m.2.2.1,(m.2.2.1.length:Int)))),m)=some (jr true (m.2.2.1.map z8),m):=h1
  rw [qk0 hi] at hl ⊢
  simp only [List.length_append] at hl
  rw [if_neg (show¬(false=true) by decide),h1,sb]
  dsimp only
  rw [if_pos (by omega),if_pos (by simp only [List.length_append];omega),if_pos (by simp only [List.length_append];omega),if_pos (by simp only [List.length_append];omega)]
def need(c:List Str)(l:List (Str×Int)):List Str:=l.foldl (fun c x=>if c.contains x.1 then c else c++[x.1]) c
theorem qko(c:List Str)(x:Str×Int)(l:List (Str×Int)):need c (x::l)=need (if c.contains x.1 then c else c++[x.1]) l:=rfl
theorem qy0: ∀(b a:List (Str×Int)) (c:List Str),(a++b).length≤5000→c.length≤a.length+1→
  qrg (((a.length:Int),(a++b,((a++b).length:Int))),c)=some (need c b):=by
 intro b
 induction b with
 |nil=>
  intro a c hl _
  rw [qvi]
  unfold qi9
  dsimp only
  rw [if_neg (by simp)]
  rfl
 | cons x b ih =>
  intro a c hl hc
  have hl2:(a++x::b).length=a.length+(b.length+1):=by simp
  have hw:w64 ((a.length:Int)+1)=(a.length:Int)+1:=qh (by omega)
  have ih:=fun o=>ih (a++[x]) o (by simp at hl ⊢;omega)
  rw [j4,←jf] at ih
  rw [qvi,qko]
  unfold qi9
  dsimp only
  rw [Int.toNat_natCast,jc (.pair .str (.int .i64)),if_pos (by rw [decide_eq_true_eq];omega),if_pos (by omega),if_pos (by omega),hw,js (by omega),sb]
  cases c.contains x.1 with
  |true=>
   rw [if_neg (by decide),ih _ (by simp;omega)]
   rfl
  |false=>
   rw [if_pos (show(!false)=true by rfl),if_pos (by constructor <;>(simp;omega)),ih _ (by simp;omega)]
   rfl
theorem qo8: ∀(b a:List (Str×Int)) (c:List Str),(a++b).length≤5000→c.length≤a.length+1→
  qrf (((a.length:Int),(a++b,((a++b).length:Int))),c)=some (need c b):=by
 intro b
 induction b with
 |nil=>
  intro a c hl _
  rw [qvh]
  unfold qi8
  dsimp only
  rw [if_neg (by simp)]
  rfl
 | cons x b ih =>
  intro a c hl hc
  have hl2:(a++x::b).length=a.length+(b.length+1):=by simp
  have hw:w64 ((a.length:Int)+1)=(a.length:Int)+1:=qh (by omega)
  have ih:=fun o=>ih (a++[x]) o (by simp at hl ⊢;omega)
  rw [j4,←jf] at ih
  rw [qvh,qko]
  unfold qi8
  dsimp only
  rw [Int.toNat_natCast,jc (.pair .str (.int .i64)),if_pos (by rw [decide_eq_true_eq];omega),if_pos (by omega),if_pos (by omega),hw,jcv (by omega),sb]
  cases c.contains x.1 with
  |true=>
   rw [if_neg (by decide),ih _ (by simp;omega)]
   rfl
  |false=>
   rw [if_pos (show(!false)=true by rfl),if_pos (by constructor <;>(simp;omega)),ih _ (by simp;omega)]
   rfl
def q6(m:Man):List Str:=if m.1 then [] else if okM m then need [m.2.1] m.2.2.1 else []
theorem q4n{m:Man}(hm:MB m):z14 m=some (q6 m):=by
 unfold z14 q6
 cases m.1 with
 |true=>rfl
 |false=>
  have h:=qy0 m.2.2.1 [] [m.2.1] (by simpa using hm.2.1) (by simp)
  have h:qrg (((0:Int),(m.2.2.1,(m.2.2.1.length:Int))),[m.2.1])=_:=h
  rw [if_neg (show¬(false=true) by decide),jey hm,sb,h,sb]
  cases okM m <;>rfl
theorem q4m{m:Man}(hm:MB m):z13 m=some (q6 m):=by
 unfold z13 q6
 cases m.1 with
 |true=>rfl
 |false=>
  have h:=qo8 m.2.2.1 [] [m.2.1] (by simpa using hm.2.1) (by simp)
  have h:qrf (((0:Int),(m.2.2.1,(m.2.2.1.length:Int))),[m.2.1])=_:=h
  rw [if_neg (show¬(false=true) by decide),jew hm,sb,h,sb]
  cases okM m <;>rfl
theorem jc9: ∀(l:List (Str×Int)) (c:List Str),(need c l).length≤c.length+l.length:=by
 intro l
 induction l with
 |nil=>intro c;exact Nat.le_refl _
 |cons x l ih=>
  intro c
  rw [qko]
  refine Nat.le_trans (ih _) ?_
  split <;>(simp;try omega)
theorem qfy(m:Man):(q6 m).length≤m.2.2.1.length+1:=by
 unfold q6
 split
 ·simp
 split
 ·have := jc9 m.2.2.1 [m.2.1]
  simp at this
  omega
 ·simp
end Go.Plain
namespace Go.Plain
open Go.AM
end Go.Plain
namespace Go.Plain
open Go.AM
abbrev wo:Str:=[100,105,103,101,115,116]
abbrev qaf:Str:=[115,105,122,101]
theorem qeo{d:Nat}{v:GVal}(h:okV (d+1) v=true):v.s.length≤200∧v.items.length≤16∧(∀x∈v.items,okV d x=true)∧(v.kind=4→v.names.length=v.items.length∧okN v.names=true):=by
 obtain⟨h1,h2⟩:=qem h
 rcases h2 with⟨k,i,n,s,_⟩|⟨k,i,n,_,w⟩|⟨k,n,_,s,a⟩|⟨k,o,n,_,s,a⟩
 ·rw [s, i]
  exact⟨by simp,by simp,(fun x hx=>by cases hx),fun q=>by rw [k] at q;cases q⟩
 ·rw [i]
  exact⟨qxz w,by simp,(fun x hx=>by cases hx),fun q=>by rw [k] at q;cases q⟩
 ·rw [s]
  exact⟨by simp,h1,a,fun q=>by rw [k] at q;cases q⟩
 ·rw [s]
  exact⟨by simp,h1,a,fun _=>⟨n,o⟩⟩
theorem jil{v:GVal}(h:inV v): -9223372036854775808≤v.n∧v.n≤9223372036854775807:=by cases v;exact h.2.1
theorem qeb{d:Nat}{v:GVal}(hv:inV v)(h:okV (d+1) v=true)(nm:Str)(kind:Int): ∃x f,z1b (v,(nm,kind))=some (x,f)∧inV x∧x.s.length≤200∧x.items.length≤16∧
  (∀y∈x.items,inV y)∧(∀e,d=e+1→∀y∈x.items,okV e y=true):=by
 obtain⟨_,_,h3,h4⟩:=qeo h
 obtain⟨x,f,h1,h2⟩:=q2e hv (fun k=>(h4 k).1) nm kind
 refine⟨x,f,h1, ?_⟩
 rcases h2 with⟨_,rfl,_⟩|⟨_,_,j,_,hj,_⟩
 ·exact⟨⟨by decide,by decide,by decide,by decide,trivial,by decide,fun _ h=>by cases h⟩,by decide,by decide,(fun y hy=>by cases hy),fun _ _ y hy=>by cases hy⟩
 ·have hm := List.mem_of_getElem? hj
  have hx:=zt (xz hv).2.2.1 x hm
  have ho:=h3 x hm
  match d,ho with
  | e + 1, ho =>
   obtain⟨q1,q2,q3,_⟩:=qeo ho
   exact⟨hx,q1,q2,zt (xz hx).2.2.1,fun e' he=>by
    injection he with he
    rw [←he]
    exact q3⟩
theorem qm9{v:GVal}(hv:inV v)(h4:v.kind=4→v.names.length=v.items.length){nm:Str}{kind:Int}(hn:nm∉v.names):z1b (v,(nm,kind))=some (.mk 0 0 [] [] [],8):=by
 obtain⟨x,f,h1,h2⟩:=q2e hv h4 nm kind
 rcases h2 with⟨rfl,rfl,_⟩|⟨_,_,j,hj,_⟩
 ·exact h1
 ·exact absurd (List.mem_of_getElem? hj) hn
theorem qfv{v y:GVal}(hv:inV v)(k:v.kind=4)(hl:v.names.length=v.items.length)(ho:okN v.names=true){nm:Str}(j:Nat)(hj:v.names[j]? =some nm)(hy:v.items[j]? =some y):
  z1b (v,(nm,y.kind))=some (y,0):=by
 obtain⟨x,f,h1,h2⟩:=q2e hv (fun _=>hl) nm y.kind
 rcases h2 with⟨_,_,h⟩|⟨rfl,_,j',hj',hx,_⟩
 ·exact absurd rfl (h k ho j y hj hy)
 ·have := qhh ho j j' nm hj hj'
  subst this
  rw [hy] at hx
  injection hx with hx
  rw [h1,hx]
noncomputable def rdL(x:GVal):Str×Int:=match z1b (x,(wo,2)),z1b (x,(qaf,1)) with
 |some g,some g1=>(g.1.s,g1.1.n)
 |_,_=>([],0)
theorem q3y(c c1:Bool×Str)(c2:GVal): ∀(b a:List GVal) (r:List (Str×Int)),(a++b).length≤5000→r.length≤a.length→(∀x∈b,(∃g,z1b (x,(wo,2))=some g)∧∃g,z1b (x,(qaf,1))=some g)→
  qq3 (((a.length:Int),(a++b,((a++b).length:Int))),(c,(c1,(c2,r))))=some (c,(c1,(c2,r++b.map rdL))):=by
 intro b
 induction b with
 |nil=>
  intro a r hl _ _
  rw [qu8]
  unfold qix
  dsimp only
  rw [if_neg (by simp),qq]
  simp
 |cons x b ih=>
  intro a r hl hr hx
  have hl2:(a++x::b).length=a.length+(b.length+1):=by simp
  have hw:w64 ((a.length:Int)+1)=(a.length:Int)+1:=qh (by omega)
  obtain⟨⟨g,h1⟩,g1,h2⟩:=hx x (by simp)
  have ih:=ih (a++[x]) (r++[(g.1.s,g1.1.n)]) (by simp at hl ⊢;omega) (by simp;omega) (fun y hy=>hx y (by simp [hy]))
  rw [j4,←jf] at ih
  have e:rdL x=(g.1.s,g1.1.n):=by unfold rdL;rw [h1,h2]
  rw [qu8]
  unfold qix
  dsimp only
  rw [Int.toNat_natCast,jc .val,qq,qq,if_pos (by rw [decide_eq_true_eq];omega),if_pos (by omega),if_pos (by omega),h1,sb,h2,sb,if_pos (by constructor <;>(simp;omega)),hw,ih]
  simp [e]
theorem q07(c c1:Bool×Str)(c2:List (Str×Int)): ∀(b a:List GVal) (r:List Str),(a++b).length≤5000→r.length≤a.length→
  qiw (((a.length:Int),(a++b,((a++b).length:Int))),(c,(c1,(c2,r))))=some (c1,(c,(c2,r++b.map GVal.s))):=by
 intro b
 induction b with
 |nil=>
  intro a r hl _
  rw [qq2]
  unfold qd4
  dsimp only
  rw [if_neg (by simp)]
  simp
 |cons x b ih=>
  intro a r hl hr
  have hl2:(a++x::b).length=a.length+(b.length+1):=by simp
  have hw:w64 ((a.length:Int)+1)=(a.length:Int)+1:=qh (by omega)
  have ih:=ih (a++[x]) (r++[x.s]) (by simp at hl ⊢;omega) (by simp;omega)
  rw [j4,←jf] at ih
  rw [qq2]
  unfold qd4
  dsimp only
  rw [Int.toNat_natCast,jc .val,if_pos (by rw [decide_eq_true_eq];omega),if_pos (by omega),if_pos (by omega),if_pos (by constructor <;>(simp;omega)),hw,ih]
  simp
abbrev wq:Str:=[107,105,110,100]
abbrev vo:Str:=[99,111,110,102,105,103]
abbrev vp:Str:=[108,97,121,101,114,115]
abbrev yz:Str:=[107,105,100,115]
abbrev w6:Str:=[105,110,100,101,120]
theorem qya{v:GVal}{g g1 g2 g3:GVal×Int}(h0:z1b (v,(wq,2))=some g)(h1:z1b (v,(vo,2))=some g1)(h2:z1b (v,(vp,3))=some g2)(h3:z1b (v,(yz,3))=some g3)
  (l2:g2.1.items.length≤5000) (l3:g3.1.items.length≤5000) (hl: ∀x∈g2.1.items,(∃g,z1b (x,(wo,2))=some g)∧∃g,z1b (x,(qaf,1))=some g):
  z0p v=some (g.1.s==w6,(g1.1.s,(g2.1.items.map rdL,g3.1.items.map GVal.s))):=by
 have q1:=q3y (g.1.s==w6,g1.1.s) (false,[]) g3.1 g2.1.items [] [] (by simpa using l2) (by simp) hl
 have q1:qq3 (((0:Int),(g2.1.items,(g2.1.items.length:Int))),_)=_:=q1
 have q2:=q07 (g.1.s==w6,g1.1.s) (false,[]) (g2.1.items.map rdL) g3.1.items [] [] (by simpa using l3) (by simp)
 have q2:qiw (((0:Int),(g3.1.items,(g3.1.items.length:Int))),_)=_:=q2
 unfold z0p
 rw [qq,h0,sb,h1,sb,h2,sb,h3,sb,qq,q1,sb]
 dsimp only
 rw [List.nil_append,q2,sb]
 rfl
theorem q8i{v:GVal}(hv:inV v)(h:okV 6 v=true): ∃m,z0p v=some m∧MB m:=by
 obtain⟨x0,f0,a0,b0,c0,_⟩:=qeb hv h wq 2
 obtain⟨x1,f1,a1,b1,c1,_⟩:=qeb hv h vo 2
 obtain⟨x2,f2,a2,b2,_,d2,e2,o2⟩:=qeb hv h vp 3
 obtain⟨x3,f3,a3,b3,_,d3,e3,o3⟩:=qeb hv h yz 3
 have hg: ∀x∈x2.items,∃g f g1 f1,z1b (x,(wo,2))=some (g,f)∧z1b (x,(qaf,1))=some (g1,f1)∧g.s.length≤200∧inV g1:=fun x hx=>by
  obtain⟨g,f,p1,_,p2,_⟩:=qeb (d:=3) (e2 x hx) (o2 4 rfl x hx) wo 2
  obtain⟨g1,f1,q1,q2,_⟩:=qeb (d:=3) (e2 x hx) (o2 4 rfl x hx) qaf 1
  exact⟨g,f,g1,f1,p1,q1,p2,q2⟩
 refine⟨_,qya a0 a1 a2 a3 (by show x2.items.length≤_;omega) (by show x3.items.length≤_;omega) (fun x hx=> ?_), ?_, ?_,fun l hl=> ?_, ?_,fun k hk=> ?_⟩
 ·obtain ⟨g, f, g1, f1, p1, p2, _⟩ := hg x hx
  exact⟨⟨_,p1⟩,_,p2⟩
 ·show x1.s.length ≤ _
  omega
 ·show (x2.items.map rdL).length ≤ _
  rw [List.length_map]
  omega
 ·obtain ⟨x, hx, rfl⟩ := List.mem_map.1 hl
  obtain⟨g,f,g1,f1,p1,p2,p3,p4⟩:=hg x hx
  have e:rdL x=(g.s,g1.n):=by unfold rdL;rw [p1,p2]
  rw [e]
  exact⟨by show g.s.length≤_;omega,jil p4⟩
 ·show (x3.items.map GVal.s).length ≤ _
  rw [List.length_map]
  omega
 ·obtain ⟨x, hx, rfl⟩ := List.mem_map.1 hk
  have:=(qeo (d:=3) (o3 4 rfl x hx)).1
  omega
theorem qt3{l:Str×Int}(h:l.1.length≤5000)(h2: -9223372036854775808≤l.2∧l.2≤9223372036854775807):z1b (q9 l,(wo,2))=some (qr l.1,0)∧z1b (q9 l,(qaf,1))=some (.mk 1 l.2 [] [] [],0)∧rdL (q9 l)=l:=by
 have hv:=qkl h h2
 have g1:z1b (q9 l,(wo,2))=some (qr l.1,0):=qfv (y:=qr l.1) hv rfl rfl zx 0 rfl rfl
 have g2:z1b (q9 l,(qaf,1))=some (.mk 1 l.2 [] [] [],0):=qfv (y:= .mk 1 l.2 [] [] []) hv rfl rfl zx 1 rfl rfl
 refine⟨g1,g2, ?_⟩
 unfold rdL
 rw [g1,g2]
 rfl
theorem qf9{m:Man}(hm:MB m)(h:okM m=true):z0p (val m)=some m:=by
 have hv:=qxa hm
 obtain⟨b1,b2,b3,b4,b5⟩:=hm
 obtain⟨ix,cf,ls,ks⟩:=m
 cases ix with
 | true =>
  obtain⟨h1,h2,h3,h4,h5⟩:=qa2 h rfl
  have h4:cf=[]:=h4
  have h5:ls=[]:=h5
  subst h4 h5
  have e:val (true,([],([],ks)))= .mk 4 0 [] [.mk 3 0 [] (ks.map qr) [],qr w6] [yz,wq]:=rfl
  rw [e] at hv ⊢
  have g0:z1b (GVal.mk 4 0 [] [.mk 3 0 [] (ks.map qr) [],qr w6] [yz,wq],(wq,2))=some (qr w6,0):=qfv (y:=qr w6) hv rfl rfl zw 1 rfl rfl
  have g3:z1b (GVal.mk 4 0 [] [.mk 3 0 [] (ks.map qr) [],qr w6] [yz,wq],(yz,3))=some (.mk 3 0 [] (ks.map qr) [],0):=qfv (y:= .mk 3 0 [] (ks.map qr) []) hv rfl rfl zw 0 rfl rfl
  have g1:z1b (GVal.mk 4 0 [] [.mk 3 0 [] (ks.map qr) [],qr w6] [yz,wq],(vo,2))=some (.mk 0 0 [] [] [],8):=qm9 hv (fun _=>rfl) (show vo∉([yz,wq]:List Str) by decide)
  have g2:z1b (GVal.mk 4 0 [] [.mk 3 0 [] (ks.map qr) [],qr w6] [yz,wq],(vp,3))=some (.mk 0 0 [] [] [],8):=qm9 hv (fun _=>rfl) (show vp∉([yz,wq]:List Str) by decide)
  rw [qya g0 g1 g2 g3 (by decide) (by show(ks.map qr).length≤_;rw [List.length_map];exact b4) (fun x hx=>by cases hx)]
  have e2:(ks.map qr).map GVal.s=ks:=by
   rw [List.map_map]
   exact List.map_id'' (fun _=>rfl) ks
  show some (true,(([]:Str),(([]:List (Str×Int)),(ks.map qr).map GVal.s)))=_
  rw [e2]
 | false =>
  obtain⟨h1,h2,h3,h4⟩:=ub h rfl
  have h2:ks=[]:=h2
  subst h2
  have e:val (false,(cf,(ls,[])))= .mk 4 0 [] [qr cf,qr [105,109,97,103,101],.mk 3 0 [] (ls.map q9) []] [vo,wq,vp]:=rfl
  rw [e] at hv ⊢
  have g0:z1b (GVal.mk 4 0 [] [qr cf,qr [105,109,97,103,101],.mk 3 0 [] (ls.map q9) []] [vo,wq,vp],(wq,2))=some (qr [105,109,97,103,101],0):=qfv (y:=qr [105,109,97,103,101]) hv rfl rfl wy 1 rfl rfl
  have g1:z1b (GVal.mk 4 0 [] [qr cf,qr [105,109,97,103,101],.mk 3 0 [] (ls.map q9) []] [vo,wq,vp],(vo,2))=some (qr cf,0):=qfv (y:=qr cf) hv rfl rfl wy 0 rfl rfl
  have g2:z1b (GVal.mk 4 0 [] [qr cf,qr [105,109,97,103,101],.mk 3 0 [] (ls.map q9) []] [vo,wq,vp],(vp,3))=some (.mk 3 0 [] (ls.map q9) [],0):=qfv (y:= .mk 3 0 [] (ls.map q9) []) hv rfl rfl wy 2 rfl rfl
  have g3:z1b (GVal.mk 4 0 [] [qr cf,qr [105,109,97,103,101],.mk 3 0 [] (ls.map q9) []] [vo,wq,vp],(yz,3))=some (.mk 0 0 [] [] [],8):=qm9 hv (fun _=>rfl) (show yz∉([vo,wq,vp]:List Str) by decide)
  rw [qya g0 g1 g2 g3 (by show(ls.map q9).length≤_;rw [List.length_map];exact b2) (by decide) (fun x hx=>by
   obtain⟨l,hl,rfl⟩:=List.mem_map.1 hx
   obtain⟨q1,q2,_⟩:=qt3 (b3 l hl).1 (b3 l hl).2
   exact⟨⟨_,q1⟩,_,q2⟩)]
  have e2:(ls.map q9).map rdL=ls:=by
   rw [List.map_map]
   have: ∀l∈ls,(rdL ∘ q9) l=id l:=fun l hl=>(qt3 (b3 l hl).1 (b3 l hl).2).2.2
   rw [List.map_congr_left this,List.map_id]
  show some (false,(cf,((ls.map q9).map rdL,([]:List Str))))=_
  rw [e2]
theorem q52{m w:Man}(hm:MB m)(hw:MB w)(h:okM m=true)(g:okM w=true)(e:txt (val m)=txt (val w)):m=w:=by
 have h1:=qyj (qbo h) (qbo g) (w8 h) e
 have h2:=qf9 hm h
 have h3:=qf9 hw g
 rw [h1,h3] at h2
 injection h2 with h2
 exact h2.symm
theorem qyy(s:Str): ∃r,z2d s=some r∧((r.2=0∧MB r.1∧okM r.1=true∧txt (val r.1)=s)∨
  ((∀m,MB m→okM m=true→txt (val m)≠s)∧r.1=(false,([],([],[])))∧((s.length>4096∧r.2=2)∨(s.length≤4096∧(∀v,¬qcs s v)∧r.2=6)∨(s.length≤4096∧(∃v,qcs s v)∧r.2=8)))):=by
 obtain⟨p,h1,h2⟩:=jln (s:=s)
 unfold z2d
 rw [h1,sb]
 by_cases hl:s.length>4096
 ·rw [if_pos hl] at h2
  subst h2
  rw [if_pos (by rfl)]
  refine⟨_,rfl,.inr ⟨fun m hm ho e=> ?_,rfl,.inl ⟨hl,rfl⟩⟩⟩
  have:=w8 ho
  rw [e] at this
  omega
 ·rw [if_neg hl] at h2
  rcases h2 with⟨q1,q2,q3⟩|⟨q1,rfl⟩
  ·obtain ⟨m, p1, p2⟩ := q8i q2 q1.1
   have hno: ∀w,MB w→okM w=true→txt (val w)=s→w=m:=fun w hw ho e=>by
    have e2:=qyj (qbo ho) q1.1 (w8 ho) (e.trans q1.2.symm)
    have e3:=qf9 hw ho
    rw [e2,p1] at e3
    injection e3 with e3
    exact e3.symm
   rw [if_neg (by rw [q3];decide),qq,p1,sb,je7 p2,sb]
   cases ho:okM m with
   |false=>
    rw [if_neg (show¬(false=true) by decide),if_pos (by rfl)]
    refine⟨_,rfl,.inr ⟨fun w hw hk e=> ?_,rfl,.inr (.inr ⟨by omega,⟨_,q1⟩,rfl⟩)⟩⟩
    rw [hno w hw hk e,ho] at hk
    cases hk
   | true =>
    rw [if_pos rfl,if_neg (by simp)]
    by_cases e:txt (val m)=s
    ·rw [if_neg (by simp [e])]
     exact⟨_,rfl,.inl ⟨rfl,p2,ho,e⟩⟩
    ·rw [if_pos (by simpa using e)]
     refine⟨_,rfl,.inr ⟨fun w hw hk e2=> ?_,rfl,.inr (.inr ⟨by omega,⟨_,q1⟩,rfl⟩)⟩⟩
     rw [hno w hw hk e2] at e2
     exact e e2
  ·rw [if_pos (by rfl)]
   refine⟨_,rfl,.inr ⟨fun w hw hk e=>q1 (val w) ⟨qbo hk,e⟩,rfl,.inr (.inl ⟨by omega,q1,rfl⟩)⟩⟩
theorem q2f{m:Man}(hm:MB m)(h:okM m=true):z2d (txt (val m))=some (m,0):=by
 obtain⟨r,h1,h2⟩:=qyy (txt (val m))
 rcases h2 with⟨q1,q2,q3,q4⟩|⟨q,_⟩
 ·have := q52 q2 hm q3 h q4
  obtain⟨a,b⟩:=r
  have q1:b=0:=q1
  have this:a=m:=this
  rw [h1,q1,this]
 ·exact absurd rfl (q m hm h)
end Go.Plain
namespace Go.Plain
open Go.AM
end Go.Plain
namespace Go.Plain
open Go.AM
set_option linter.unusedVariables false
abbrev Obj:Type:=Str×Str
abbrev WS:Type:=List Str×List Str
def fnd(l:List Obj)(d:Str):Str×Int:=match l.find? (fun o=>o.1==d) with
 |none=>([],9)
 |some o=>if qco d o.2 then(o.2,0) else([],10)
noncomputable def pM(s:Str):Man×Int:=(z2d s).getD ((false,([],([],[]))),1)
theorem qow(s:Str):z2d s=some (pM s):=by
 obtain⟨r,h,_⟩:=qyy s
 unfold pM
 rw [h]
 rfl
theorem qox{s:Str}(h:(pM s).2=0):MB (pM s).1∧okM (pM s).1=true∧txt (val (pM s).1)=s:=by
 obtain⟨r,h1,h2⟩:=qyy s
 have e:pM s=r:=by unfold pM;rw [h1];rfl
 rw [e] at h ⊢
 rcases h2 with⟨_,q2,q3,q4⟩|⟨_,_,q⟩
 ·exact⟨q2,q3,q4⟩
 ·rcases q with q|q|q <;>omega
theorem qhm{s:Str}(h:(pM s).2=0):(pM s).1.2.2.2.length≤8∧(∀k∈(pM s).1.2.2.2,isD k=true)∧(q6 (pM s).1).length≤9:=by
 obtain⟨h1,h2,_⟩:=qox h
 have hb:=qfy (pM s).1
 cases hi:(pM s).1.1 with
 |true=>
  obtain⟨g1,g2,g3,g4,g5⟩:=qa2 h2 hi
  rw [g5] at hb
  exact⟨g3,qxi g1,by simp at hb;omega⟩
 |false=>
  obtain⟨g1,g2,g3,g4⟩:=ub h2 hi
  rw [g2]
  exact⟨by simp,(fun _ hk=>by cases hk),by omega⟩
def qsg(c:List Str)(bs:List Str):List Str:=bs.foldl (fun c b=>if c.contains b then c else c++[b]) c
theorem qau(c:List Str)(x:Str)(l:List Str):qsg c (x::l)=qsg (if c.contains x then c else c++[x]) l:=rfl
def jw(g:Str→WS→Int×WS):List Str→WS→Int×WS
 |[],w=>(0,w)
 |k::r,w=>if w.1.contains k then jw g r w else if(g k w).1≠0 then g k w else jw g r (g k w).2
noncomputable def wk(l:List Obj):Nat→Str→WS→Int×WS
 |0,_,w=>(7,w)
 |n+1,d,w=>
  if(fnd l d).2≠0 then((fnd l d).2,w) else
  if(pM (fnd l d).1).2≠0 then((pM (fnd l d).1).2,w) else
  if(jw (wk l n) (pM (fnd l d).1).1.2.2.2 w).1≠0 then jw (wk l n) (pM (fnd l d).1).1.2.2.2 w else
  (0,((jw (wk l n) (pM (fnd l d).1).1.2.2.2 w).2.1++[d],qsg (jw (wk l n) (pM (fnd l d).1).1.2.2.2 w).2.2 (q6 (pM (fnd l d).1).1)))
def S:Nat→Nat
 |0=>0
 |n+1=>8*S n+1
theorem qnf: ∀(b c:List Str),(qsg c b).length≤c.length+b.length
 |[],c=>Nat.le_refl _
 |x::b,c=>by
  rw [qau]
  have h1:=qnf b c
  have h2:=qnf b (c++[x])
  simp only [List.length_append,List.length_cons,List.length_nil] at h2 ⊢
  split <;>omega
theorem y7{g:Str→WS→Int×WS}{s:Nat}(hg: ∀k w,(g k w).2.1.length≤w.1.length+s∧(g k w).2.2.length≤w.2.length+9*s): ∀(b:List Str) (w:WS),
  (jw g b w).2.1.length≤w.1.length+b.length*s∧(jw g b w).2.2.length≤w.2.length+9*(b.length*s)
 |[],w=>⟨by simp [jw],by simp [jw]⟩
 | k :: b, w => by
  have h1:=y7 hg b w
  have h2:=y7 hg b (g k w).2
  have h3:=hg k w
  have e:(k::b).length*s=b.length*s+s:=by rw [List.length_cons,Nat.add_mul,Nat.one_mul]
  rw [e]
  unfold jw
  split
  ·omega
  ·split
   ·omega
   ·omega
theorem qbv(l:List Obj): ∀(n:Nat) (d:Str) (w:WS),(wk l n d w).2.1.length≤w.1.length+S n∧(wk l n d w).2.2.length≤w.2.length+9*S n
 |0,d,w=>⟨by simp [wk],by simp [wk]⟩
 | n + 1, d, w => by
  unfold wk S
  by_cases c1:(fnd l d).2≠0
  ·rw [if_pos c1];exact⟨by simp,by simp⟩
  ·rw [if_neg c1]
   by_cases c2:(pM (fnd l d).1).2≠0
   ·rw [if_pos c2];exact⟨by simp,by simp⟩
   ·rw [if_neg c2]
    obtain⟨k1,_,k3⟩:=qhm (not_not_z c2)
    have h:=y7 (qbv l n) (pM (fnd l d).1).1.2.2.2 w
    have h8:(pM (fnd l d).1).1.2.2.2.length*S n≤8*S n:=Nat.mul_le_mul_right _ k1
    by_cases c3:(jw (wk l n) (pM (fnd l d).1).1.2.2.2 w).1≠0
    ·rw [if_pos c3];constructor <;>omega
    ·rw [if_neg c3]
     have hb:=qnf (q6 (pM (fnd l d).1).1) (jw (wk l n) (pM (fnd l d).1).1.2.2.2 w).2.2
     constructor
     ·simp only [List.length_append,List.length_cons,List.length_nil];omega
     ·show (qsg _ _).length ≤ _
      omega
where not_not_z {x:Int} (h: ¬x≠0):x=0:=by omega
structure OL (l:List Obj):Prop where
 len:l.length≤1000
 obj: ∀o∈l,o.1.length≤1048576∧o.2.length≤10000
theorem qy3(d:Str): ∀(b a:List Obj),(a++b).length≤100000→
  (b.find? (fun o=>o.1==d)=none→qgl (((a.length:Int),(a++b,((a++b).length:Int))),d)=some (.inr d))∧
  (∀o,b.find? (fun o=>o.1==d)=some o→∃a' b',a++b=a'++o::b'∧qgl (((a.length:Int),(a++b,((a++b).length:Int))),d)=some (.inl ((a'.length:Int),d))):=by
 intro b
 induction b with
 |nil=>
  intro a hl
  rw [qv5]
  unfold qjw
  dsimp only
  rw [if_neg (by simp)]
  exact⟨(fun _=>rfl),(fun o h=>by cases h)⟩
 | cons x b ih =>
  intro a hl
  have hlen:(a++x::b).length=a.length+(b.length+1):=by simp
  have hw:w64 ((a.length:Int)+1)=((a.length+1:Nat):Int):=by rw [qh (by omega)];omega
  have ih:=ih (a++[x]) (by simp at hl ⊢;omega)
  rw [←jf] at ih
  have e1:((a++[x]).length:Int)=((a.length+1:Nat):Int):=by simp
  rw [e1] at ih
  rw [qv5]
  unfold qjw z41
  dsimp only
  simp only [Int.toNat_natCast,hw]
  rw [if_pos (by rw [decide_eq_true_eq];omega),if_pos (by omega),if_pos (by omega),jc,sb]
  cases hx:x.1==d with
  |true=>
   rw [if_pos rfl,List.find?_cons_of_pos (by exact hx)]
   refine⟨(fun h=>by cases h),fun o h=> ?_⟩
   injection h with h
   subst h
   exact⟨a,b,rfl,rfl⟩
  |false=>
   rw [if_neg (show¬(false=true) by decide),List.find?_cons_of_neg (by rw [hx];decide)]
   exact ih
theorem q4r{d x:Str}(hd:d.length≤1048576)(hx:x.length≤1048576): ∃r,z36 (d,x)=some r∧(r=0↔qco d x=true):=by
 unfold z36 qco
 dsimp only
 rw [jlj hd,sb]
 cases c:isD d with
 |false=>exact⟨6,rfl,by simp⟩
 | true =>
  rw [if_pos rfl,if_neg (show¬((0:Int) !=0)=true by decide),q9g (by omega),sb]
  by_cases e:sha x=unh (d.drop 7)
  ·rw [if_neg (by simp [e])]
   exact⟨0,rfl,by simp [e]⟩
  ·rw [if_pos (by simpa using e)]
   exact⟨10,rfl,by simp [e]⟩
theorem yg{l:List Obj}(hl:OL l)(d:Str):z1a (l,d)=some (fnd l d):=by
 have h:=qy3 d l [] (by rw [List.nil_append];have:=hl.len;omega)
 rw [List.nil_append] at h
 unfold z1a z1x fnd
 cases hf:l.find? (fun o=>o.1==d) with
 |none=>
  have h1:qgl (((0:Int),(l,(l.length:Int))),d)=_:=h.1 hf
  dsimp only
  rw [h1,sb]
  show(some ((-1:Int),d)>>=_)=_
  rw [sb,if_pos (show decide ((-1:Int)<0)=true by decide)]
 | some o =>
  obtain⟨a,b,e,h1⟩:=h.2 o hf
  have h1:qgl (((0:Int),(l,(l.length:Int))),d)=_:=h1
  have hm:o∈l:=by rw [e];simp
  obtain⟨o1,o2⟩:=hl.obj o hm
  have hd:o.1=d:=by
   have:=List.find?_some hf
   simpa using this
  obtain⟨r,g1,g2⟩:=q4r (d:=d) (x:=o.2) (by rw [←hd];omega) (by omega)
  have hll:l.length=a.length+(b.length+1):=by rw [e];simp
  dsimp only
  rw [h1,sb]
  show(some ((a.length:Int),d)>>=_)=_
  rw [sb]
  dsimp only
  have ee:elt (.pair .str .str) l (a.length:Int).toNat=o:=by
   rw [Int.toNat_natCast,e]
   exact jc (.pair .str .str) a o b
  rw [if_neg (by rw [decide_eq_true_eq];omega),if_pos (by omega),if_pos (by omega),ee,g1,sb]
  by_cases c:r=0
  ·rw [if_neg (by simp [c]),if_pos (by omega),if_pos (by omega),if_pos (g2.1 c)]
  ·rw [if_pos (by simpa using c),if_neg (fun h=>c (g2.2 h))]
theorem jjt(d:Str)(c:List Obj)(c1:List Str): ∀(b a c2:List Str),(a++b).length≤100000→c2.length+b.length≤1048576→
  qe7 (((a.length:Int),(a++b,(d,((a++b).length:Int)))),(c,(c1,c2)))=some (d,(c,(c1,qsg c2 b))):=by
 intro b
 induction b with
 |nil=>
  intro a c2 hl h2
  rw [qrc]
  unfold qd8
  dsimp only
  rw [if_neg (by simp)]
  rfl
 | cons x b ih =>
  intro a c2 hl h2
  have hlen:(a++x::b).length=a.length+(b.length+1):=by simp
  have hw:w64 ((a.length:Int)+1)=((a.length+1:Nat):Int):=by rw [qh (by omega)];omega
  have ih:=fun c2=>ih (a++[x]) c2 (by simp at hl ⊢;omega)
  rw [←jf] at ih
  have e1:((a++[x]).length:Int)=((a.length+1:Nat):Int):=by simp
  rw [e1] at ih
  simp only [List.length_cons] at h2
  rw [qrc]
  unfold qd8
  dsimp only
  simp only [Int.toNat_natCast,hw]
  rw [if_pos (by rw [decide_eq_true_eq];omega),if_pos (by omega),if_pos (by omega),jc,js (by omega),sb,qau]
  cases hc:c2.contains x with
  |true=>
   rw [if_neg (by decide),if_pos rfl]
   exact ih c2 (by omega)
  |false=>
   rw [if_pos (by decide),if_pos (by constructor <;>simp <;>omega),if_neg (by decide)]
   exact ih (c2++[x]) (by simp;omega)
theorem jgg(d:Str)(c:List Obj)(c1:List Str): ∀(b a c2:List Str),(a++b).length≤100000→c2.length+b.length≤1048576→
  qj1 (((a.length:Int),(a++b,(d,((a++b).length:Int)))),(c,(c1,c2)))=some (d,(c,(c1,qsg c2 b))):=by
 intro b
 induction b with
 |nil=>
  intro a c2 hl h2
  rw [qr5]
  unfold qd9
  dsimp only
  rw [if_neg (by simp)]
  rfl
 | cons x b ih =>
  intro a c2 hl h2
  have hlen:(a++x::b).length=a.length+(b.length+1):=by simp
  have hw:w64 ((a.length:Int)+1)=((a.length+1:Nat):Int):=by rw [qh (by omega)];omega
  have ih:=fun c2=>ih (a++[x]) c2 (by simp at hl ⊢;omega)
  rw [←jf] at ih
  have e1:((a++[x]).length:Int)=((a.length+1:Nat):Int):=by simp
  rw [e1] at ih
  simp only [List.length_cons] at h2
  rw [qr5]
  unfold qd9
  dsimp only
  simp only [Int.toNat_natCast,hw]
  rw [if_pos (by rw [decide_eq_true_eq];omega),if_pos (by omega),if_pos (by omega),jc,js (by omega),sb,qau]
  cases hc:c2.contains x with
  |true=>
   rw [if_neg (by decide),if_pos rfl]
   exact ih c2 (by omega)
  |false=>
   rw [if_pos (by decide),if_pos (by constructor <;>simp <;>omega),if_neg (by decide)]
   exact ih (c2++[x]) (by simp;omega)
def Wk(l:List Obj)(n:Nat):Prop:= ∀(d:Str) (w:WS),w.1.length+S n≤10000→w.2.length+9*S n≤100000→
  z0z ((d,5-(n:Int)),(l,w))=some ((wk l n d w).1,(l,(wk l n d w).2))
theorem jdc{l:List Obj}{n:Nat}(hn:n≤4)(hW:Wk l n)(k:Str)(w:WS)(h1:w.1.length+S n≤10000)(h2:w.2.length+9*S n≤100000):
  z0c (k,(4-(n:Int),(l,w)))=some (if w.1.contains k then(0,(4-(n:Int),(l,w))) else((wk l n k w).1,(4-(n:Int),(l,(wk l n k w).2)))):=by
 rw [jkw]
 unfold jhj
 obtain⟨ms,bs⟩:=w
 dsimp only at h1 h2 ⊢
 have hw:w64 (4-(n:Int)+1)=5-(n:Int):=by rw [qh (by omega)];omega
 rw [js (by omega),sb]
 cases hc:ms.contains k with
 |true=>rw [if_pos rfl,if_pos rfl]
 |false=>
  rw [if_neg (by decide),if_neg (by decide),hw,hW k (ms,bs) h1 h2,sb]
theorem jft{l:List Obj}{n:Nat}(hn:n≤4)(hW:Wk l n): ∀(b a:List Str) (w:WS),(a++b).length≤10000→w.1.length+b.length*S n≤10000→w.2.length+9*(b.length*S n)≤100000→
  yx (((a.length:Int),(a++b,((a++b).length:Int))),(4-(n:Int),(l,w)))=
   some (if(jw (wk l n) b w).1≠0 then .inl ((jw (wk l n) b w).1,(4-(n:Int),(l,(jw (wk l n) b w).2))) else .inr (4-(n:Int),(l,(jw (wk l n) b w).2))):=by
 intro b
 induction b with
 |nil=>
  intro a w hl h1 h2
  rw [qva]
  unfold qi0
  obtain⟨ms,bs⟩:=w
  dsimp only
  rw [if_neg (by simp)]
  rfl
 | cons x b ih =>
  intro a w hl h1 h2
  have hlen:(a++x::b).length=a.length+(b.length+1):=by simp
  have hw:w64 ((a.length:Int)+1)=((a.length+1:Nat):Int):=by rw [qh (by omega)];omega
  have ih:=fun w=>ih (a++[x]) w (by simp at hl ⊢;omega)
  rw [←jf] at ih
  have e1:((a++[x]).length:Int)=((a.length+1:Nat):Int):=by simp
  rw [e1] at ih
  have e:(x::b).length*S n=b.length*S n+S n:=by rw [List.length_cons,Nat.add_mul,Nat.one_mul]
  rw [e] at h1 h2
  have hb:=qbv l n x w
  have hnn:=jdc hn hW x w (by omega) (by omega)
  have ih1:=ih w (by omega) (by omega)
  have ih2:=ih (wk l n x w).2 (by omega) (by omega)
  rw [qva]
  unfold qi0
  obtain⟨ms,bs⟩:=w
  dsimp only at hnn ih1 ⊢
  simp only [Int.toNat_natCast,hw]
  rw [if_pos (by rw [decide_eq_true_eq];omega),if_pos (by omega),if_pos (by omega),jc,hnn,sb]
  unfold jw
  dsimp only
  cases hc:ms.contains x with
  |true=>
   rw [if_pos rfl,if_neg (show¬((0:Int) !=0)=true by decide),if_pos rfl]
   exact ih1
  | false =>
   rw [if_neg (show¬(false=true) by decide),if_neg (show¬(false=true) by decide)]
   dsimp only
   by_cases c:(wk l n x (ms,bs)).1=0
   ·rw [if_neg (by simp [c]), if_neg (show ¬ ((wk l n x (ms, bs)).1 ≠ 0) by simp [c])]
    exact ih2
   ·rw [if_pos (by simpa using c),if_pos (show(wk l n x (ms,bs)).1≠0 from c),if_pos c]
theorem jcm{l:List Obj}{n:Nat}(hn:n≤4)(hW:Wk l n): ∀(b a:List Str) (w:WS),(a++b).length≤10000→w.1.length+b.length*S n≤10000→w.2.length+9*(b.length*S n)≤100000→
  qr6 (((a.length:Int),(a++b,((a++b).length:Int))),(4-(n:Int),(l,w)))=
   some (if(jw (wk l n) b w).1≠0 then .inl ((jw (wk l n) b w).1,(4-(n:Int),(l,(jw (wk l n) b w).2))) else .inr (4-(n:Int),(l,(jw (wk l n) b w).2))):=by
 intro b
 induction b with
 |nil=>
  intro a w hl h1 h2
  rw [qwa]
  unfold qj2
  obtain⟨ms,bs⟩:=w
  dsimp only
  rw [if_neg (by simp)]
  rfl
 | cons x b ih =>
  intro a w hl h1 h2
  have hlen:(a++x::b).length=a.length+(b.length+1):=by simp
  have hw:w64 ((a.length:Int)+1)=((a.length+1:Nat):Int):=by rw [qh (by omega)];omega
  have ih:=fun w=>ih (a++[x]) w (by simp at hl ⊢;omega)
  rw [←jf] at ih
  have e1:((a++[x]).length:Int)=((a.length+1:Nat):Int):=by simp
  rw [e1] at ih
  have e:(x::b).length*S n=b.length*S n+S n:=by rw [List.length_cons,Nat.add_mul,Nat.one_mul]
  rw [e] at h1 h2
  have hb:=qbv l n x w
  have hnn:=jdc hn hW x w (by omega) (by omega)
  have ih1:=ih w (by omega) (by omega)
  have ih2:=ih (wk l n x w).2 (by omega) (by omega)
  rw [qwa]
  unfold qj2
  obtain⟨ms,bs⟩:=w
  dsimp only at hnn ih1 ⊢
  simp only [Int.toNat_natCast,hw]
  rw [if_pos (by rw [decide_eq_true_eq];omega),if_pos (by omega),if_pos (by omega),jc,hnn,sb]
  unfold jw
  dsimp only
  cases hc:ms.contains x with
  |true=>
   rw [if_pos rfl,if_neg (show¬((0:Int) !=0)=true by decide),if_pos rfl]
   exact ih1
  | false =>
   rw [if_neg (show¬(false=true) by decide),if_neg (show¬(false=true) by decide)]
   dsimp only
   by_cases c:(wk l n x (ms,bs)).1=0
   ·rw [if_neg (by simp [c]), if_neg (show ¬ ((wk l n x (ms, bs)).1 ≠ 0) by simp [c])]
    exact ih2
   ·rw [if_pos (by simpa using c),if_pos (show(wk l n x (ms,bs)).1≠0 from c),if_pos c]
theorem jiy{l:List Obj}(hl:OL l): ∀n,n≤4→Wk l n:=by
 intro n
 induction n with
 |zero=>
  intro _ d w h1 h2
  rw [je1]
  unfold je0
  obtain⟨ms,bs⟩:=w
  dsimp only
  rw [if_pos (by rw [decide_eq_true_eq];omega)]
  rfl
 | succ n ih =>
  intro hn d w h1 h2
  have hW:=ih (by omega)
  have ed:(5:Int)-((n+1:Nat):Int)=4-(n:Int):=by omega
  rw [ed,je1]
  unfold je0 wk
  have hS:S (n+1)=8*S n+1:=rfl
  rw [hS] at h1 h2
  by_cases c1:(fnd l d).2=0
  case neg=>
   obtain⟨ms,bs⟩:=w
   dsimp only
   rw [if_neg (by rw [decide_eq_true_eq];omega),yg hl,sb,if_pos (by simpa using c1),if_pos c1]
  by_cases c2:(pM (fnd l d).1).2=0
  case neg=>
   obtain⟨ms,bs⟩:=w
   dsimp only
   rw [if_neg (by rw [decide_eq_true_eq];omega),yg hl,sb,if_neg (by simp [c1]),if_neg (by simp [c1]),qow,sb,if_pos (by simpa using c2),if_pos c2]
  obtain⟨k1,k2,k3⟩:=qhm c2
  obtain⟨m1,m2,_⟩:=qox c2
  have h8:(pM (fnd l d).1).1.2.2.2.length*S n≤8*S n:=Nat.mul_le_mul_right _ k1
  have he:=jft (by omega) hW (pM (fnd l d).1).1.2.2.2 [] w (by rw [List.nil_append];omega) (by omega) (by omega)
  rw [List.nil_append] at he
  have hlen:=y7 (qbv l n) (pM (fnd l d).1).1.2.2.2 w
  generalize hr:jw (wk l n) (pM (fnd l d).1).1.2.2.2 w=r at he hlen ⊢
  have hd:z0r ((pM (fnd l d).1).1.2.2.2,(4-(n:Int),(l,w)))=some (r.1,(4-(n:Int),(l,r.2))):=by
   have he:yx (((0:Int),((pM (fnd l d).1).1.2.2.2,((pM (fnd l d).1).1.2.2.2.length:Int))),(4-(n:Int),(l,w)))=_:=he
   rw [jk3]
   unfold jhl
   obtain⟨ms,bs⟩:=w
   dsimp only at he ⊢
   rw [he,sb]
   by_cases c3:r.1=0
   ·rw [if_neg (by simp [c3]),c3];rfl
   ·rw [if_pos c3];rfl
  obtain⟨ms,bs⟩:=w
  dsimp only at hd ⊢
  rw [if_neg (by rw [decide_eq_true_eq];omega),yg hl,sb,if_neg (by simp [c1]),if_neg (by simp [c1]),qow,sb,if_neg (by simp [c2]),if_neg (by simp [c2]),hd,sb]
  by_cases c3:r.1=0
  ·have hl19 := jjt d l r.2.1 (q6 (pM (fnd l d).1).1) [] r.2.2 (by rw [List.nil_append]; omega) (by omega)
   rw [List.nil_append] at hl19
   have hl19:qe7 (((0:Int),(q6 (pM (fnd l d).1).1,(d,((q6 (pM (fnd l d).1).1).length:Int)))),(l,r.2))=_:=hl19
   rw [if_neg (by simp [c3]),if_neg (by simp [c3]),q4n m1,sb]
   dsimp only
   rw [hl19,sb]
   dsimp only
   rw [if_pos (by constructor <;>simp <;>omega)]
  ·rw [if_pos (by simpa using c3),if_pos c3]
theorem jlr{l:List Obj}(hl:OL l)(d:Str):z25 ((d,(1:Int)),l)=some ((wk l 4 d ([],[])).1,(l,(wk l 4 d ([],[])).2)):=by
 have hW:=jiy hl 3 (by omega)
 unfold z25 wk
 dsimp only
 have s3:S 3=73:=rfl
 by_cases c1:(fnd l d).2=0
 case neg=>
  rw [if_neg (by decide),yg hl,sb,if_pos (by simpa using c1),if_pos c1]
 by_cases c2:(pM (fnd l d).1).2=0
 case neg=>
  rw [if_neg (by decide),yg hl,sb,if_neg (by simp [c1]),if_neg (by simp [c1]),qow,sb,if_pos (by simpa using c2),if_pos c2]
 obtain⟨k1,k2,k3⟩:=qhm c2
 obtain⟨m1,m2,_⟩:=qox c2
 have h8:(pM (fnd l d).1).1.2.2.2.length*S 3≤8*S 3:=Nat.mul_le_mul_right _ k1
 have he:=jcm (by omega) hW (pM (fnd l d).1).1.2.2.2 [] (([],[]):WS) (by rw [List.nil_append];omega) (by simp only [List.length_nil];omega) (by simp only [List.length_nil];omega)
 rw [List.nil_append] at he
 have hlen:=y7 (qbv l 3) (pM (fnd l d).1).1.2.2.2 (([],[]):WS)
 generalize hr:jw (wk l 3) (pM (fnd l d).1).1.2.2.2 (([],[]):WS)=r at he hlen ⊢
 simp only [List.length_nil] at hlen
 have hd:z26 ((pM (fnd l d).1).1.2.2.2,((1:Int),l))=some (r.1,((1:Int),(l,r.2))):=by
  have he:qr6 (((0:Int),((pM (fnd l d).1).1.2.2.2,((pM (fnd l d).1).1.2.2.2.length:Int))),((1:Int),(l,([],[]))))=some (if r.1≠0 then .inl (r.1,((1:Int),(l,r.2))) else .inr ((1:Int),(l,r.2))):=he
  unfold z26
  dsimp only
  rw [he,sb]
  by_cases c3:r.1=0
  ·rw [if_neg (by simp [c3]),c3];rfl
  ·rw [if_pos c3];rfl
 rw [if_neg (by decide),yg hl,sb,if_neg (by simp [c1]),if_neg (by simp [c1]),qow,sb,if_neg (by simp [c2]),if_neg (by simp [c2]),hd,sb]
 by_cases c3:r.1=0
 ·have hl19 := jgg d l r.2.1 (q6 (pM (fnd l d).1).1) [] r.2.2 (by rw [List.nil_append]; omega) (by omega)
  rw [List.nil_append] at hl19
  have hl19:qj1 (((0:Int),(q6 (pM (fnd l d).1).1,(d,((q6 (pM (fnd l d).1).1).length:Int)))),(l,r.2))=_:=hl19
  rw [if_neg (by simp [c3]),if_neg (by simp [c3]),q4n m1,sb]
  dsimp only
  rw [hl19,sb]
  dsimp only
  rw [if_pos (by constructor <;>simp <;>omega)]
 ·rw [if_pos (by simpa using c3),if_pos c3]
noncomputable def ofM(l:List Obj)(d:Str):WS×Int:=if(wk l 4 d ([],[])).1≠0 then(([],[]),(wk l 4 d ([],[])).1) else((wk l 4 d ([],[])).2,0)
theorem q9f{l:List Obj}(hl:OL l)(d:Str):z38 (l,d)=some (ofM l d):=by
 unfold z38 ofM
 dsimp only
 rw [jlr hl,sb]
 dsimp only
 by_cases c:(wk l 4 d ([],[])).1=0
 ·rw [if_neg (by simp [c]),if_neg (by simp [c])]
 ·rw [if_pos (by simpa using c),if_pos c]
def whB(l:List Obj):List Str→Int
 |[]=>0
 |b::r=>if(fnd l b).2≠0 then(fnd l b).2 else whB l r
noncomputable def whole(l:List Obj)(d:Str):Int:=if(ofM l d).2≠0 then(ofM l d).2 else whB l (ofM l d).1.2
end Go.Plain
namespace Go.Plain
open Go.AM
set_option linter.unusedVariables false
def k7:Str:=wh [99]
def kr:Str:=[123,34,99,111,110,102,105,103,34,58,34]++k7++[34,44,34,107,105,110,100,34,58,34,105,109,97,103,101,34,44,34,108,97,121,101,114,115,34,58,91,93,125]
theorem qtz:(wh kr==k7)=false:=by decide +kernel
theorem q3k:okM ((false,(k7,([],[]))):Man)=true:=by
 have:=qcl [99]
 unfold okM
 rw [if_neg (by decide)]
 simp [k7,this]
theorem qx2:MB ((false,(k7,([],[]))):Man):=by
 have:=qbk (qcl [99])
 exact⟨by show k7.length≤5000;unfold k7;omega,by simp,(fun _ h=>by cases h),by simp,fun _ h=>by cases h⟩
theorem q5o:txt (val ((false,(k7,([],[]))):Man))=kr:=by
 rw [qk0 rfl]
 simp [jr,kr]
theorem jf1(d:Str):fnd [] d=([],9):=rfl
theorem qg3(o:Obj)(l:List Obj)(d:Str):fnd (o::l) d=if(o.1==d)=true then(if qco d o.2 then(o.2,0) else([],10)) else fnd l d:=by
 unfold fnd
 by_cases h:(o.1==d)=true
 ·rw [List.find?_cons_of_pos (p:=fun o:Obj=>o.1==d) h,if_pos h]
 ·rw [List.find?_cons_of_neg (p:=fun o:Obj=>o.1==d) h,if_neg h]
end Go.Plain
namespace Go.Plain
open Go.AM
set_option linter.unusedVariables false
def jct(l:List Obj)(x:Str):Prop:=(fnd l x).2=0∧(pM (fnd l x).1).2=0
noncomputable def kd(l:List Obj)(x:Str):List Str:=(pM (fnd l x).1).1.2.2.2
noncomputable def bl(l:List Obj)(x:Str):List Str:=q6 (pM (fnd l x).1).1
def Gr(l:List Obj):Nat→Str→Prop
 |0,_=>False
 |n+1,x=>jct l x∧∀k∈kd l x,Gr l n k
inductive Rch (l:List Obj):Str→Str→Prop where
 |refl (x:Str):Rch l x x
 |step (x y z:Str) (h:y∈kd l x) (h2:Rch l y z):Rch l x z
structure Inv (l:List Obj) (w:WS):Prop where
 ord: ∀a x b,w.1=a++x::b→jct l x∧(∀k∈kd l x,k∈a)∧∀y∈bl l x,y∈w.2
 nd:w.1.Nodup
 nb:w.2.Nodup
 gr: ∀x∈w.1,∃n,Gr l n x
structure Ends (l:List Obj) (d:Str) (w w':WS):Prop where
 inv:Inv l w'
 has:d∈w'.1
 ext: ∃t,w'.1=w.1++t∧∀y∈t,Rch l d y
 blb: ∀y∈w.2,y∈w'.2
structure EndsL (l:List Obj) (ks:List Str) (w w':WS):Prop where
 inv:Inv l w'
 has: ∀k∈ks,k∈w'.1
 ext: ∃t,w'.1=w.1++t∧∀y∈t,∃k∈ks,Rch l k y
 blb: ∀y∈w.2,y∈w'.2
end Go.Plain
namespace Go.Plain
open Go.AM
set_option linter.unusedVariables false
end Go.Plain
namespace Go.Plain
open Go.AM
set_option linter.unusedVariables false
theorem p31{i:Nat}(h:i≤31):2^i≤2147483648:=Nat.le_trans (Nat.pow_le_pow_right (show 2>0 by decide) h) (by decide)
theorem q39(X:Int)(n:Nat)(hn:n≤31): ∀(k i:Nat),i+k=n→qqm ((i:Int),(((2^i:Nat):Int),(X,(n:Int))))=some (((2^n:Nat):Int),(X,(n:Int))):=by
 intro k
 induction k with
 |zero=>
  intro i hi
  obtain rfl:i=n:=by omega
  rw [quy]
  unfold qij
  dsimp only
  rw [if_neg (by rw [decide_eq_true_eq];omega)]
 | succ k ih =>
  intro i hi
  have hw:w64 ((i:Int)+1)=((i+1:Nat):Int):=by rw [qh (by omega)];omega
  have hp:=p31 (show i+1≤31 by omega)
  have hs:2^(i+1)=2*2^i:=by rw [Nat.pow_succ,Nat.mul_comm]
  have h2:IntKind.wrap .u32 ((2:Int)*((2^i:Nat):Int))=((2^(i+1):Nat):Int):=by
   rw [show(2:Int)*((2^i:Nat):Int)=((2^(i+1):Nat):Int) by rw [hs,Int.natCast_mul];rfl,wc (by omega)]
  rw [quy]
  unfold qij
  dsimp only
  rw [if_pos (by rw [decide_eq_true_eq];omega),hw,h2]
  exact ih (i+1) (by omega)
theorem q1u(p X:Int)(n:Nat)(h1:1≤n): ∀(k i:Nat),n≤i→i+k=32→qii ((i:Int),(((2^(i-n):Nat):Int),(p,X)))=some (((2^(32-n):Nat):Int),(p,X)):=by
 intro k
 induction k with
 |zero=>
  intro i hn hi
  obtain rfl:i=32:=by omega
  rw [qql]
  unfold qdv
  dsimp only
  rw [if_neg (by decide)]
 | succ k ih =>
  intro i hn hi
  have hw:w64 ((i:Int)+1)=((i+1:Nat):Int):=by rw [qh (by omega)];omega
  have hp:=p31 (show i-n+1≤31 by omega)
  have hs:2^(i-n+1)=2*2^(i-n):=by rw [Nat.pow_succ,Nat.mul_comm]
  have h2:IntKind.wrap .u32 ((2:Int)*((2^(i-n):Nat):Int))=((2^(i+1-n):Nat):Int):=by
   rw [show i+1-n=i-n+1 by omega,show(2:Int)*((2^(i-n):Nat):Int)=((2^(i-n+1):Nat):Int) by rw [hs,Int.natCast_mul];rfl,wc (by omega)]
  rw [qql]
  unfold qdv
  dsimp only
  rw [if_pos (by rw [decide_eq_true_eq];omega),hw,h2]
  exact ih (i+1) (by omega) (by omega)
theorem ql3(a b:Nat):Int.tdiv (a:Int) (b:Int)=((a / b:Nat):Int):=by rw [Int.tdiv_eq_ediv_of_nonneg (by omega)];rfl
theorem q1t(a b:Nat):Int.tmod (a:Int) (b:Int)=((a%b:Nat):Int):=by rw [Int.tmod_eq_emod_of_nonneg (by omega)];rfl
theorem zl{x n:Nat}(hx:x<4294967296)(h1:1≤n)(hn:n≤31):z0d ((x:Int),(n:Int))=some ((rot x n:Nat):Int):=by
 unfold z0d
 dsimp only
 have e1:=q39 (x:Int) n hn n 0 (by omega)
 have e1:qqm ((0:Int),((1:Int),((x:Int),(n:Int))))=_:=e1
 have e2:=q1u ((2^n:Nat):Int) (x:Int) n h1 (32-n) n (by omega) (by omega)
 rw [Nat.sub_self] at e2
 have e2:qii ((n:Int),((1:Int),(((2^n:Nat):Int),(x:Int))))=_:=e2
 rw [e1,sb]
 dsimp only
 rw [e2,sb]
 dsimp only
 have hp:0<2^n:=Nat.two_pow_pos n
 have hr:=jz hx (show n≤32 by omega)
 have hd:x / 2^n≤x:=Nat.div_le_self _ _
 have hrot:rot x n=x / 2^n+x%2^n*2^(32-n):=rfl
 have hA:x%2^n*2^(32-n)<4294967296:=Nat.lt_of_le_of_lt (Nat.le_add_left _ _) (hrot▸hr)
 rw [if_pos (by omega),if_pos (by omega),ql3,q1t,←Int.natCast_mul,wc (Nat.lt_of_le_of_lt hd hx),wc hA,ye,←hrot,Nat.mod_eq_of_lt hr]
theorem yf(t:Nat)(ht:t<16){s:Str}(hs:s.length=64)(keys h c:List Int){i x:Nat}(hi:i<4)(hx:x<16777216):
  qeu (((i:Int),((t:Int),(s,((x:Int),(keys,h))))),c)=qeu ((((i+1:Nat):Int),((t:Int),(s,(((256*x+(s.getD (4*t+i) 0).toNat:Nat):Int),(keys,h))))),c):=by
 have hb:=UInt8.toNat_lt (s.getD (4*t+i) 0)
 have hw:w64 ((i:Int)+1)=((i+1:Nat):Int):=by rw [qh (by omega)];omega
 have hw4:w64 ((4:Int)*(t:Int))=((4*t:Nat):Int):=by rw [qh (by omega)];omega
 have hwi:w64 (((4*t:Nat):Int)+(i:Int))=((4*t+i:Nat):Int):=by rw [qh (by omega)];omega
 have h256:IntKind.wrap .u32 ((256:Int)*(x:Int))=((256*x:Nat):Int):=by rw [show(256:Int)*(x:Int)=((256*x:Nat):Int) by omega,wc (by omega)]
 conv=>lhs;rw [qpu]
 unfold qdc
 dsimp only
 rw [hw,hw4,hwi,h256,q2s,wc (by omega),ye,Nat.mod_eq_of_lt (by omega),if_pos (by rw [decide_eq_true_eq];omega),if_pos (by omega),if_pos (by omega)]
theorem qwg(t:Nat)(ht:t<16){s:Str}(hs:s.length=64)(keys h c:List Int):
  qeu (((0:Int),((t:Int),(s,((0:Int),(keys,h))))),c)=some ((s,(keys,(h,((t:Int),((qgo s t:Nat):Int))))),c):=by
 have b0:=UInt8.toNat_lt (s.getD (4*t+0) 0)
 have b1:=UInt8.toNat_lt (s.getD (4*t+1) 0)
 have b2:=UInt8.toNat_lt (s.getD (4*t+2) 0)
 have s0:=yf t ht hs keys h c (i:=0) (x:=0) (by decide) (by decide)
 have s1:=yf t ht hs keys h c (i:=1) (x:=256*0+(s.getD (4*t+0) 0).toNat) (by decide) (by omega)
 have s2:=yf t ht hs keys h c (i:=2) (x:=256*(256*0+(s.getD (4*t+0) 0).toNat)+(s.getD (4*t+1) 0).toNat) (by decide) (by omega)
 have s3:=yf t ht hs keys h c (i:=3) (x:=256*(256*(256*0+(s.getD (4*t+0) 0).toNat)+(s.getD (4*t+1) 0).toNat)+(s.getD (4*t+2) 0).toNat) (by decide) (by omega)
 refine s0.trans (s1.trans (s2.trans (s3.trans ?_)))
 rw [qpu]
 unfold qdc
 dsimp only
 rw [if_neg (by decide)]
 have e:256*(256*(256*(256*0+(s.getD (4*t+0) 0).toNat)+(s.getD (4*t+1) 0).toNat)+(s.getD (4*t+2) 0).toNat)+(s.getD (4*t+3) 0).toNat=qgo s t:=by
  unfold qgo
  rw [Nat.mul_zero,Nat.zero_add,Nat.add_zero]
 rw [e]
theorem jp0(W:List Nat)(x:Int)(h:W.length≤100000):qi ((zs W).length+[x].length) 4:=by
 rw [qea];constructor <;>simp <;>omega
theorem qy1{s:Str}(hs:s.length=64)(keys h:List Int): ∀(n t:Nat) (W:List Nat),t+n=16→W.length=t→
  qpy (((t:Int),(s,(keys,h))),zs W)=some ((keys,h),zs (sch s n W)):=by
 intro n
 induction n with
 |zero=>
  intro t W ht hW
  rw [qus]
  unfold qh8
  dsimp only
  rw [if_neg (by rw [decide_eq_true_eq];omega)]
  rfl
 |succ n ih=>
  intro t W ht hW
  have hw:w64 ((t:Int)+1)=((t+1:Nat):Int):=by rw [qh (by omega)];omega
  rw [qus]
  unfold qh8
  dsimp only
  rw [if_pos (by rw [decide_eq_true_eq];omega),qwg t (by omega) hs,sb]
  dsimp only
  rw [if_pos (jp0 W _ (by omega)),hw,←qyz]
  have e:W++[qgo s t]=u6 s W:=by unfold u6;rw [if_pos (by omega),hW]
  rw [e]
  exact ih (t+1) (u6 s W) (by omega) (by rw [qh1];omega)
theorem qwh(s:Str)(keys h:List Int): ∀(n t:Nat) (W:List Nat),t+n=64→16≤t→W.length=t→(∀x∈W,x<4294967296)→
  qh6 (((t:Int),(keys,h)),zs W)=some ((keys,h),zs (sch s n W)):=by
 intro n
 induction n with
 |zero=>
  intro t W ht h16 hW hx
  rw [qpv]
  unfold qdd
  dsimp only
  rw [if_neg (by rw [decide_eq_true_eq];omega)]
  rfl
 | succ n ih =>
  intro t W ht h16 hW hx
  have hw:w64 ((t:Int)+1)=((t+1:Nat):Int):=by rw [qh (by omega)];omega
  have w2:w64 ((t:Int)-2)=((t-2:Nat):Int):=by rw [qh (by omega)];omega
  have w7:w64 ((t:Int)-7)=((t-7:Nat):Int):=by rw [qh (by omega)];omega
  have w15:w64 ((t:Int)-15)=((t-15:Nat):Int):=by rw [qh (by omega)];omega
  have w16:w64 ((t:Int)-16)=((t-16:Nat):Int):=by rw [qh (by omega)];omega
  have x2:=qej W (show t-2<W.length by omega)
  have x7:=qej W (show t-7<W.length by omega)
  have x15:=qej W (show t-15<W.length by omega)
  have x16:=qej W (show t-16<W.length by omega)
  have l2:=qmv hx (t-2)
  have l15:=qmv hx (t-15)
  have hzl:(zs W).length=t:=by rw [qea,hW]
  have t1:z0d (((W.getD (t-15) 0:Nat):Int),(7:Int))=_:=zl l15 (n:=7) (by decide) (by decide)
  have t2:z0d (((W.getD (t-15) 0:Nat):Int),(18:Int))=_:=zl l15 (n:=18) (by decide) (by decide)
  have t3:z0d (((W.getD (t-2) 0:Nat):Int),(17:Int))=_:=zl l2 (n:=17) (by decide) (by decide)
  have t4:z0d (((W.getD (t-2) 0:Nat):Int),(19:Int))=_:=zl l2 (n:=19) (by decide) (by decide)
  have d2:Int.tdiv ((W.getD (t-2) 0:Nat):Int) (1024:Int)=_:=ql3 (W.getD (t-2) 0) 1024
  have d15:Int.tdiv ((W.getD (t-15) 0:Nat):Int) (8:Int)=_:=ql3 (W.getD (t-15) 0) 8
  have e:W++[ji1 (W.getD (t-16) 0) (jda (W.getD (t-2) 0) (W.getD (t-7) 0) (W.getD (t-15) 0) 0)]=u6 s W:=by unfold u6;rw [if_neg (by omega),hW]
  have ih:=ih (t+1) (u6 s W) (by omega) (by omega) (by rw [qh1];omega) (qyn hx)
  rw [←e,qyz] at ih
  rw [qpv]
  unfold qdd
  dsimp only
  simp only [w2,w7,w15,w16,hw,Int.toNat_natCast,x2,x7,x15,x16]
  rw [if_pos (by rw [decide_eq_true_eq];omega)]
  iterate 6 rw [if_pos (by omega)]
  rw [t1,sb,t2,sb,t3,sb,t4,sb]
  iterate 6 rw [if_pos (by omega)]
  rw [d2,d15,wc (show W.getD (t-2) 0 / 1024<4294967296 by omega),wc (show W.getD (t-15) 0 / 8<4294967296 by omega),
   wj (jz l2 (by decide)) (jz l2 (by decide)),wj (qbw (jz l2 (by decide)) (jz l2 (by decide))) (by omega),
   wj (jz l15 (by decide)) (jz l15 (by decide)),wj (qbw (jz l15 (by decide)) (jz l15 (by decide))) (by omega),ye,ye,ye,if_pos (jp0 W _ (by omega))]
  have e3:sch s (n+1) W=sch s n (u6 s W):=by conv=>lhs;unfold sch
  rw [e3,←e]
  exact ih
theorem jhc{v:V8}(hv:lt8 v)(k w:Nat):z3v (lst v,((k:Int),(w:Int)))=some (lst (que k w v)):=by
 obtain⟨a,b,c,d,e,f,g,h⟩:=v
 obtain⟨h1,h2,h3,h4,h5,h6,h7,h8⟩:=hv
 dsimp only at h1 h2 h3 h4 h5 h6 h7 h8
 have t1:z0d ((e:Int),(6:Int))=_:=zl h5 (n:=6) (by decide) (by decide)
 have t2:z0d ((e:Int),(11:Int))=_:=zl h5 (n:=11) (by decide) (by decide)
 have t3:z0d ((e:Int),(25:Int))=_:=zl h5 (n:=25) (by decide) (by decide)
 have t4:z0d ((a:Int),(2:Int))=_:=zl h1 (n:=2) (by decide) (by decide)
 have t5:z0d ((a:Int),(13:Int))=_:=zl h1 (n:=13) (by decide) (by decide)
 have t6:z0d ((a:Int),(22:Int))=_:=zl h1 (n:=22) (by decide) (by decide)
 have hne:IntKind.wrap .u32 ((4294967295:Int)-(e:Int))=vg .u32 (4294967295:Int) (e:Int):=by
  rw [jin h5,show(4294967295:Int)-(e:Int)=((4294967295-e:Nat):Int) by omega,wc (by omega)]
 unfold z3v lst que
 dsimp only
 simp only [qwx,qwy,qwz,qw0,qw1,qw2,qw3,qw4]
 rw [if_pos (by simp),if_pos (by simp),t1,sb,t2,sb,t3,sb,if_pos (by simp),if_pos (by simp),if_pos (by simp),t4,sb,t5,sb,t6,sb]
 iterate 9 rw [if_pos (by simp)]
 have m2:vg .u32 (vg .u32 ((rot e 6:Nat):Int) ((rot e 11:Nat):Int)) ((rot e 25:Nat):Int)=(((rot e 6^^^rot e 11)^^^rot e 25:Nat):Int):=by
  rw [wj (jz h5 (by decide)) (jz h5 (by decide)),wj (qbw (jz h5 (by decide)) (jz h5 (by decide))) (jz h5 (by decide))]
 have m0:vg .u32 (vg .u32 ((rot a 2:Nat):Int) ((rot a 13:Nat):Int)) ((rot a 22:Nat):Int)=(((rot a 2^^^rot a 13)^^^rot a 22:Nat):Int):=by
  rw [wj (jz h1 (by decide)) (jz h1 (by decide)),wj (qbw (jz h1 (by decide)) (jz h1 (by decide))) (jz h1 (by decide))]
 have hmaj:vg .u32 (vg .u32 (yy .u32 (a:Int) (b:Int)) (yy .u32 (a:Int) (c:Int))) (yy .u32 (b:Int) (c:Int))=((jc6 a b c:Nat):Int):=by
  rw [qcq h1 h2,qcq h1 h3,qcq h2 h3,wj (y4 h2) (y4 h3),wj (qbw (y4 h2) (y4 h3)) (y4 h3)]
  rfl
 rw [hne,m2,m0,hmaj,jir h5 h6 h7,ye,ye,ye]
 have e2:((t1W e f g h k w+((rot a 2^^^rot a 13)^^^rot a 22))%4294967296+jc6 a b c)%4294967296=(t1W e f g h k w+t2W a b c)%4294967296:=by
  have:t2W a b c=(((rot a 2^^^rot a 13)^^^rot a 22)+jc6 a b c)%4294967296:=rfl
  rw [this]
  generalize t1W e f g h k w=x
  generalize ((rot a 2^^^rot a 13)^^^rot a 22)=y
  generalize jc6 a b c=z
  omega
 rw [e2]
theorem jfa:z3u ()=some jh:=by
 unfold z3u
 rfl
theorem qwi(h:List Int){W:List Nat}(hW:W.length=64): ∀(n i:Nat) (v:V8),i+n=64→lt8 v→
  qh7 (((i:Int),(jh,(lst v,h))),zs W)=some (lst (qgd W n i v),h):=by
 intro n
 induction n with
 |zero=>
  intro i v hi hv
  rw [qpw]
  unfold qde
  dsimp only
  rw [if_neg (by rw [decide_eq_true_eq];omega)]
  rfl
 |succ n ih=>
  intro i v hi hv
  have hw:w64 ((i:Int)+1)=((i+1:Nat):Int):=by rw [qh (by omega)];omega
  obtain⟨hk1,hk2⟩:=q5d (show i<64 by omega)
  have hz:=qej W (show i<W.length by omega)
  have hzl:(zs W).length=64:=by rw [qea,hW]
  have hkl:=q0c
  rw [qpw]
  unfold qde
  dsimp only
  simp only [Int.toNat_natCast,hw]
  rw [if_pos (by rw [decide_eq_true_eq];omega)]
  iterate 5 rw [if_pos (by omega)]
  rw [hk1,hz,jhc hv,sb,ql2]
  exact ih (i+1) _ (by omega) (q1m hv)
theorem qcd(u v:V8){c:List Int}(hc:c.length≤100){i:Nat}(hi:i<8):
  qbx (((i:Int),(lst v,lst u)),c)=qbx ((((i+1:Nat):Int),(lst v,lst u)),c++[IntKind.wrap .u32 (elt (.int .u32) (lst u) i+elt (.int .u32) (lst v) i)]):=by
 have hw:w64 ((i:Int)+1)=((i+1:Nat):Int):=by rw [qh (by omega)];omega
 have l1:(lst u).length=8:=by simp [lst]
 have l2:(lst v).length=8:=by simp [lst]
 conv=>lhs;rw [qpx]
 unfold qdf
 dsimp only
 simp only [Int.toNat_natCast,hw]
 rw [if_pos (by rw [decide_eq_true_eq];omega)]
 iterate 4 rw [if_pos (by omega)]
 rw [if_pos (by constructor <;>simp <;>omega)]
theorem qwj(u v:V8):qbx (((0:Int),(lst v,lst u)),[])=some (lst (q6b u v)):=by
 have s0:=qcd u v (c:=[]) (by simp) (i:=0) (by decide)
 have s0:qbx (((0:Int),(lst v,lst u)),[])=_:=s0
 rw [s0]
 iterate 7 rw [qcd u v (by simp) (by decide)]
 rw [qpx]
 unfold qdf
 dsimp only
 rw [if_neg (by decide)]
 obtain⟨a,b,c,d,e,f,g,h⟩:=u
 obtain⟨a',b',c',d',e',f',g',h'⟩:=v
 unfold lst q6b
 simp only [Nat.reduceAdd,List.nil_append,List.cons_append,qwx,qwy,qwz,qw0,qw1,qw2,qw3,qw4,ye]
theorem q9b{v:V8}(hv:lt8 v){s:Str}(hs:s.length=64):z01 (lst v,(jh,s))=some (lst (qlz v s)):=by
 unfold z01
 dsimp only
 have h1:qpy (((0:Int),(s,(jh,lst v))),[])=_:=qy1 hs jh (lst v) 16 0 [] (by omega) rfl
 have hl:(sch s 16 []).length=16:=qm5 s 16 []
 have h2:qh6 (((16:Int),(jh,lst v)),zs (sch s 16 []))=_:=qwh s jh (lst v) 48 16 (sch s 16 []) (by omega) (by omega) hl (q30 16 (fun _ h=>by cases h))
 have e:sch s 48 (sch s 16 [])=sch s 64 []:=(q5t s 16 48 []).symm
 rw [e] at h2
 have h3:qh7 (((0:Int),(jh,(lst v,lst v))),zs (sch s 64 []))=_:=qwi (lst v) (qm5 s 64 []) 64 0 v rfl hv
 rw [h1,sb,h2,sb]
 dsimp only
 rw [h3,sb,qwj,sb]
 rfl
theorem q1j{s p:Str}(hp: ∀i,i<64→p.getD i 0=s.getD i 0): ∀(n:Nat) (W:List Nat),sch p n W=sch s n W
 |0,W=>rfl
 | n + 1, W => by
  have e:u6 p W=u6 s W:=by
   unfold u6
   by_cases h:W.length<16
   ·rw [if_pos h, if_pos h]
    unfold qgo
    rw [hp _ (by omega),hp _ (by omega),hp _ (by omega),hp _ (by omega)]
   ·rw [if_neg h,if_neg h]
  have e1:sch p (n+1) W=sch p n (u6 p W):=by conv=>lhs;unfold sch
  have e2:sch s (n+1) W=sch s n (u6 s W):=by conv=>lhs;unfold sch
  rw [e1,e2,e]
  exact q1j hp n _
theorem q3q(v:V8)(s:Str):qlz v (s.take 64)=qlz v s:=by
 unfold qlz
 rw [q1j (s:=s) (p:=s.take 64) fun i hi=>by
  rw [List.getD_eq_getElem?_getD,List.getD_eq_getElem?_getD,List.getElem?_take,if_pos hi]]
theorem q3v(m:Int): ∀(k:Nat) (c:List Int),c.length+k≤1000000000→k<64→(c.length+k)%64=56→qp5 (m,c)=some (m,c++List.replicate k 0):=by
 intro k
 induction k with
 |zero=>
  intro s hs hk hm
  rw [qut]
  unfold qh9
  dsimp only
  have:Int.tmod (s.length:Int) 64=56:=by rw [Int.tmod_eq_emod_of_nonneg (by omega)];omega
  rw [if_neg (by rw [this];decide),List.replicate_zero,List.append_nil]
 |succ k ih=>
  intro s hs hk hm
  rw [qut]
  unfold qh9
  dsimp only
  have:Int.tmod (s.length:Int) 64≠56:=by rw [Int.tmod_eq_emod_of_nonneg (by omega)];omega
  have hl1:(s++[(0:Int)]).length=s.length+1:=by simp
  rw [if_pos (by simpa using this),if_pos (by constructor <;>simp <;>omega),ih (s++[(0:Int)]) (by omega) (by omega) (by omega),List.replicate_succ,List.append_assoc]
  rfl
def pw:Nat→Nat
 |0=>0
 |n+1=>2^(8*n)
theorem jg2(n:Nat):2^(8*n) / 256=pw n:=by
 cases n with
 |zero=>decide
 |succ n=>
  show 2^(8*(n+1)) / 256=2^(8*n)
  rw [show 8*(n+1)=8*n+8 by omega,Nat.pow_add,show 2^8=256 by decide,Nat.mul_div_cancel _ (by decide)]
theorem u8N(n:Nat):IntKind.wrap .u8 ((n%256:Nat):Int)=((UInt8.ofNat n).toNat:Int):=by
 rw [wr8 (by omega),UInt8.toNat_ofNat']
theorem q04{m:Nat}(hm:m<18446744073709551616): ∀(n i:Nat) (c:List Int),i+n=8→c.length+n≤1000000000→
  qev (((i:Int),(((pw n:Nat):Int),(m:Int))),c)=some (c++qj (qzr m n)):=by
 intro n
 induction n with
 |zero=>
  intro i c hi hc
  rw [qp2]
  unfold qdj
  dsimp only
  rw [if_neg (by rw [decide_eq_true_eq];omega)]
  show some c=some (c++[])
  rw [List.append_nil]
 |succ n ih=>
  intro i c hi hc
  have hw:w64 ((i:Int)+1)=((i+1:Nat):Int):=by rw [qh (by omega)];omega
  have hpos:0<2^(8*n):=Nat.two_pow_pos _
  have hle:2^(8*n)≤2^56:=Nat.pow_le_pow_right (show 2>0 by decide) (by omega)
  have hd:m / 2^(8*n)≤m:=Nat.div_le_self _ _
  have hpn:pw (n+1)=2^(8*n):=rfl
  have hps:=jg2 n
  have hpl:pw n≤2^56:=by rw [←hps];exact Nat.le_trans (Nat.div_le_self _ _) hle
  have w1: ∀x:Nat,x<18446744073709551616→IntKind.wrap .u64 (x:Int)=(x:Int):=fun x hx=>by show(x:Int)%18446744073709551616=_;omega
  have wA:=w1 (m / 2^(8*n)) (by omega)
  have wB:=w1 (pw n) (by omega)
  have d256:Int.tdiv ((2^(8*n):Nat):Int) (256:Int)=_:=ql3 (2^(8*n)) 256
  have m256:Int.tmod ((m / 2^(8*n):Nat):Int) (256:Int)=_:=q1t (m / 2^(8*n)) 256
  rw [qp2]
  unfold qdj
  dsimp only
  rw [hpn,if_pos (by rw [decide_eq_true_eq];omega),if_pos (by omega),if_pos (by constructor <;>simp <;>omega),hw,ql3 m (2^(8*n)),wA,m256,u8N,d256,hps,wB,ih (i+1) _ (by omega) (by simp;omega),List.append_assoc]
  rfl
theorem q05{c:List Int}(P:Str)(hc:c=qj P)(hP:P.length≤1000000000): ∀(n j:Nat) (v:V8),P.length=64*(j+n)→lt8 v→
  qew ((((64*j:Nat):Int),(jh,lst v)),c)=some (lst (xl n (P.drop (64*j)) v)):=by
 have hcl:c.length=P.length:=by rw [hc,gq]
 intro n
 induction n with
 |zero=>
  intro j v hj hv
  rw [qp3]
  unfold qdk
  dsimp only
  rw [if_neg (by rw [decide_eq_true_eq];omega)]
  rfl
 | succ n ih =>
  intro j v hj hv
  have hw:w64 (((64*j:Nat):Int)+64)=((64*(j+1):Nat):Int):=by rw [qh (by omega)];omega
  have hb:ja (List.drop (64*j) (List.take (64*(j+1)) c))=(P.drop (64*j)).take 64:=by
   rw [hc]
   have e1:List.drop (64*j) (List.take (64*(j+1)) (qj P))=qj ((P.drop (64*j)).take 64):=by
    unfold qj
    rw [←List.map_take,←List.map_drop,List.drop_take,show 64*(j+1)-64*j=64 by omega]
   rw [e1,qaj]
  have hl:((P.drop (64*j)).take 64).length=64:=by rw [List.length_take,List.length_drop];omega
  rw [qp3]
  unfold qdk
  dsimp only
  rw [hw]
  simp only [Int.toNat_natCast]
  rw [if_pos (by rw [decide_eq_true_eq];omega),if_pos (by omega),if_pos (by omega),if_pos (by omega),hb,q9b hv hl,sb,q3q,ih (j+1) _ (by omega) (qov _ _),qgp,List.drop_drop]
  rfl
def rw4(x:Int):List Int:=[(IntKind.wrap .u8 (IntKind.wrap .u32 (Int.tdiv x (16777216:Int)))),(IntKind.wrap .u8 (Int.tmod (IntKind.wrap .u32 (Int.tdiv x (65536:Int))) (256:Int))),(IntKind.wrap .u8 (Int.tmod (IntKind.wrap .u32 (Int.tdiv x (256:Int))) (256:Int))),(IntKind.wrap .u8 (Int.tmod x (256:Int)))]
theorem qc3{x:Nat}(hx:x<4294967296):ja (rw4 (x:Int))=qfu x:=by
 have d1:Int.tdiv (x:Int) (16777216:Int)=_:=ql3 x 16777216
 have d2:Int.tdiv (x:Int) (65536:Int)=_:=ql3 x 65536
 have d3:Int.tdiv (x:Int) (256:Int)=_:=ql3 x 256
 have m2:Int.tmod ((x / 65536:Nat):Int) (256:Int)=_:=q1t (x / 65536) 256
 have m3:Int.tmod ((x / 256:Nat):Int) (256:Int)=_:=q1t (x / 256) 256
 have m4:Int.tmod (x:Int) (256:Int)=_:=q1t x 256
 have u: ∀n:Nat,UInt8.ofNat (n%256)=UInt8.ofNat n:=fun n=>by
  apply UInt8.toNat_inj.1
  rw [UInt8.toNat_ofNat',UInt8.toNat_ofNat']
  omega
 unfold rw4
 rw [d1,d2,d3,wc (by omega),wc (by omega),wc (by omega),m2,m3,m4]
 show [UInt8.ofNat _,UInt8.ofNat _,UInt8.ofNat _,UInt8.ofNat _]=_
 rw [qhz,qhz,qhz,qhz,u,u,u]
 rfl
theorem qfq(v:V8){c:List Int}(hc:c.length≤100){i:Nat}(hi:i<8):
  gu (((i:Int),(lst v,(8:Int))),c)=gu ((((i+1:Nat):Int),(lst v,(8:Int))),c++rw4 (elt (.int .u32) (lst v) i)):=by
 have hw:w64 ((i:Int)+1)=((i+1:Nat):Int):=by rw [qh (by omega)];omega
 have l2:(lst v).length=8:=by simp [lst]
 conv=>lhs;rw [qp4]
 unfold qdl rw4
 dsimp only
 simp only [Int.toNat_natCast,hw]
 rw [if_pos (by rw [decide_eq_true_eq];omega),if_pos (by omega),if_pos (by omega),if_pos (by constructor <;>simp <;>omega)]
theorem q06{v:V8}(hv:lt8 v): ∃c,gu (((0:Int),(lst v,(8:Int))),[])=some c∧ja c=jgy v:=by
 have s0:=qfq v (c:=[]) (by simp) (i:=0) (by decide)
 have s0:gu (((0:Int),(lst v,(8:Int))),[])=_:=s0
 rw [s0]
 iterate 7 rw [qfq v (by simp [rw4]) (by decide)]
 rw [qp4]
 unfold qdl
 dsimp only
 rw [if_neg (by decide)]
 refine⟨_,rfl, ?_⟩
 obtain⟨a,b,c,d,e,f,g,h⟩:=v
 obtain⟨h1,h2,h3,h4,h5,h6,h7,h8⟩:=hv
 dsimp only at h1 h2 h3 h4 h5 h6 h7 h8
 unfold lst jgy
 simp only [Nat.reduceAdd,List.nil_append,qwx,qwy,qwz,qw0,qw1,qw2,qw3,qw4,qgq,qc3 h1,qc3 h2,qc3 h3,qc3 h4,qc3 h5,qc3 h6,qc3 h7,qc3 h8,List.append_assoc]
theorem q5q{s:Str}(hs:s.length≤100000000):z04 s=some (sha s):=by
 unfold z04
 have hsl:=gq s
 have hmany:IntKind.wrap .u64 (IntKind.wrap .u64 (s.length:Int)*(8:Int))=((s.length*8:Nat):Int):=by
  have h1:IntKind.wrap .u64 (s.length:Int)=(s.length:Int):=by show(s.length:Int)%18446744073709551616=_;omega
  rw [h1]
  show((s.length:Int)*8)%18446744073709551616=_
  omega
 have hl1:(qj s++[(128:Int)]).length=s.length+1:=by rw [List.length_append,hsl];rfl
 rw [if_pos (by constructor <;>rw [hsl] <;>simp <;>omega),hmany,q3v _ ((119-s.length%64)%64) _ (by omega) (by omega) (by rw [hl1];omega),sb]
 have h2:qev (((0:Int),((72057594037927936:Int),((s.length*8:Nat):Int))),(qj s++[(128:Int)])++List.replicate ((119-s.length%64)%64) 0)=_:=
  q04 (m:=s.length*8) (by omega) 8 0 _ (by omega) (by rw [List.length_append,List.length_replicate];omega)
 have hp:(qj s++[(128:Int)])++List.replicate ((119-s.length%64)%64) 0++qj (qzr (s.length*8) 8)=qj (uv s):=by
  unfold uv qj
  simp only [List.map_append,List.map_cons,List.map_replicate,List.append_assoc,List.cons_append,List.nil_append]
  rfl
 have hf:z47 ()=some (lst kh):=rfl
 obtain⟨g1,g2⟩:=q0x s
 have h3:qew (((0:Int),(jh,lst kh)),qj (uv s))=_:=q05 (uv s) rfl (by omega) ((uv s).length / 64) 0 kh (by omega) qka
 rw [Nat.mul_zero,List.drop_zero] at h3
 obtain⟨c,h4,h5⟩:=q06 (qnr ((uv s).length / 64) (uv s) qka)
 dsimp only
 rw [h2,sb,hp,hf,sb,jfa,sb,h3,sb]
 have h4:gu (((0:Int),(lst (xl ((uv s).length / 64) (uv s) kh),((lst (xl ((uv s).length / 64) (uv s) kh)).length:Int))),[])=some c:=h4
 rw [h4,sb,h5]
 rfl
end Go.Plain
namespace Go.Plain
open Go.AM
theorem q7b{v:GVal}(hn:v.names.length≤v.items.length)(hl:v.names.length≤9223372036854775807)(nm:Str)(c:GVal): ∀(b a:List Str),v.names=a++b→
  ∃r,qq8 (((a.length:Int),(nm,(v.names,(v.names.length:Int)))),(c,v))=some r∧((nm∉b∧r= .inr c)∨∃(j:Nat) (x:GVal),v.names[j]? =some nm∧v.items[j]? =some x∧r= .inl x):=by
 intro b
 induction b with
 |nil=>
  intro a e
  rw [List.append_nil] at e
  rw [qvb]
  unfold qi2
  dsimp only
  rw [if_neg (by rw [e];simp),qq]
  exact⟨_,rfl,.inl ⟨by simp,rfl⟩⟩
 | cons x b ih =>
  intro a e
  have hl2:v.names.length=a.length+(b.length+1):=by rw [e];simp
  have hw:w64 ((a.length:Int)+1)=(a.length:Int)+1:=qh (by omega)
  have he:elt .str v.names a.length=x:=by rw [e];exact jc .str a x b
  have hj:v.names[a.length]? =some x:=by rw [e];simp
  have hi:a.length<v.items.length:=by omega
  obtain⟨r,q1,q2⟩:=ih (a++[x]) (by rw [e];simp)
  rw [j4] at q1
  rw [qvb]
  unfold qi2
  dsimp only
  rw [Int.toNat_natCast,he,if_pos (by rw [decide_eq_true_eq];omega),if_pos (by omega),if_pos (by omega)]
  by_cases h:x=nm
  ·rw [if_pos (beq_iff_eq.2 h), if_pos (by rw [decide_eq_true_eq]; omega), if_pos (by omega), if_pos (by omega), qq, qgx hi]
   exact⟨_,rfl,.inr ⟨a.length,v.items[a.length],by rw [hj,h],by rw [List.getElem?_eq_getElem hi],rfl⟩⟩
  ·rw [if_neg (by simpa using h), hw, qq, qq, q1]
   refine⟨r,rfl, ?_⟩
   rcases q2 with⟨q2,q3⟩|q2
   ·exact .inl ⟨fun hm=>by
     rcases List.mem_cons.1 hm with g|g
     ·exact h g.symm
     ·exact q2 g,q3⟩
   ·exact .inr q2
theorem q24{v:GVal}(hn:v.names.length≤v.items.length)(hl:v.names.length≤9223372036854775807)(nm:Str): ∃x,z0t (v,nm)=some x∧
  ((nm∉v.names∧x= .mk 0 0 [] [] [])∨∃j:Nat,v.names[j]? =some nm∧v.items[j]? =some x):=by
 obtain⟨r,h1,h2⟩:=q7b hn hl nm (.mk 0 0 [] [] []) v.names [] rfl
 have h1:qq8 (((0:Int),(nm,(v.names,(v.names.length:Int)))),((GVal.mk (0:Int) (0:Int) [] [] []),v))=_:=h1
 unfold z0t
 dsimp only
 rw [qq,h1,sb]
 rcases h2 with⟨q,rfl⟩|⟨j,x,q1,q2,rfl⟩
 ·exact⟨_,rfl,.inl ⟨q,rfl⟩⟩
 ·exact⟨x,by rw [Sum.elim_inl,qq],.inr ⟨j,q1,q2⟩⟩
theorem q7r{d:Nat}{v:GVal}(h:okV (d+1) v=true):v.names.length≤v.items.length:=by
 obtain⟨h1,h2⟩:=qem h
 rcases h2 with⟨_,_,n,_⟩|⟨_,_,n,_⟩|⟨_,n,_⟩|⟨_,_,n,_⟩
 ·rw [n];simp
 ·rw [n];simp
 ·rw [n];simp
 ·omega
theorem qel{d:Nat}{v:GVal}(hv:inV v)(h:okV (d+1) v=true)(nm:Str): ∃x,z0t (v,nm)=some x∧inV x∧x.s.length≤200∧x.items.length≤16∧
  (∀y∈x.items,inV y)∧(∀e,d=e+1→∀y∈x.items,okV e y=true):=by
 obtain⟨_,_,h3,h4⟩:=qeo h
 obtain⟨x,h1,h2⟩:=q24 (q7r h) (xz hv).2.2.2 nm
 refine⟨x,h1, ?_⟩
 rcases h2 with⟨_,rfl⟩|⟨j,_,hj⟩
 ·exact⟨⟨by decide,by decide,by decide,by decide,trivial,by decide,fun _ h=>by cases h⟩,by decide,by decide,(fun y hy=>by cases hy),fun _ _ y hy=>by cases hy⟩
 ·have hm := List.mem_of_getElem? hj
  have hx:=zt (xz hv).2.2.1 x hm
  have ho:=h3 x hm
  match d,ho with
  | e + 1, ho =>
   obtain⟨q1,q2,q3,_⟩:=qeo ho
   exact⟨hx,q1,q2,zt (xz hx).2.2.1,fun e' he=>by
    injection he with he
    rw [←he]
    exact q3⟩
theorem qf1{v y:GVal}(hv:inV v)(hl:v.names.length=v.items.length)(ho:okN v.names=true){nm:Str}(j:Nat)(hj:v.names[j]? =some nm)(hy:v.items[j]? =some y):z0t (v,nm)=some y:=by
 obtain⟨x,h1,h2⟩:=q24 (by omega) (xz hv).2.2.2 nm
 rcases h2 with⟨h,_⟩|⟨j',hj',hx⟩
 ·exact absurd (List.mem_of_getElem? hj) h
 ·have := qhh ho j j' nm hj hj'
  subst this
  rw [hy] at hx
  injection hx with hx
  rw [h1,hx]
theorem qoa{v:GVal}(hv:inV v)(hl:v.names.length=v.items.length){nm:Str}(hn:nm∉v.names):z0t (v,nm)=some (.mk 0 0 [] [] []):=by
 obtain⟨x,h1,h2⟩:=q24 (by omega) (xz hv).2.2.2 nm
 rcases h2 with⟨_,rfl⟩|⟨j',hj',_⟩
 ·exact h1
 ·exact absurd (List.mem_of_getElem? hj') hn
noncomputable def rdR(x:GVal):Str×Int:=match z0t (x,wo),z0t (x,qaf) with
 |some g,some g1=>(g.s,g1.n)
 |_,_=>([],0)
theorem q1a(s:Str)(c c1:Bool×Str)(c2:GVal): ∀(b a:List GVal) (r:List (Str×Int)),(a++b).length≤5000→r.length≤a.length→(∀x∈b,(∃g,z0t (x,wo)=some g)∧∃g,z0t (x,qaf)=some g)→
  qik (((a.length:Int),(a++b,(s,((a++b).length:Int)))),(c,(c1,(c2,r))))=some (s,(c,(c1,(c2,r++b.map rdR)))):=by
 intro b
 induction b with
 |nil=>
  intro a r hl _ _
  rw [qqn]
  unfold qdw
  dsimp only
  rw [if_neg (by simp),qq]
  simp
 |cons x b ih=>
  intro a r hl hr hx
  have hl2:(a++x::b).length=a.length+(b.length+1):=by simp
  have hw:w64 ((a.length:Int)+1)=(a.length:Int)+1:=qh (by omega)
  obtain⟨⟨g,h1⟩,g1,h2⟩:=hx x (by simp)
  have ih:=ih (a++[x]) (r++[(g.s,g1.n)]) (by simp at hl ⊢;omega) (by simp;omega) (fun y hy=>hx y (by simp [hy]))
  rw [j4,←jf] at ih
  have e:rdR x=(g.s,g1.n):=by unfold rdR;rw [h1,h2]
  rw [qqn]
  unfold qdw
  dsimp only
  rw [Int.toNat_natCast,jc .val,qq,qq,if_pos (by rw [decide_eq_true_eq];omega),if_pos (by omega),if_pos (by omega),h1,sb,h2,sb,if_pos (by constructor <;>(simp;omega)),hw,ih]
  simp [e]
theorem q1b(s:Str)(c c1:Bool×Str)(c2:List (Str×Int)): ∀(b a:List GVal) (r:List Str),(a++b).length≤5000→r.length≤a.length→
  qil (((a.length:Int),(a++b,(s,((a++b).length:Int)))),(c,(c1,(c2,r))))=some (s,(c1,(c,(c2,r++b.map GVal.s)))):=by
 intro b
 induction b with
 |nil=>
  intro a r hl _
  rw [qqo]
  unfold qdx
  dsimp only
  rw [if_neg (by simp)]
  simp
 |cons x b ih=>
  intro a r hl hr
  have hl2:(a++x::b).length=a.length+(b.length+1):=by simp
  have hw:w64 ((a.length:Int)+1)=(a.length:Int)+1:=qh (by omega)
  have ih:=ih (a++[x]) (r++[x.s]) (by simp at hl ⊢;omega) (by simp;omega)
  rw [j4,←jf] at ih
  rw [qqo]
  unfold qdx
  dsimp only
  rw [Int.toNat_natCast,jc .val,if_pos (by rw [decide_eq_true_eq];omega),if_pos (by omega),if_pos (by omega),if_pos (by constructor <;>(simp;omega)),hw,ih]
  simp
def RdR(v:GVal)(m:Man):Prop:= ∃g g1 g2 g3,z0t (v,wq)=some g∧z0t (v,vo)=some g1∧z0t (v,vp)=some g2∧z0t (v,yz)=some g3∧
 g2.items.length≤5000∧g3.items.length≤5000∧(∀x∈g2.items,(∃g,z0t (x,wo)=some g)∧∃g,z0t (x,qaf)=some g)∧m=(g.s==w6,(g1.s,(g2.items.map rdR,g3.items.map GVal.s)))
theorem jfd{v:GVal}{m w:Man}(h:RdR v m)(g:RdR v w):m=w:=by
 obtain⟨a0,a1,a2,a3,p0,p1,p2,p3,_,_,_,e⟩:=h
 obtain⟨b0,b1,b2,b3,q0,q1,q2,q3,_,_,_,f⟩:=g
 rw [p0] at q0;rw [p1] at q1;rw [p2] at q2;rw [p3] at q3
 injection q0 with q0;injection q1 with q1;injection q2 with q2;injection q3 with q3
 rw [e,f,q0,q1,q2,q3]
theorem q3x{v:GVal}(hv:inV v)(h:okV 6 v=true): ∃m,RdR v m∧MB m:=by
 obtain⟨x0,a0,b0,c0,_⟩:=qel hv h wq
 obtain⟨x1,a1,b1,c1,_⟩:=qel hv h vo
 obtain⟨x2,a2,b2,_,d2,e2,o2⟩:=qel hv h vp
 obtain⟨x3,a3,b3,_,d3,e3,o3⟩:=qel hv h yz
 have hg: ∀x∈x2.items,∃g g1,z0t (x,wo)=some g∧z0t (x,qaf)=some g1∧g.s.length≤200∧inV g1:=fun x hx=>by
  obtain⟨g,p1,_,p2,_⟩:=qel (d:=3) (e2 x hx) (o2 4 rfl x hx) wo
  obtain⟨g1,q1,q2,_⟩:=qel (d:=3) (e2 x hx) (o2 4 rfl x hx) qaf
  exact⟨g,g1,p1,q1,p2,q2⟩
 refine⟨_,⟨x0,x1,x2,x3,a0,a1,a2,a3,by omega,by omega,fun x hx=> ?_,rfl⟩, ?_, ?_,fun l hl=> ?_, ?_,fun k hk=> ?_⟩
 ·obtain ⟨g, g1, p1, p2, _⟩ := hg x hx
  exact⟨⟨_,p1⟩,_,p2⟩
 ·show x1.s.length ≤ _
  omega
 ·show (x2.items.map rdR).length ≤ _
  rw [List.length_map]
  omega
 ·obtain ⟨x, hx, rfl⟩ := List.mem_map.1 hl
  obtain⟨g,g1,p1,p2,p3,p4⟩:=hg x hx
  have e:rdR x=(g.s,g1.n):=by unfold rdR;rw [p1,p2]
  rw [e]
  exact⟨by show g.s.length≤_;omega,jil p4⟩
 ·show (x3.items.map GVal.s).length ≤ _
  rw [List.length_map]
  omega
 ·obtain ⟨x, hx, rfl⟩ := List.mem_map.1 hk
  have:=(qeo (d:=3) (o3 4 rfl x hx)).1
  omega
theorem qt4{l:Str×Int}(h:l.1.length≤5000)(h2: -9223372036854775808≤l.2∧l.2≤9223372036854775807):z0t (q9 l,wo)=some (qr l.1)∧z0t (q9 l,qaf)=some (.mk 1 l.2 [] [] [])∧rdR (q9 l)=l:=by
 have hv:=qkl h h2
 have g1:z0t (q9 l,wo)=some (qr l.1):=qf1 hv rfl zx 0 rfl rfl
 have g2:z0t (q9 l,qaf)=some (.mk 1 l.2 [] [] []):=qf1 hv rfl zx 1 rfl rfl
 refine⟨g1,g2, ?_⟩
 unfold rdR
 rw [g1,g2]
 rfl
theorem q3w{m:Man}(hm:MB m)(h:okM m=true):RdR (val m) m:=by
 have hv:=qxa hm
 obtain⟨b1,b2,b3,b4,b5⟩:=hm
 obtain⟨ix,cf,ls,ks⟩:=m
 cases ix with
 | true =>
  obtain⟨h1,h2,h3,h4,h5⟩:=qa2 h rfl
  have h4:cf=[]:=h4
  have h5:ls=[]:=h5
  subst h4 h5
  have e:val (true,([],([],ks)))= .mk 4 0 [] [.mk 3 0 [] (ks.map qr) [],qr w6] [yz,wq]:=rfl
  rw [e] at hv ⊢
  refine⟨qr w6,.mk 0 0 [] [] [],.mk 0 0 [] [] [],.mk 3 0 [] (ks.map qr) [],qf1 hv rfl zw 1 rfl rfl,qoa hv rfl (show vo∉([yz,wq]:List Str) by decide),qoa hv rfl (show vp∉([yz,wq]:List Str) by decide),qf1 hv rfl zw 0 rfl rfl,
   by decide,by show(ks.map qr).length≤_;rw [List.length_map];exact b4,(fun x hx=>by cases hx), ?_⟩
  have e2:(ks.map qr).map GVal.s=ks:=by
   rw [List.map_map]
   exact List.map_id'' (fun _=>rfl) ks
  show _=(true,(([]:Str),(([]:List (Str×Int)),(ks.map qr).map GVal.s)))
  rw [e2]
 | false =>
  obtain⟨h1,h2,h3,h4⟩:=ub h rfl
  have h2:ks=[]:=h2
  subst h2
  have e:val (false,(cf,(ls,[])))= .mk 4 0 [] [qr cf,qr [105,109,97,103,101],.mk 3 0 [] (ls.map q9) []] [vo,wq,vp]:=rfl
  rw [e] at hv ⊢
  refine⟨qr [105,109,97,103,101],qr cf,.mk 3 0 [] (ls.map q9) [],.mk 0 0 [] [] [],qf1 hv rfl wy 1 rfl rfl,qf1 hv rfl wy 0 rfl rfl,qf1 hv rfl wy 2 rfl rfl,qoa hv rfl (show yz∉([vo,wq,vp]:List Str) by decide),
   by show(ls.map q9).length≤_;rw [List.length_map];exact b2,by decide,(fun x hx=>by
    obtain⟨l,hl,rfl⟩:=List.mem_map.1 hx
    obtain⟨q1,q2,_⟩:=qt4 (b3 l hl).1 (b3 l hl).2
    exact⟨⟨_,q1⟩,_,q2⟩), ?_⟩
  have e2:(ls.map q9).map rdR=ls:=by
   rw [List.map_map]
   have: ∀l∈ls,(rdR ∘ q9) l=id l:=fun l hl=>(qt4 (b3 l hl).1 (b3 l hl).2).2.2
   rw [List.map_congr_left this,List.map_id]
  show _=(false,(cf,((ls.map q9).map rdR,([]:List Str))))
  rw [e2]
theorem jkx(s:Str): ∃r,z0e s=some r∧((r.2=0∧MB r.1∧okM r.1=true∧txt (val r.1)=s)∨
  ((∀m,MB m→okM m=true→txt (val m)≠s)∧r.1=(false,([],([],[])))∧((s.length>4096∧r.2=2)∨(s.length≤4096∧(∀v,¬qcs s v)∧r.2=6)∨(s.length≤4096∧(∃v,qcs s v)∧r.2=8)))):=by
 unfold z0e
 by_cases hl:s.length>4096
 ·rw [if_pos (by rw [decide_eq_true_eq]; omega)]
  refine⟨_,rfl,.inr ⟨fun m hm ho e=> ?_,rfl,.inl ⟨hl,rfl⟩⟩⟩
  have:=w8 ho
  rw [e] at this
  omega
 ·obtain ⟨p, h1, h2⟩ := jll (s := s) (by omega)
  rw [if_neg (by rw [decide_eq_true_eq];omega),h1,sb]
  rcases h2 with⟨q1,q2,q3⟩|⟨q1,q3⟩
  ·obtain ⟨m, p1, p2⟩ := q3x q2 q1.1
   have hno: ∀w,MB w→okM w=true→txt (val w)=s→w=m:=fun w hw ho e=>by
    have e2:=qyj (qbo ho) q1.1 (w8 ho) (e.trans q1.2.symm)
    have e3:=q3w hw ho
    rw [e2] at e3
    exact jfd e3 p1
   obtain⟨g,g1,g2,g3,a0,a1,a2,a3,l2,l3,hx,rfl⟩:=p1
   have r1:=q1a s (g.s==w6,g1.s) (false,[]) p.1 g2.items [] [] (by simpa using l2) (by simp) hx
   have r1:qik (((0:Int),(g2.items,(s,(g2.items.length:Int)))),_)=_:=r1
   have r2:=q1b s (g.s==w6,g1.s) (false,[]) (g2.items.map rdR) g3.items [] [] (by simpa using l3) (by simp)
   have r2:qil (((0:Int),(g3.items,(s,(g3.items.length:Int)))),_)=_:=r2
   rw [if_neg (by rw [q3];decide),qq,a0,sb,a1,sb,a2,sb,r1,sb]
   dsimp only
   rw [qq,a3,sb,List.nil_append,r2,sb]
   dsimp only
   rw [List.nil_append,jew p2,sb]
   cases ho:okM (g.s==w6,(g1.s,(g2.items.map rdR,g3.items.map GVal.s))) with
   |false=>
    rw [if_pos (by rfl)]
    refine⟨_,rfl,.inr ⟨fun w hw hk e=> ?_,rfl,.inr (.inr ⟨by omega,⟨_,q1⟩,rfl⟩)⟩⟩
    rw [hno w hw hk e,ho] at hk
    cases hk
   | true =>
    rw [if_neg (by decide),jk2 p2 ho,sb]
    by_cases e:txt (val (g.s==w6,(g1.s,(g2.items.map rdR,g3.items.map GVal.s))))=s
    ·rw [if_neg (by simp [e])]
     exact⟨_,rfl,.inl ⟨rfl,p2,ho,e⟩⟩
    ·rw [if_pos (by simpa using e)]
     refine⟨_,rfl,.inr ⟨fun w hw hk e2=> ?_,rfl,.inr (.inr ⟨by omega,⟨_,q1⟩,rfl⟩)⟩⟩
     rw [hno w hw hk e2] at e2
     exact e e2
  ·rw [if_pos (by rw [q3]; rfl)]
   refine⟨_,rfl,.inr ⟨fun w hw hk e=>q1 (val w) ⟨qbo hk,e⟩,rfl,.inr (.inl ⟨by omega,q1,rfl⟩)⟩⟩
end Go.Plain
namespace Go.Plain
open Go.AM
set_option linter.unusedVariables false
theorem qa3(s:Str):z0e s=some (pM s):=by
 obtain⟨r,h1,h2⟩:=jkx s
 obtain⟨q,g1,g2⟩:=qyy s
 have e:pM s=q:=by unfold pM;rw [g1];rfl
 rw [h1,e]
 congr 1
 obtain⟨a,b⟩:=r
 obtain⟨a',b'⟩:=q
 dsimp only at h2 g2
 rcases h2 with⟨p1,p2,p3,p4⟩|⟨p1,p2,p3⟩
 ·rcases g2 with ⟨q1, q2, q3, q4⟩ | ⟨q1, _⟩
  ·rw [q52 p2 q2 p3 q3 (p4.trans q4.symm),p1,q1]
  ·exact absurd p4 (q1 a p2 p3)
 ·rcases g2 with ⟨q1, q2, q3, q4⟩ | ⟨q1, q2, q3⟩
  ·exact absurd q4 (p1 a' q2 q3)
  ·rw [p2, q2]
   congr 1
   rcases p3 with⟨x1,x2⟩|⟨x1,x2,x3⟩|⟨x1,x2,x3⟩ <;>rcases q3 with⟨y1,y2⟩|⟨y1,y2,y3⟩|⟨y1,y2,y3⟩ <;>first
    |omega
    |(obtain⟨v,hv⟩:=y2;exact absurd hv (x2 v))
    |(obtain⟨v,hv⟩:=x2;exact absurd hv (y2 v))
theorem q02{l:List Obj}(hl:OL l)(d:Str): ∀(b a:List Obj),a++b=l→
  qrd ((a.length:Int),(d,(a++b,((a++b).length:Int))))=some (match b.find? (fun o=>o.1==d) with|none=> .inr ()|some o=> .inl (if qco d o.2 then(o.2,0) else([],10))):=by
 intro b
 induction b with
 |nil=>
  intro a hab
  rw [qvf]
  unfold qi6
  dsimp only
  rw [if_neg (by simp)]
  rfl
 | cons x b ih =>
  intro a hab
  have hlen:(a++x::b).length=a.length+(b.length+1):=by simp
  have hll:(a++x::b).length≤1000:=by rw [hab];exact hl.len
  have hw:w64 ((a.length:Int)+1)=(a.length:Int)+1:=qh (by omega)
  have h1:=ih (a++[x]) (by rw [←hab];simp)
  rw [j4,←jf] at h1
  have hx:=hl.obj x (by rw [←hab];simp)
  rw [qvf]
  unfold qi6
  dsimp only
  simp only [Int.toNat_natCast]
  rw [if_pos (by rw [decide_eq_true_eq];omega),if_pos (by omega),if_pos (by omega),jc (.pair .str .str),hw]
  by_cases c:x.1=d
  ·have hc : (x.1 == d) = true := beq_iff_eq.2 c
   obtain⟨p,p1,p2,p3⟩:=je6 d
   rw [if_neg (by simp [c]),p1,sb,List.find?_cons_of_pos (p:=fun o:Obj=>o.1==d) hc,q5q (by omega)]
   dsimp only
   unfold qco
   rw [p2]
   cases hd:isD d with
   |false=>
    rw [if_pos (by decide),Bool.false_and,if_neg (by decide)]
   |true=>
    rw [if_neg (by decide),sb,Bool.true_and,p3 hd]
    by_cases e:sha x.2=unh (d.drop 7)
    ·rw [if_neg (by simp [e]),decide_eq_true e,if_pos rfl]
    ·rw [if_pos (by simpa using e),decide_eq_false e,if_neg (by decide)]
  ·rw [if_pos (by simpa using c), List.find?_cons_of_neg (p := fun o : Obj => o.1 == d) (by simpa using c)]
   exact h1
theorem yt{l:List Obj}(hl:OL l)(d:Str):z10 (l,d)=some (fnd l d):=by
 have h:=q02 hl d l [] rfl
 rw [List.nil_append] at h
 have h:qrd ((0:Int),(d,(l,(l.length:Int))))=_:=h
 unfold z10 fnd
 dsimp only
 rw [h,sb]
 cases l.find? (fun o=>o.1==d) with
 |none=>rfl
 |some o=>rfl
theorem qm3{l:List Str}(hl:l.length≤1048576)(s:Str):z17 (l,s)=some (l.contains s):=by
 have key: ∀(b a:List Str),(a++b).length≤1048576→qrj ((a.length:Int),(s,(a++b,((a++b).length:Int))))=some (if b.contains s then .inl true else .inr ()):=by
  intro b
  induction b with
  |nil=>
   intro a hl
   rw [qvk]
   unfold qjb
   dsimp only
   rw [if_neg (by simp)]
   rfl
  | cons x b ih =>
   intro a hl
   have hl2:(a++x::b).length=a.length+(b.length+1):=by simp
   have hw:w64 ((a.length:Int)+1)=(a.length:Int)+1:=qh (by omega)
   have h1:=ih (a++[x]) (by simp at hl ⊢;omega)
   rw [qvk]
   unfold qjb
   dsimp only
   rw [Int.toNat_natCast,jc .str,if_pos (by rw [decide_eq_true_eq];omega),if_pos (by omega),if_pos (by omega),hw]
   by_cases e:x=s
   ·rw [if_pos (beq_iff_eq.2 e)]
    simp [e]
   ·have e2 : ¬ s = x := fun h => e h.symm
    rw [j4] at h1
    rw [if_neg (by simpa using e),jf,h1]
    simp [e2]
 have h:=key l [] (by simpa using hl)
 have h:qrj ((0:Int),(s,(l,(l.length:Int))))=_:=h
 unfold z17
 dsimp only
 rw [h,sb]
 cases l.contains s <;>rfl
def rT(r:Int×WS):Int×WS:=if r.1=0 then r else(r.1,([],[]))
theorem jdz{r:Int×WS}(h:r.1=0):rT r=(0,r.2):=by
 unfold rT
 rw [if_pos h,←h]
theorem qx8{r:Int×WS}(h:r.1≠0):rT r=(r.1,([],[])):=if_neg h
theorem jg7(d:Str)(c c1:Int)(c2:List Str): ∀(b a c3:List Str),(a++b).length≤100000→c3.length+b.length≤1048576→
  qby (((a.length:Int),(a++b,(d,((a++b).length:Int)))),(c,(c1,(c2,c3))))=some (d,(c1,(c,(c2,qsg c3 b)))):=by
 intro b
 induction b with
 |nil=>
  intro a c3 hl h2
  rw [qp1]
  unfold qdi
  dsimp only
  rw [if_neg (by simp)]
  rfl
 | cons x b ih =>
  intro a c3 hl h2
  have hlen:(a++x::b).length=a.length+(b.length+1):=by simp
  have hw:w64 ((a.length:Int)+1)=((a.length+1:Nat):Int):=by rw [qh (by omega)];omega
  have ih:=fun c3=>ih (a++[x]) c3 (by simp at hl ⊢;omega)
  rw [←jf] at ih
  have e1:((a++[x]).length:Int)=((a.length+1:Nat):Int):=by simp
  rw [e1] at ih
  simp only [List.length_cons] at h2
  rw [qp1]
  unfold qdi
  dsimp only
  simp only [Int.toNat_natCast,hw]
  rw [if_pos (by rw [decide_eq_true_eq];omega),if_pos (by omega),if_pos (by omega),jc,qm3 (by omega),sb,qau]
  cases hc:c3.contains x with
  |true=>
   rw [if_neg (by decide),if_pos rfl]
   exact ih c3 (by omega)
  |false=>
   rw [if_pos (by decide),if_pos (by constructor <;>simp <;>omega),if_neg (by decide)]
   exact ih (c3++[x]) (by simp;omega)
theorem jd7(d:Str)(c c1:Int)(c2:List Str): ∀(b a c3:List Str),(a++b).length≤100000→c3.length+b.length≤1048576→
  qe5 (((a.length:Int),(a++b,(d,((a++b).length:Int)))),(c,(c1,(c2,c3))))=some (d,(c1,(c,(c2,qsg c3 b)))):=by
 intro b
 induction b with
 |nil=>
  intro a c3 hl h2
  rw [qq7]
  unfold qd7
  dsimp only
  rw [if_neg (by simp)]
  rfl
 | cons x b ih =>
  intro a c3 hl h2
  have hlen:(a++x::b).length=a.length+(b.length+1):=by simp
  have hw:w64 ((a.length:Int)+1)=((a.length+1:Nat):Int):=by rw [qh (by omega)];omega
  have ih:=fun c3=>ih (a++[x]) c3 (by simp at hl ⊢;omega)
  rw [←jf] at ih
  have e1:((a++[x]).length:Int)=((a.length+1:Nat):Int):=by simp
  rw [e1] at ih
  simp only [List.length_cons] at h2
  rw [qq7]
  unfold qd7
  dsimp only
  simp only [Int.toNat_natCast,hw]
  rw [if_pos (by rw [decide_eq_true_eq];omega),if_pos (by omega),if_pos (by omega),jc,qm3 (by omega),sb,qau]
  cases hc:c3.contains x with
  |true=>
   rw [if_neg (by decide),if_pos rfl]
   exact ih c3 (by omega)
  |false=>
   rw [if_pos (by decide),if_pos (by constructor <;>simp <;>omega),if_neg (by decide)]
   exact ih (c3++[x]) (by simp;omega)
def RWk(l:List Obj)(n:Nat):Prop:= ∀(d:Str) (w:WS),w.1.length+S n≤10000→w.2.length+9*S n≤100000→
  z03 ((l,((0:Int),(d,5-(n:Int)))),w)=some (rT (wk l n d w))
theorem jg6{l:List Obj}{n:Nat}(hn:n≤4)(hW:RWk l n)(d:Str)(c:Int)(m:Man): ∀(b a:List Str) (w:WS),(a++b).length≤10000→w.1.length+b.length*S n≤10000→w.2.length+9*(b.length*S n)≤100000→
  yw (((a.length:Int),(4-(n:Int),(l,(a++b,(d,((a++b).length:Int)))))),(c,((0:Int),(m,w))))=
   some (if(jw (wk l n) b w).1≠0 then .inl ((jw (wk l n) b w).1,([],[])) else .inr (d,((0:Int),(c,(m,(jw (wk l n) b w).2))))):=by
 intro b
 induction b with
 |nil=>
  intro a w hl h1 h2
  rw [qp0]
  unfold qdh
  obtain⟨ms,bs⟩:=w
  dsimp only
  rw [if_neg (by simp)]
  rfl
 | cons x b ih =>
  intro a w hl h1 h2
  have hlen:(a++x::b).length=a.length+(b.length+1):=by simp
  have hw:w64 ((a.length:Int)+1)=((a.length+1:Nat):Int):=by rw [qh (by omega)];omega
  have hwd:w64 (4-(n:Int)+1)=5-(n:Int):=by rw [qh (by omega)];omega
  have ih:=fun w=>ih (a++[x]) w (by simp at hl ⊢;omega)
  rw [←jf] at ih
  have e1:((a++[x]).length:Int)=((a.length+1:Nat):Int):=by simp
  rw [e1] at ih
  have e:(x::b).length*S n=b.length*S n+S n:=by rw [List.length_cons,Nat.add_mul,Nat.one_mul]
  rw [e] at h1 h2
  have hb:=qbv l n x w
  have hnn:=hW x w (by omega) (by omega)
  have ih1:=ih w (by omega) (by omega)
  have ih2:=ih (wk l n x w).2 (by omega) (by omega)
  rw [qp0]
  unfold qdh
  obtain⟨ms,bs⟩:=w
  dsimp only at hnn ih1 h1 ⊢
  simp only [Int.toNat_natCast,hw,hwd]
  rw [if_pos (by rw [decide_eq_true_eq];omega),if_pos (by omega),if_pos (by omega),jc,qm3 (by omega),sb]
  unfold jw
  dsimp only
  cases hc:ms.contains x with
  |true=>
   rw [if_neg (by decide),if_pos rfl]
   exact ih1
  | false =>
   rw [if_pos (by decide),if_neg (show¬(false=true) by decide),hnn,sb]
   by_cases c:(wk l n x (ms,bs)).1=0
   ·rw [jdz c, if_neg (show ¬ ((0 : Int) != 0) = true by decide), if_neg (show ¬ ((wk l n x (ms, bs)).1 ≠ 0) by simp [c])]
    exact ih2
   ·rw [qx8 c,if_pos (by simpa using c),if_pos (show(wk l n x (ms,bs)).1≠0 from c),if_pos c]
theorem jd6{l:List Obj}{n:Nat}(hn:n≤4)(hW:RWk l n)(d:Str)(c:Int)(m:Man): ∀(b a:List Str) (w:WS),(a++b).length≤10000→w.1.length+b.length*S n≤10000→w.2.length+9*(b.length*S n)≤100000→
  qi1 (((a.length:Int),(4-(n:Int),(l,(a++b,(d,((a++b).length:Int)))))),(c,((0:Int),(m,w))))=
   some (if(jw (wk l n) b w).1≠0 then .inl ((jw (wk l n) b w).1,([],[])) else .inr (d,((0:Int),(c,(m,(jw (wk l n) b w).2))))):=by
 intro b
 induction b with
 |nil=>
  intro a w hl h1 h2
  rw [qq6]
  unfold qd6
  obtain⟨ms,bs⟩:=w
  dsimp only
  rw [if_neg (by simp)]
  rfl
 | cons x b ih =>
  intro a w hl h1 h2
  have hlen:(a++x::b).length=a.length+(b.length+1):=by simp
  have hw:w64 ((a.length:Int)+1)=((a.length+1:Nat):Int):=by rw [qh (by omega)];omega
  have hwd:w64 (4-(n:Int)+1)=5-(n:Int):=by rw [qh (by omega)];omega
  have ih:=fun w=>ih (a++[x]) w (by simp at hl ⊢;omega)
  rw [←jf] at ih
  have e1:((a++[x]).length:Int)=((a.length+1:Nat):Int):=by simp
  rw [e1] at ih
  have e:(x::b).length*S n=b.length*S n+S n:=by rw [List.length_cons,Nat.add_mul,Nat.one_mul]
  rw [e] at h1 h2
  have hb:=qbv l n x w
  have hnn:=hW x w (by omega) (by omega)
  have ih1:=ih w (by omega) (by omega)
  have ih2:=ih (wk l n x w).2 (by omega) (by omega)
  rw [qq6]
  unfold qd6
  obtain⟨ms,bs⟩:=w
  dsimp only at hnn ih1 h1 ⊢
  simp only [Int.toNat_natCast,hw,hwd]
  rw [if_pos (by rw [decide_eq_true_eq];omega),if_pos (by omega),if_pos (by omega),jc,qm3 (by omega),sb]
  unfold jw
  dsimp only
  cases hc:ms.contains x with
  |true=>
   rw [if_neg (by decide),if_pos rfl]
   exact ih1
  | false =>
   rw [if_pos (by decide),if_neg (show¬(false=true) by decide),hnn,sb]
   by_cases c:(wk l n x (ms,bs)).1=0
   ·rw [jdz c, if_neg (show ¬ ((0 : Int) != 0) = true by decide), if_neg (show ¬ ((wk l n x (ms, bs)).1 ≠ 0) by simp [c])]
    exact ih2
   ·rw [qx8 c,if_pos (by simpa using c),if_pos (show(wk l n x (ms,bs)).1≠0 from c),if_pos c]
theorem qyp(l:List Obj)(n:Nat)(d:Str)(w:WS):wk l (n+1) d w=(if(fnd l d).2≠0 then((fnd l d).2,w) else
  if(pM (fnd l d).1).2≠0 then((pM (fnd l d).1).2,w) else
  if(jw (wk l n) (kd l d) w).1≠0 then jw (wk l n) (kd l d) w else
  (0,((jw (wk l n) (kd l d) w).2.1++[d],qsg (jw (wk l n) (kd l d) w).2.2 (bl l d)))):=by
 conv=>lhs;unfold wk
 rfl
theorem jfc{l:List Obj}(hl:OL l): ∀n,n≤4→RWk l n:=by
 intro n
 induction n with
 |zero=>
  intro _ d w h1 h2
  rw [jer]
  unfold jeq
  obtain⟨ms,bs⟩:=w
  dsimp only
  rw [if_pos (by rw [decide_eq_true_eq];omega)]
  rfl
 | succ n ih =>
  intro hn d w h1 h2
  have hW:=ih (by omega)
  have ed:(5:Int)-((n+1:Nat):Int)=4-(n:Int):=by omega
  have hS:S (n+1)=8*S n+1:=rfl
  rw [hS] at h1 h2
  rw [ed,jer,qyp]
  unfold jeq
  by_cases c1:(fnd l d).2=0
  case neg=>
   obtain⟨ms,bs⟩:=w
   dsimp only
   rw [if_neg (by rw [decide_eq_true_eq];omega),yt hl,sb,if_pos (by simpa using c1),if_pos c1,qx8 (by exact c1)]
  by_cases c2:(pM (fnd l d).1).2=0
  case neg=>
   obtain⟨ms,bs⟩:=w
   dsimp only
   rw [if_neg (by rw [decide_eq_true_eq];omega),yt hl,sb,if_neg (by simp [c1]),if_neg (by simp [c1]),qa3,sb,if_pos (by simpa using c2),if_pos c2,qx8 (by exact c2)]
  obtain⟨k1,k2,k3⟩:=qhm c2
  obtain⟨m1,m2,_⟩:=qox c2
  have h8:(pM (fnd l d).1).1.2.2.2.length*S n≤8*S n:=Nat.mul_le_mul_right _ k1
  have he:=jg6 (by omega) hW d 0 (pM (fnd l d).1).1 (pM (fnd l d).1).1.2.2.2 [] w (by rw [List.nil_append];omega) (by omega) (by omega)
  rw [List.nil_append] at he
  have hlen:=y7 (qbv l n) (pM (fnd l d).1).1.2.2.2 w
  have hkd:kd l d=(pM (fnd l d).1).1.2.2.2:=rfl
  have hbl:bl l d=q6 (pM (fnd l d).1).1:=rfl
  rw [hkd,hbl]
  generalize hr:jw (wk l n) (pM (fnd l d).1).1.2.2.2 w=r at he hlen ⊢
  have he:yw (((0:Int),(4-(n:Int),(l,((pM (fnd l d).1).1.2.2.2,(d,((pM (fnd l d).1).1.2.2.2.length:Int)))))),((0:Int),((0:Int),((pM (fnd l d).1).1,w))))=_:=he
  obtain⟨ms,bs⟩:=w
  dsimp only at he ⊢
  rw [if_neg (by rw [decide_eq_true_eq];omega),yt hl,sb,if_neg (by simp [c1]),if_neg (by simp [c1]),qa3,sb,if_neg (by simp [c2]),if_neg (by simp [c2]),he,sb]
  by_cases c3:r.1=0
  ·have hl25 := jg7 d 0 0 r.2.1 (q6 (pM (fnd l d).1).1) [] r.2.2 (by rw [List.nil_append]; omega) (by omega)
   rw [List.nil_append] at hl25
   have hl25:qby (((0:Int),(q6 (pM (fnd l d).1).1,(d,((q6 (pM (fnd l d).1).1).length:Int)))),((0:Int),((0:Int),r.2)))=_:=hl25
   rw [if_neg (show¬(r.1≠0) from fun h=>h c3),if_neg (show¬(r.1≠0) from fun h=>h c3),jdz rfl]
   show(z13 (pM (fnd l d).1).1>>=_)=_
   rw [q4m m1,sb]
   show(qby (((0:Int),(q6 (pM (fnd l d).1).1,(d,((q6 (pM (fnd l d).1).1).length:Int)))),((0:Int),((0:Int),r.2)))>>=_)=_
   rw [hl25,sb]
   dsimp only
   rw [if_pos (by constructor <;>simp <;>omega)]
  ·rw [if_pos (show r.1 ≠ 0 from c3), if_pos (show r.1 ≠ 0 from c3), qx8 c3]
   rfl
theorem jpy{l:List Obj}(hl:OL l)(d:Str):z0s (l,((0:Int),(d,(1:Int))))=some (rT (wk l 4 d ([],[]))):=by
 have hW:=jfc hl 3 (by omega)
 have s3:S 3=73:=rfl
 rw [qyp]
 unfold z0s
 dsimp only
 by_cases c1:(fnd l d).2=0
 case neg=>
  rw [if_neg (by decide),yt hl,sb,if_pos (by simpa using c1),if_pos c1,qx8 (by exact c1)]
 by_cases c2:(pM (fnd l d).1).2=0
 case neg=>
  rw [if_neg (by decide),yt hl,sb,if_neg (by simp [c1]),if_neg (by simp [c1]),qa3,sb,if_pos (by simpa using c2),if_pos c2,qx8 (by exact c2)]
 obtain⟨k1,k2,k3⟩:=qhm c2
 obtain⟨m1,m2,_⟩:=qox c2
 have h8:(pM (fnd l d).1).1.2.2.2.length*S 3≤8*S 3:=Nat.mul_le_mul_right _ k1
 have he:=jd6 (by omega) hW d 0 (pM (fnd l d).1).1 (pM (fnd l d).1).1.2.2.2 [] (([],[]):WS) (by rw [List.nil_append];omega) (by simp only [List.length_nil];omega) (by simp only [List.length_nil];omega)
 rw [List.nil_append] at he
 have hlen:=y7 (qbv l 3) (pM (fnd l d).1).1.2.2.2 (([],[]):WS)
 have hkd:kd l d=(pM (fnd l d).1).1.2.2.2:=rfl
 have hbl:bl l d=q6 (pM (fnd l d).1).1:=rfl
 rw [hkd,hbl]
 generalize hr:jw (wk l 3) (pM (fnd l d).1).1.2.2.2 (([],[]):WS)=r at he hlen ⊢
 simp only [List.length_nil] at hlen
 have he:qi1 (((0:Int),((1:Int),(l,((pM (fnd l d).1).1.2.2.2,(d,((pM (fnd l d).1).1.2.2.2.length:Int)))))),((0:Int),((0:Int),((pM (fnd l d).1).1,([],[])))))=some (if r.1≠0 then .inl (r.1,([],[])) else .inr (d,((0:Int),((0:Int),((pM (fnd l d).1).1,r.2))))):=he
 rw [if_neg (by decide),yt hl,sb,if_neg (by simp [c1]),if_neg (by simp [c1]),qa3,sb,if_neg (by simp [c2]),if_neg (by simp [c2]),he,sb]
 by_cases c3:r.1=0
 ·have hl25 := jd7 d 0 0 r.2.1 (q6 (pM (fnd l d).1).1) [] r.2.2 (by rw [List.nil_append]; omega) (by omega)
  rw [List.nil_append] at hl25
  have hl25:qe5 (((0:Int),(q6 (pM (fnd l d).1).1,(d,((q6 (pM (fnd l d).1).1).length:Int)))),((0:Int),((0:Int),r.2)))=_:=hl25
  rw [if_neg (show¬(r.1≠0) from fun h=>h c3),if_neg (show¬(r.1≠0) from fun h=>h c3),jdz rfl]
  show(z13 (pM (fnd l d).1).1>>=_)=_
  rw [q4m m1,sb]
  show(qe5 (((0:Int),(q6 (pM (fnd l d).1).1,(d,((q6 (pM (fnd l d).1).1).length:Int)))),((0:Int),((0:Int),r.2)))>>=_)=_
  rw [hl25,sb]
  dsimp only
  rw [if_pos (by constructor <;>simp <;>omega)]
 ·rw [if_pos (show r.1 ≠ 0 from c3), if_pos (show r.1 ≠ 0 from c3), qx8 c3]
  rfl
end Go.Plain
