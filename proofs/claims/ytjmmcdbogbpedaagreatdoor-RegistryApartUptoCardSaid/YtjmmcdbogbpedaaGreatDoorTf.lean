import Derived.Test.YtjmmcdbogbpedaaGreatDoorMani
import Derived.Test.YtjmmcdbogbpedaaGreatDoorPrn
namespace Go.Plain
open Go.AM
def qw(s:Str):GVal:= .mk 2 0 s [] []
def jl(l:Str×Int):GVal:= .mk 4 0 [] [qw l.1,.mk 1 l.2 [] [] []] [[100,105,103,101,115,116],[115,105,122,101]]
def val(m:Man):GVal:=
 if m.1 then .mk 4 0 [] [.mk 3 0 [] (m.2.2.2.map qw) [],qw [105,110,100,101,120]] [[107,105,100,115],[107,105,110,100]]
 else .mk 4 0 [] [qw m.2.1,qw [105,109,97,103,101],.mk 3 0 [] (m.2.2.1.map jl) []] [[99,111,110,102,105,103],[107,105,110,100],[108,97,121,101,114,115]]
theorem q01(c:Int×(Int×(Str×List Str)))(c1:GVal): ∀(b a:List Str) (d:List GVal),(a++b).length≤5000→d.length≤a.length→
  qnc (((a.length:Int),(a++b,((a++b).length:Int))),(c,(c1,d)))=some (c1,(c,d++b.map qw)):=by
 intro b
 induction b with
 |nil=>
  intro a d hl _
  rw [qqc]
  unfold qgz
  dsimp only
  rw [if_neg (by simp),jq]
  simp
 |cons x b ih=>
  intro a d hl hd
  have hl2:(a++x::b).length=a.length+(b.length+1):=by simp
  have hw:w64 ((a.length:Int)+1)=(a.length:Int)+1:=qx (by omega)
  have h1:=ih (a++[x]) (d++[qw x]) (by simp at hl ⊢;omega) (by simp;omega)
  rw [z7,←wg] at h1
  rw [qqc]
  unfold qgz
  dsimp only
  have hwd:z1o x=some (qw x):=rfl
  rw [Int.toNat_natCast,kx .str,if_pos (by rw [decide_eq_true_eq];omega),if_pos (by omega),if_pos (by omega),hwd,sb,jq,if_pos (by constructor <;>(simp;omega)),jq,hw,h1]
  simp
theorem qwu(c:Int×(Int×(Str×List Str)))(c1:GVal): ∀(b a:List (Str×Int)) (d:List GVal),(a++b).length≤5000→d.length≤a.length→
  qna (((a.length:Int),(a++b,((a++b).length:Int))),(c,(c1,d)))=some (c1,(c,d++b.map jl)):=by
 intro b
 induction b with
 |nil=>
  intro a d hl _
  rw [qqa]
  unfold qgx
  dsimp only
  rw [if_neg (by simp),jq]
  simp
 |cons x b ih=>
  intro a d hl hd
  have hl2:(a++x::b).length=a.length+(b.length+1):=by simp
  have hw:w64 ((a.length:Int)+1)=(a.length:Int)+1:=qx (by omega)
  have h1:=ih (a++[x]) (d++[jl x]) (by simp at hl ⊢;omega) (by simp;omega)
  rw [z7,←wg] at h1
  rw [qqa]
  unfold qgx
  dsimp only
  have hwd:z30 x=some (jl x):=rfl
  rw [Int.toNat_natCast,kx (.pair .str (.int .i64)),if_pos (by rw [decide_eq_true_eq];omega),if_pos (by omega),if_pos (by omega),hwd,sb,jq,if_pos (by constructor <;>(simp;omega)),jq,hw,h1]
  simp
theorem q5u{m:Man}(hm:MB m):z2o m=some (val m):=by
 have h:=q01 ((3:Int),((0:Int),([],[]))) (GVal.mk (0:Int) (0:Int) [] [] []) m.2.2.2 [] [] (by simpa using hm.2.2.2.1) (by simp)
 have g:=qwu ((3:Int),((0:Int),([],[]))) (GVal.mk (0:Int) (0:Int) [] [] []) m.2.2.1 [] [] (by simpa using hm.2.1) (by simp)
 have h:qnc (((0:Int),(m.2.2.2,(m.2.2.2.length:Int))),_)=_:=h
 have g:qna (((0:Int),(m.2.2.1,(m.2.2.1.length:Int))),_)=_:=g
 unfold z2o z19 z17 val
 cases m.1 with
 |true=>
  rw [if_pos rfl,h]
  rfl
 |false=>
  rw [if_neg (show¬(false=true) by decide),g]
  rfl
theorem qz9{b:UInt8}(h:wo b=true):okC b=true:=by
 simp only [wo,Bool.or_eq_true,Bool.and_eq_true,decide_eq_true_eq] at h
 simp only [okC,Bool.not_eq_true',Bool.or_eq_false_iff,decide_eq_false_iff_not]
 omega
theorem u7{s:Str}(h:isD s=true):s.length=71:=by
 simp only [isD,Bool.and_eq_true,decide_eq_true_eq] at h
 exact h.1.1
theorem qq1{s:Str}(h:isD s=true):okW s=true:=by
 have hl:=u7 h
 simp only [isD,Bool.and_eq_true,decide_eq_true_eq] at h
 have e:s=qd7++s.drop 7:=by
  rw [←h.1.2]
  exact(List.take_append_drop 7 s).symm
 unfold okW
 rw [decide_eq_true (by omega),Bool.and_true,e,List.all_append]
 have h2:qd7.all okC=true:=by decide
 rw [h2,Bool.true_and,List.all_eq_true]
 intro x hx
 exact qz9 (List.all_eq_true.1 h.2 x hx)
theorem qrp(d:Nat)(items:List GVal)(names:List Str):okV (d+1) (.mk 4 0 [] items names)=(decide (items.length≤16)&&(okN names&&decide (names.length=items.length)&&items.all (okV d))):=by
 simp [okV,GVal.items,GVal.kind,GVal.names,GVal.s,GVal.n]
 rfl
theorem qyc(d:Nat)(items:List GVal):okV (d+1) (.mk 3 0 [] items [])=(decide (items.length≤16)&&items.all (okV d)):=by
 simp [okV,GVal.items,GVal.kind,GVal.names,GVal.s,GVal.n]
 rfl
theorem q7j(d:Nat)(n:Int):okV (d+1) (.mk 1 n [] [] [])=(decide (0≤n)&&decide (n≤1099511627776)):=by
 simp [okV,GVal.items,GVal.kind,GVal.names,GVal.s,GVal.n]
 rfl
theorem qq8: ∀{l a:List Str},kf a l=true→∀x∈l,isD x=true
 |[],_,_,x,hx=>by cases hx
 |k::r,a,h,x,hx=>by
  simp only [kf,Bool.and_eq_true] at h
  rcases List.mem_cons.1 hx with rfl|hx
  ·exact h.1.1
  ·exact qq8 h.2 x hx
theorem qtr{l:Str×Int}(h:lf l=true):isD l.1=true∧0≤l.2∧l.2≤4096:=by
 simp only [lf,Bool.and_eq_true,decide_eq_true_eq] at h
 exact⟨h.1.1,h.1.2,h.2⟩
theorem qc2{m:Man}(h:okM m=true)(hi:m.1=true):kf [] m.2.2.2=true∧1≤m.2.2.2.length∧m.2.2.2.length≤8∧m.2.1=[]∧m.2.2.1=[]:=by
 unfold okM at h
 rw [hi,if_pos rfl] at h
 simp only [Bool.and_eq_true,decide_eq_true_eq] at h
 exact⟨h.1.1.1.1,h.1.1.1.2,h.1.1.2,h.1.2,h.2⟩
theorem qc1{m:Man}(h:okM m=true)(hi:m.1=false):isD m.2.1=true∧m.2.2.2=[]∧m.2.2.1.length≤8∧∀l∈m.2.2.1,lf l=true:=by
 unfold okM at h
 rw [hi,if_neg (show¬(false=true) by decide)] at h
 simp only [Bool.and_eq_true,decide_eq_true_eq,List.all_eq_true] at h
 exact⟨h.1.1.1,h.1.1.2,h.1.2,h.2⟩
theorem qbs:okN [[100,105,103,101,115,116],[115,105,122,101]]=true:=by decide
theorem qbr:okN [[107,105,100,115],[107,105,110,100]]=true:=by decide
theorem gn:okN [[99,111,110,102,105,103],[107,105,110,100],[108,97,121,101,114,115]]=true:=by decide
theorem q0j(d:Nat){l:Str×Int}(h:lf l=true):okV (d+2) (jl l)=true:=by
 obtain⟨h1,h2,h3⟩:=qtr h
 unfold jl qw
 rw [qrp,qbs]
 simp only [List.all_cons,List.all_nil,qfi,q7j,qq1 h1]
 simp
 omega
theorem qfh{m:Man}(h:okM m=true):okV 6 (val m)=true:=by
 unfold val
 cases hi:m.1 with
 | true =>
  obtain⟨h1,h2,h3,h4,h5⟩:=qc2 h hi
  rw [if_pos rfl,qrp,qbr]
  simp only [List.all_cons,List.all_nil,qyc,qw,qfi]
  have:(m.2.2.2.map fun s=>GVal.mk 2 0 s [] []).all (okV 4)=true:=by
   rw [List.all_map,List.all_eq_true]
   intro x hx
   show okV 4 (GVal.mk 2 0 x [] [])=true
   rw [qfi,qq1 (qq8 h1 x hx)]
  have this:(List.map qw m.2.2.2).all (okV 4)=true:=this
  rw [this,List.length_map]
  have:okW ([105,110,100,101,120]:Str)=true:=by decide
  rw [this,decide_eq_true (p:=m.2.2.2.length≤16) (by omega)]
  rfl
 | false =>
  obtain⟨h1,h2,h3,h4⟩:=qc1 h hi
  rw [if_neg (show¬(false=true) by decide),qrp,gn]
  simp only [List.all_cons,List.all_nil,qyc,qw,qfi]
  have:(m.2.2.1.map jl).all (okV 4)=true:=by
   rw [List.all_map,List.all_eq_true]
   intro x hx
   exact q0j 2 (h4 x hx)
  rw [this,List.length_map,qq1 h1]
  have:okW ([105,109,97,103,101]:Str)=true:=by decide
  rw [this,decide_eq_true (p:=m.2.2.1.length≤16) (by omega)]
  rfl
noncomputable def qbp(l:Str×Int):Str:=[123,34,100,105,103,101,115,116,34,58,34]++l.1++[34,44,34,115,105,122,101,34,58]++Lib.itoa l.2++[125]
theorem qfu(s:Str):txt (qw s)=quo s:=by
 unfold qw txt
 rw [if_neg (by decide),if_pos rfl]
theorem q1c(l:Str×Int):txt (jl l)=qbp l:=by
 have h1:=qfu l.1
 unfold qw at h1
 unfold jl qbp qw
 rw [xt (by decide) (by decide)]
 have h2:txt (.mk 1 l.2 [] [] [])=Lib.itoa l.2:=by unfold txt;rw [if_pos rfl]
 simp [q6,jr,qa1,quo,h1,h2]
theorem q1b{m:Man}(h:m.1=true):txt (val m)=[123,34,107,105,100,115,34,58,91]++jr true (m.2.2.2.map quo)++[93,44,34,107,105,110,100,34,58,34,105,110,100,101,120,34,125]:=by
 unfold val
 rw [h,if_pos rfl,xt (by decide) (by decide)]
 have h1:txt (.mk 3 0 [] (m.2.2.2.map qw) [])=[91]++jr true (m.2.2.2.map quo)++[93]:=by
  rw [xt (by decide) (by decide)]
  have:(m.2.2.2.map qw).map txt=m.2.2.2.map quo:=by
   rw [List.map_map]
   exact List.map_congr_left fun x _=>qfu x
  simp [q6,this]
 simp [q6,jr,qa1,quo,h1,qfu]
theorem qpd{m:Man}(h:m.1=false):txt (val m)=[123,34,99,111,110,102,105,103,34,58,34]++m.2.1++[34,44,34,107,105,110,100,34,58,34,105,109,97,103,101,34,44,34,108,97,121,101,114,115,34,58,91]++jr true (m.2.2.1.map qbp)++[93,125]:=by
 unfold val
 rw [h,if_neg (show¬(false=true) by decide),xt (by decide) (by decide)]
 have h1:txt (.mk 3 0 [] (m.2.2.1.map jl) [])=[91]++jr true (m.2.2.1.map qbp)++[93]:=by
  rw [xt (by decide) (by decide)]
  have:(m.2.2.1.map jl).map txt=m.2.2.1.map qbp:=by
   rw [List.map_map]
   exact List.map_congr_left fun x _=>q1c x
  simp [q6,this]
 simp [q6,jr,qa1,quo,h1,qfu]
theorem qwa{l:Str×Int}(h0:0≤l.2)(h1:l.2≤1099511627776):(qbp l).length≤l.1.length+45:=by
 have hl:(Lib.itoa l.2).length≤21:=by
  have:=Lib.itoa_length_le l.2 (by omega) (by omega)
  omega
 unfold qbp
 simp only [List.length_append,List.length_cons,List.length_nil]
 omega
end Go.Plain
namespace Go.Plain
open Go.AM
theorem gw{m:Man}(h:okM m=true):(txt (val m)).length≤4096:=by
 cases hi:m.1 with
 | true =>
  obtain⟨h1,h2,h3,h4,h5⟩:=qc2 h hi
  have hj:=qq5 73 (m.2.2.2.map quo) true (fun x hx=>by
   obtain⟨y,hy,rfl⟩:=List.mem_map.1 hx
   have:=u7 (qq8 h1 y hy)
   simp [quo]
   omega)
  rw [List.length_map] at hj
  rw [q1b hi]
  simp only [List.length_append,List.length_cons,List.length_nil]
  omega
 | false =>
  obtain⟨h1,h2,h3,h4⟩:=qc1 h hi
  have hj:=qq5 116 (m.2.2.1.map qbp) true (fun x hx=>by
   obtain⟨y,hy,rfl⟩:=List.mem_map.1 hx
   obtain⟨q1,q2,q3⟩:=qtr (h4 y hy)
   have:=u7 q1
   have:=qwa (l:=y) q2 (by omega)
   omega)
  rw [List.length_map] at hj
  have:=u7 h1
  rw [qpd hi]
  simp only [List.length_append,List.length_cons,List.length_nil]
  omega
theorem qbi{s:Str}(h:s.length≤5000):inV (qw s):=⟨by decide,by decide,by omega,by decide,trivial,by decide,fun _ h=>by cases h⟩
theorem qop{l:Str×Int}(h:l.1.length≤5000)(h2: -9223372036854775808≤l.2∧l.2≤9223372036854775807):inV (jl l):=
 ⟨by decide, by decide, by decide, by simp, ⟨qbi h, ⟨by decide, h2, by decide, by decide, trivial, by decide, fun _ h => by cases h⟩, trivial⟩, by decide, fun x hx => by
  simp at hx
  rcases hx with rfl|rfl <;>simp⟩
theorem qx2{m:Man}(hm:MB m):inV (val m):=by
 obtain⟨h1,h2,h3,h4,h5⟩:=hm
 unfold val
 cases m.1 with
 | true =>
  rw [if_pos rfl]
  refine⟨by decide,by decide,by decide,by simp,⟨⟨by decide,by decide,by decide,by rw [List.length_map];omega,qji fun x hx=> ?_,by decide,fun _ h=>by cases h⟩,qbi (by simp),trivial⟩,by decide,fun x hx=>by
   simp at hx
   rcases hx with rfl|rfl <;>simp⟩
  obtain⟨y,hy,rfl⟩:=List.mem_map.1 hx
  exact qbi (h5 y hy)
 | false =>
  rw [if_neg (show¬(false=true) by decide)]
  refine⟨by decide,by decide,by decide,by simp,⟨qbi h1,qbi (by simp),⟨by decide,by decide,by decide,by rw [List.length_map];omega,qji fun x hx=> ?_,by decide,fun _ h=>by cases h⟩,trivial⟩,by decide,fun x hx=>by
   simp at hx
   rcases hx with rfl|rfl|rfl <;>simp⟩
  obtain⟨y,hy,rfl⟩:=List.mem_map.1 hx
  exact qop (h3 y hy).1 (h3 y hy).2
theorem q54{m:Man}(hm:MB m):z1s m=some (if okM m then(txt (val m),0) else([],1)):=by
 unfold z1s
 rw [q50 hm,sb]
 cases h:okM m with
 |false=>rfl
 |true=>
  rw [if_neg (by decide),q5u hm,sb,jq,q56 (qx2 hm),sb,qfh h,if_pos rfl,if_neg (by have:=gw h;omega)]
  rfl
def need(c:List Str)(l:List (Str×Int)):List Str:=l.foldl (fun c x=>if c.contains x.1 then c else c++[x.1]) c
theorem qoz(c:List Str)(x:Str×Int)(l:List (Str×Int)):need c (x::l)=need (if c.contains x.1 then c else c++[x.1]) l:=rfl
theorem qsg: ∀(b a:List (Str×Int)) (c:List Str),(a++b).length≤5000→c.length≤a.length+1→
  qmu (((a.length:Int),(a++b,((a++b).length:Int))),c)=some (need c b):=by
 intro b
 induction b with
 |nil=>
  intro a c hl _
  rw [qpv]
  unfold qgh
  dsimp only
  rw [if_neg (by simp)]
  rfl
 | cons x b ih =>
  intro a c hl hc
  have hl2:(a++x::b).length=a.length+(b.length+1):=by simp
  have hw:w64 ((a.length:Int)+1)=(a.length:Int)+1:=qx (by omega)
  have ih:=fun o=>ih (a++[x]) o (by simp at hl ⊢;omega)
  rw [z7,←wg] at ih
  rw [qpv,qoz]
  unfold qgh
  dsimp only
  rw [Int.toNat_natCast,kx (.pair .str (.int .i64)),if_pos (by rw [decide_eq_true_eq];omega),if_pos (by omega),if_pos (by omega),hw,qy (by omega),sb]
  cases c.contains x.1 with
  |true=>
   rw [if_neg (by decide),ih _ (by simp;omega)]
   rfl
  |false=>
   rw [if_pos (show(!false)=true by rfl),if_pos (by constructor <;>(simp;omega)),ih _ (by simp;omega)]
   rfl
def vr(m:Man):List Str:=if m.1 then [] else if okM m then need [m.2.1] m.2.2.1 else []
theorem qxe{m:Man}(hm:MB m):z0k m=some (vr m):=by
 unfold z0k vr
 cases m.1 with
 |true=>rfl
 |false=>
  have h:=qsg m.2.2.1 [] [m.2.1] (by simpa using hm.2.1) (by simp)
  have h:qmu (((0:Int),(m.2.2.1,(m.2.2.1.length:Int))),[m.2.1])=_:=h
  rw [if_neg (show¬(false=true) by decide),q50 hm,sb,h,sb]
  cases okM m <;>rfl
theorem q4d: ∀(l:List (Str×Int)) (c:List Str),(need c l).length≤c.length+l.length:=by
 intro l
 induction l with
 |nil=>intro c;exact Nat.le_refl _
 |cons x l ih=>
  intro c
  rw [qoz]
  refine Nat.le_trans (ih _) ?_
  split <;>(simp;try omega)
theorem qj8(m:Man):(vr m).length≤m.2.2.1.length+1:=by
 unfold vr
 split
 ·simp
 split
 ·have := q4d m.2.2.1 [m.2.1]
  simp at this
  omega
 ·simp
end Go.Plain
namespace Go.Plain
open Go.AM
end Go.Plain
namespace Go.Plain
open Go.AM
abbrev qah:Str:=[100,105,103,101,115,116]
abbrev qlu:Str:=[115,105,122,101]
theorem qro{d:Nat}{v:GVal}(h:okV (d+1) v=true):v.s.length≤200∧v.items.length≤16∧(∀x∈v.items,okV d x=true)∧(v.kind=4→v.names.length=v.items.length∧okN v.names=true):=by
 obtain⟨h1,h2⟩:=qhj h
 rcases h2 with⟨k,i,n,s,_⟩|⟨k,i,n,_,w⟩|⟨k,n,_,s,a⟩|⟨k,o,n,_,s,a⟩
 ·rw [s, i]
  exact⟨by simp,by simp,(fun x hx=>by cases hx),fun q=>by rw [k] at q;cases q⟩
 ·rw [i]
  exact⟨qrq w,by simp,(fun x hx=>by cases hx),fun q=>by rw [k] at q;cases q⟩
 ·rw [s]
  exact⟨by simp,h1,a,fun q=>by rw [k] at q;cases q⟩
 ·rw [s]
  exact⟨by simp,h1,a,fun _=>⟨n,o⟩⟩
theorem jee{v:GVal}(h:inV v): -9223372036854775808≤v.n∧v.n≤9223372036854775807:=by cases v;exact h.2.1
theorem qcr{d:Nat}{v:GVal}(hv:inV v)(h:okV (d+1) v=true)(nm:Str)(kind:Int): ∃x f,z0o (v,(nm,kind))=some (x,f)∧inV x∧x.s.length≤200∧x.items.length≤16∧
  (∀y∈x.items,inV y)∧(∀e,d=e+1→∀y∈x.items,okV e y=true):=by
 obtain⟨_,_,h3,h4⟩:=qro h
 obtain⟨x,f,h1,h2⟩:=qvg hv (fun k=>(h4 k).1) nm kind
 refine⟨x,f,h1, ?_⟩
 rcases h2 with⟨_,rfl,_⟩|⟨_,_,j,_,hj,_⟩
 ·exact⟨⟨by decide,by decide,by decide,by decide,trivial,by decide,fun _ h=>by cases h⟩,by decide,by decide,(fun y hy=>by cases hy),fun _ _ y hy=>by cases hy⟩
 ·have hm := List.mem_of_getElem? hj
  have hx:=qbj (qhf hv).2.2.1 x hm
  have ho:=h3 x hm
  match d,ho with
  | e + 1, ho =>
   obtain⟨q1,q2,q3,_⟩:=qro ho
   exact⟨hx,q1,q2,qbj (qhf hx).2.2.1,fun e' he=>by
    injection he with he
    rw [←he]
    exact q3⟩
theorem qjs{v:GVal}(hv:inV v)(h4:v.kind=4→v.names.length=v.items.length){nm:Str}{kind:Int}(hn:nm∉v.names):z0o (v,(nm,kind))=some (.mk 0 0 [] [] [],8):=by
 obtain⟨x,f,h1,h2⟩:=qvg hv h4 nm kind
 rcases h2 with⟨rfl,rfl,_⟩|⟨_,_,j,hj,_⟩
 ·exact h1
 ·exact absurd (List.mem_of_getElem? hj) hn
theorem qd1{v y:GVal}(hv:inV v)(k:v.kind=4)(hl:v.names.length=v.items.length)(ho:okN v.names=true){nm:Str}(j:Nat)(hj:v.names[j]? =some nm)(hy:v.items[j]? =some y):
  z0o (v,(nm,y.kind))=some (y,0):=by
 obtain⟨x,f,h1,h2⟩:=qvg hv (fun _=>hl) nm y.kind
 rcases h2 with⟨_,_,h⟩|⟨rfl,_,j',hj',hx,_⟩
 ·exact absurd rfl (h k ho j y hj hy)
 ·have := qlb ho j j' nm hj hj'
  subst this
  rw [hy] at hx
  injection hx with hx
  rw [h1,hx]
noncomputable def rdL(x:GVal):Str×Int:=match z0o (x,(qah,2)),z0o (x,(qlu,1)) with
 |some g,some g1=>(g.1.s,g1.1.n)
 |_,_=>([],0)
theorem qwt(c c1:Bool×Str)(c2:GVal): ∀(b a:List GVal) (r:List (Str×Int)),(a++b).length≤5000→r.length≤a.length→(∀x∈b,(∃g,z0o (x,(qah,2))=some g)∧∃g,z0o (x,(qlu,1))=some g)→
  qmo (((a.length:Int),(a++b,((a++b).length:Int))),(c,(c1,(c2,r))))=some (c,(c1,(c2,r++b.map rdL))):=by
 intro b
 induction b with
 |nil=>
  intro a r hl _ _
  rw [qpq]
  unfold qgc
  dsimp only
  rw [if_neg (by simp),jq]
  simp
 |cons x b ih=>
  intro a r hl hr hx
  have hl2:(a++x::b).length=a.length+(b.length+1):=by simp
  have hw:w64 ((a.length:Int)+1)=(a.length:Int)+1:=qx (by omega)
  obtain⟨⟨g,h1⟩,g1,h2⟩:=hx x (by simp)
  have ih:=ih (a++[x]) (r++[(g.1.s,g1.1.n)]) (by simp at hl ⊢;omega) (by simp;omega) (fun y hy=>hx y (by simp [hy]))
  rw [z7,←wg] at ih
  have e:rdL x=(g.1.s,g1.1.n):=by unfold rdL;rw [h1,h2]
  rw [qpq]
  unfold qgc
  dsimp only
  rw [Int.toNat_natCast,kx .val,jq,jq,if_pos (by rw [decide_eq_true_eq];omega),if_pos (by omega),if_pos (by omega),h1,sb,h2,sb,if_pos (by constructor <;>(simp;omega)),hw,ih]
  simp [e]
theorem qub(c c1:Bool×Str)(c2:List (Str×Int)): ∀(b a:List GVal) (r:List Str),(a++b).length≤5000→r.length≤a.length→
  qgb (((a.length:Int),(a++b,((a++b).length:Int))),(c,(c1,(c2,r))))=some (c1,(c,(c2,r++b.map GVal.s))):=by
 intro b
 induction b with
 |nil=>
  intro a r hl _
  rw [qmn]
  unfold qco
  dsimp only
  rw [if_neg (by simp)]
  simp
 |cons x b ih=>
  intro a r hl hr
  have hl2:(a++x::b).length=a.length+(b.length+1):=by simp
  have hw:w64 ((a.length:Int)+1)=(a.length:Int)+1:=qx (by omega)
  have ih:=ih (a++[x]) (r++[x.s]) (by simp at hl ⊢;omega) (by simp;omega)
  rw [z7,←wg] at ih
  rw [qmn]
  unfold qco
  dsimp only
  rw [Int.toNat_natCast,kx .val,if_pos (by rw [decide_eq_true_eq];omega),if_pos (by omega),if_pos (by omega),if_pos (by constructor <;>(simp;omega)),hw,ih]
  simp
abbrev yx:Str:=[107,105,110,100]
abbrev xp:Str:=[99,111,110,102,105,103]
abbrev xq:Str:=[108,97,121,101,114,115]
abbrev qau:Str:=[107,105,100,115]
abbrev g9:Str:=[105,110,100,101,120]
theorem qr0{v:GVal}{g g1 g2 g3:GVal×Int}(h0:z0o (v,(yx,2))=some g)(h1:z0o (v,(xp,2))=some g1)(h2:z0o (v,(xq,3))=some g2)(h3:z0o (v,(qau,3))=some g3)
  (l2:g2.1.items.length≤5000) (l3:g3.1.items.length≤5000) (hl: ∀x∈g2.1.items,(∃g,z0o (x,(qah,2))=some g)∧∃g,z0o (x,(qlu,1))=some g):
  z0c v=some (g.1.s==g9,(g1.1.s,(g2.1.items.map rdL,g3.1.items.map GVal.s))):=by
 have q1:=qwt (g.1.s==g9,g1.1.s) (false,[]) g3.1 g2.1.items [] [] (by simpa using l2) (by simp) hl
 have q1:qmo (((0:Int),(g2.1.items,(g2.1.items.length:Int))),_)=_:=q1
 have q2:=qub (g.1.s==g9,g1.1.s) (false,[]) (g2.1.items.map rdL) g3.1.items [] [] (by simpa using l3) (by simp)
 have q2:qgb (((0:Int),(g3.1.items,(g3.1.items.length:Int))),_)=_:=q2
 unfold z0c
 rw [jq,h0,sb,h1,sb,h2,sb,h3,sb,jq,q1,sb]
 dsimp only
 rw [List.nil_append,q2,sb]
 rfl
theorem q0w{v:GVal}(hv:inV v)(h:okV 6 v=true): ∃m,z0c v=some m∧MB m:=by
 obtain⟨x0,f0,a0,b0,c0,_⟩:=qcr hv h yx 2
 obtain⟨x1,f1,a1,b1,c1,_⟩:=qcr hv h xp 2
 obtain⟨x2,f2,a2,b2,_,d2,e2,o2⟩:=qcr hv h xq 3
 obtain⟨x3,f3,a3,b3,_,d3,e3,o3⟩:=qcr hv h qau 3
 have hg: ∀x∈x2.items,∃g f g1 f1,z0o (x,(qah,2))=some (g,f)∧z0o (x,(qlu,1))=some (g1,f1)∧g.s.length≤200∧inV g1:=fun x hx=>by
  obtain⟨g,f,p1,_,p2,_⟩:=qcr (d:=3) (e2 x hx) (o2 4 rfl x hx) qah 2
  obtain⟨g1,f1,q1,q2,_⟩:=qcr (d:=3) (e2 x hx) (o2 4 rfl x hx) qlu 1
  exact⟨g,f,g1,f1,p1,q1,p2,q2⟩
 refine⟨_,qr0 a0 a1 a2 a3 (by show x2.items.length≤_;omega) (by show x3.items.length≤_;omega) (fun x hx=> ?_), ?_, ?_,fun l hl=> ?_, ?_,fun k hk=> ?_⟩
 ·obtain ⟨g, f, g1, f1, p1, p2, _⟩ := hg x hx
  exact⟨⟨_,p1⟩,_,p2⟩
 ·show x1.s.length ≤ _
  omega
 ·show (x2.items.map rdL).length ≤ _
  rw [List.length_map]
  omega
 ·obtain ⟨x, hx, rfl⟩ := List.mem_map.1 hl
  obtain⟨g,f,g1,f1,p1,p2,p3,p4⟩:=hg x hx
  have e:rdL x=(g.s,g1.n):=by unfold rdL;rw [p1,p2]
  rw [e]
  exact⟨by show g.s.length≤_;omega,jee p4⟩
 ·show (x3.items.map GVal.s).length ≤ _
  rw [List.length_map]
  omega
 ·obtain ⟨x, hx, rfl⟩ := List.mem_map.1 hk
  have:=(qro (d:=3) (o3 4 rfl x hx)).1
  omega
theorem qo5{l:Str×Int}(h:l.1.length≤5000)(h2: -9223372036854775808≤l.2∧l.2≤9223372036854775807):z0o (jl l,(qah,2))=some (qw l.1,0)∧z0o (jl l,(qlu,1))=some (.mk 1 l.2 [] [] [],0)∧rdL (jl l)=l:=by
 have hv:=qop h h2
 have g1:z0o (jl l,(qah,2))=some (qw l.1,0):=qd1 (y:=qw l.1) hv rfl rfl qbs 0 rfl rfl
 have g2:z0o (jl l,(qlu,1))=some (.mk 1 l.2 [] [] [],0):=qd1 (y:= .mk 1 l.2 [] [] []) hv rfl rfl qbs 1 rfl rfl
 refine⟨g1,g2, ?_⟩
 unfold rdL
 rw [g1,g2]
 rfl
theorem qeg{m:Man}(hm:MB m)(h:okM m=true):z0c (val m)=some m:=by
 have hv:=qx2 hm
 obtain⟨b1,b2,b3,b4,b5⟩:=hm
 obtain⟨ix,cf,ls,ks⟩:=m
 cases ix with
 | true =>
  obtain⟨h1,h2,h3,h4,h5⟩:=qc2 h rfl
  have h4:cf=[]:=h4
  have h5:ls=[]:=h5
  subst h4 h5
  have e:val (true,([],([],ks)))= .mk 4 0 [] [.mk 3 0 [] (ks.map qw) [],qw g9] [qau,yx]:=rfl
  rw [e] at hv ⊢
  have g0:z0o (GVal.mk 4 0 [] [.mk 3 0 [] (ks.map qw) [],qw g9] [qau,yx],(yx,2))=some (qw g9,0):=qd1 (y:=qw g9) hv rfl rfl qbr 1 rfl rfl
  have g3:z0o (GVal.mk 4 0 [] [.mk 3 0 [] (ks.map qw) [],qw g9] [qau,yx],(qau,3))=some (.mk 3 0 [] (ks.map qw) [],0):=qd1 (y:= .mk 3 0 [] (ks.map qw) []) hv rfl rfl qbr 0 rfl rfl
  have g1:z0o (GVal.mk 4 0 [] [.mk 3 0 [] (ks.map qw) [],qw g9] [qau,yx],(xp,2))=some (.mk 0 0 [] [] [],8):=qjs hv (fun _=>rfl) (show xp∉([qau,yx]:List Str) by decide)
  have g2:z0o (GVal.mk 4 0 [] [.mk 3 0 [] (ks.map qw) [],qw g9] [qau,yx],(xq,3))=some (.mk 0 0 [] [] [],8):=qjs hv (fun _=>rfl) (show xq∉([qau,yx]:List Str) by decide)
  rw [qr0 g0 g1 g2 g3 (by decide) (by show(ks.map qw).length≤_;rw [List.length_map];exact b4) (fun x hx=>by cases hx)]
  have e2:(ks.map qw).map GVal.s=ks:=by
   rw [List.map_map]
   exact List.map_id'' (fun _=>rfl) ks
  show some (true,(([]:Str),(([]:List (Str×Int)),(ks.map qw).map GVal.s)))=_
  rw [e2]
 | false =>
  obtain⟨h1,h2,h3,h4⟩:=qc1 h rfl
  have h2:ks=[]:=h2
  subst h2
  have e:val (false,(cf,(ls,[])))= .mk 4 0 [] [qw cf,qw [105,109,97,103,101],.mk 3 0 [] (ls.map jl) []] [xp,yx,xq]:=rfl
  rw [e] at hv ⊢
  have g0:z0o (GVal.mk 4 0 [] [qw cf,qw [105,109,97,103,101],.mk 3 0 [] (ls.map jl) []] [xp,yx,xq],(yx,2))=some (qw [105,109,97,103,101],0):=qd1 (y:=qw [105,109,97,103,101]) hv rfl rfl gn 1 rfl rfl
  have g1:z0o (GVal.mk 4 0 [] [qw cf,qw [105,109,97,103,101],.mk 3 0 [] (ls.map jl) []] [xp,yx,xq],(xp,2))=some (qw cf,0):=qd1 (y:=qw cf) hv rfl rfl gn 0 rfl rfl
  have g2:z0o (GVal.mk 4 0 [] [qw cf,qw [105,109,97,103,101],.mk 3 0 [] (ls.map jl) []] [xp,yx,xq],(xq,3))=some (.mk 3 0 [] (ls.map jl) [],0):=qd1 (y:= .mk 3 0 [] (ls.map jl) []) hv rfl rfl gn 2 rfl rfl
  have g3:z0o (GVal.mk 4 0 [] [qw cf,qw [105,109,97,103,101],.mk 3 0 [] (ls.map jl) []] [xp,yx,xq],(qau,3))=some (.mk 0 0 [] [] [],8):=qjs hv (fun _=>rfl) (show qau∉([xp,yx,xq]:List Str) by decide)
  rw [qr0 g0 g1 g2 g3 (by show(ls.map jl).length≤_;rw [List.length_map];exact b2) (by decide) (fun x hx=>by
   obtain⟨l,hl,rfl⟩:=List.mem_map.1 hx
   obtain⟨q1,q2,_⟩:=qo5 (b3 l hl).1 (b3 l hl).2
   exact⟨⟨_,q1⟩,_,q2⟩)]
  have e2:(ls.map jl).map rdL=ls:=by
   rw [List.map_map]
   have: ∀l∈ls,(rdL ∘ jl) l=id l:=fun l hl=>(qo5 (b3 l hl).1 (b3 l hl).2).2.2
   rw [List.map_congr_left this,List.map_id]
  show some (false,(cf,((ls.map jl).map rdL,([]:List Str))))=_
  rw [e2]
theorem q74{m w:Man}(hm:MB m)(hw:MB w)(h:okM m=true)(g:okM w=true)(e:txt (val m)=txt (val w)):m=w:=by
 have h1:=qys (qfh h) (qfh g) (gw h) e
 have h2:=qeg hm h
 have h3:=qeg hw g
 rw [h1,h3] at h2
 injection h2 with h2
 exact h2.symm
theorem qxf(s:Str): ∃r,z1e s=some r∧((r.2=0∧MB r.1∧okM r.1=true∧txt (val r.1)=s)∨
  ((∀m,MB m→okM m=true→txt (val m)≠s)∧r.1=(false,([],([],[])))∧((s.length>4096∧r.2=2)∨(s.length≤4096∧(∀v,¬qot s v)∧r.2=6)∨(s.length≤4096∧(∃v,qot s v)∧r.2=8)))):=by
 obtain⟨p,h1,h2⟩:=jbm (s:=s)
 unfold z1e
 rw [h1,sb]
 by_cases hl:s.length>4096
 ·rw [if_pos hl] at h2
  subst h2
  rw [if_pos (by rfl)]
  refine⟨_,rfl,.inr ⟨fun m hm ho e=> ?_,rfl,.inl ⟨hl,rfl⟩⟩⟩
  have:=gw ho
  rw [e] at this
  omega
 ·rw [if_neg hl] at h2
  rcases h2 with⟨q1,q2,q3⟩|⟨q1,rfl⟩
  ·obtain ⟨m, p1, p2⟩ := q0w q2 q1.1
   have hno: ∀w,MB w→okM w=true→txt (val w)=s→w=m:=fun w hw ho e=>by
    have e2:=qys (qfh ho) q1.1 (gw ho) (e.trans q1.2.symm)
    have e3:=qeg hw ho
    rw [e2,p1] at e3
    injection e3 with e3
    exact e3.symm
   rw [if_neg (by rw [q3];decide),jq,p1,sb,q54 p2,sb]
   cases ho:okM m with
   |false=>
    rw [if_neg (show¬(false=true) by decide),if_pos (by rfl)]
    refine⟨_,rfl,.inr ⟨fun w hw hk e=> ?_,rfl,.inr (.inr ⟨by omega,⟨_,q1⟩,rfl⟩)⟩⟩
    rw [hno w hw hk e,ho] at hk
    cases hk
   | true =>
    rw [if_pos rfl,if_neg (by simp)]
    by_cases e:txt (val m)=s
    ·rw [if_neg (by simp [e])]
     exact⟨_,rfl,.inl ⟨rfl,p2,ho,e⟩⟩
    ·rw [if_pos (by simpa using e)]
     refine⟨_,rfl,.inr ⟨fun w hw hk e2=> ?_,rfl,.inr (.inr ⟨by omega,⟨_,q1⟩,rfl⟩)⟩⟩
     rw [hno w hw hk e2] at e2
     exact e e2
  ·rw [if_pos (by rfl)]
   refine⟨_,rfl,.inr ⟨fun w hw hk e=>q1 (val w) ⟨qfh hk,e⟩,rfl,.inr (.inl ⟨by omega,q1,rfl⟩)⟩⟩
theorem qvh{m:Man}(hm:MB m)(h:okM m=true):z1e (txt (val m))=some (m,0):=by
 obtain⟨r,h1,h2⟩:=qxf (txt (val m))
 rcases h2 with⟨q1,q2,q3,q4⟩|⟨q,_⟩
 ·have := q74 q2 hm q3 h q4
  obtain⟨a,b⟩:=r
  have q1:b=0:=q1
  have this:a=m:=this
  rw [h1,q1,this]
 ·exact absurd rfl (q m hm h)
end Go.Plain
namespace Go.Plain
open Go.AM
end Go.Plain
namespace Go.Plain
open Go.AM
set_option linter.unusedVariables false
abbrev Obj:Type:=Str×Str
abbrev WS:Type:=List Str×List Str
def fnd(l:List Obj)(d:Str):Str×Int:=match l.find? (fun o=>o.1==d) with
 |none=>([],9)
 |some o=>if qkr d o.2 then(o.2,0) else([],10)
noncomputable def pM(s:Str):Man×Int:=(z1e s).getD ((false,([],([],[]))),1)
theorem qlf(s:Str):z1e s=some (pM s):=by
 obtain⟨r,h,_⟩:=qxf s
 unfold pM
 rw [h]
 rfl
theorem qyg{s:Str}(h:(pM s).2=0):MB (pM s).1∧okM (pM s).1=true∧txt (val (pM s).1)=s:=by
 obtain⟨r,h1,h2⟩:=qxf s
 have e:pM s=r:=by unfold pM;rw [h1];rfl
 rw [e] at h ⊢
 rcases h2 with⟨_,q2,q3,q4⟩|⟨_,_,q⟩
 ·exact⟨q2,q3,q4⟩
 ·rcases q with q|q|q <;>omega
theorem qry{s:Str}(h:(pM s).2=0):(pM s).1.2.2.2.length≤8∧(∀k∈(pM s).1.2.2.2,isD k=true)∧(vr (pM s).1).length≤9:=by
 obtain⟨h1,h2,_⟩:=qyg h
 have hb:=qj8 (pM s).1
 cases hi:(pM s).1.1 with
 |true=>
  obtain⟨g1,g2,g3,g4,g5⟩:=qc2 h2 hi
  rw [g5] at hb
  exact⟨g3,qq8 g1,by simp at hb;omega⟩
 |false=>
  obtain⟨g1,g2,g3,g4⟩:=qc1 h2 hi
  rw [g2]
  exact⟨by simp,(fun _ hk=>by cases hk),by omega⟩
def qvn(c:List Str)(bs:List Str):List Str:=bs.foldl (fun c b=>if c.contains b then c else c++[b]) c
theorem qg3(c:List Str)(x:Str)(l:List Str):qvn c (x::l)=qvn (if c.contains x then c else c++[x]) l:=rfl
def vj(g:Str→WS→Int×WS):List Str→WS→Int×WS
 |[],w=>(0,w)
 |k::r,w=>if w.1.contains k then vj g r w else if(g k w).1≠0 then g k w else vj g r (g k w).2
noncomputable def wk(l:List Obj):Nat→Str→WS→Int×WS
 |0,_,w=>(7,w)
 |n+1,d,w=>
  if(fnd l d).2≠0 then((fnd l d).2,w) else
  if(pM (fnd l d).1).2≠0 then((pM (fnd l d).1).2,w) else
  if(vj (wk l n) (pM (fnd l d).1).1.2.2.2 w).1≠0 then vj (wk l n) (pM (fnd l d).1).1.2.2.2 w else
  (0,((vj (wk l n) (pM (fnd l d).1).1.2.2.2 w).2.1++[d],qvn (vj (wk l n) (pM (fnd l d).1).1.2.2.2 w).2.2 (vr (pM (fnd l d).1).1)))
def S:Nat→Nat
 |0=>0
 |n+1=>8*S n+1
theorem qjy: ∀(b c:List Str),(qvn c b).length≤c.length+b.length
 |[],c=>Nat.le_refl _
 |x::b,c=>by
  rw [qg3]
  have h1:=qjy b c
  have h2:=qjy b (c++[x])
  simp only [List.length_append,List.length_cons,List.length_nil] at h2 ⊢
  split <;>omega
theorem uf{g:Str→WS→Int×WS}{s:Nat}(hg: ∀k w,(g k w).2.1.length≤w.1.length+s∧(g k w).2.2.length≤w.2.length+9*s): ∀(b:List Str) (w:WS),
  (vj g b w).2.1.length≤w.1.length+b.length*s∧(vj g b w).2.2.length≤w.2.length+9*(b.length*s)
 |[],w=>⟨by simp [vj],by simp [vj]⟩
 | k :: b, w => by
  have h1:=uf hg b w
  have h2:=uf hg b (g k w).2
  have h3:=hg k w
  have e:(k::b).length*s=b.length*s+s:=by rw [List.length_cons,Nat.add_mul,Nat.one_mul]
  rw [e]
  unfold vj
  split
  ·omega
  ·split
   ·omega
   ·omega
theorem ql4(l:List Obj): ∀(n:Nat) (d:Str) (w:WS),(wk l n d w).2.1.length≤w.1.length+S n∧(wk l n d w).2.2.length≤w.2.length+9*S n
 |0,d,w=>⟨by simp [wk],by simp [wk]⟩
 | n + 1, d, w => by
  unfold wk S
  by_cases c1:(fnd l d).2≠0
  ·rw [if_pos c1];exact⟨by simp,by simp⟩
  ·rw [if_neg c1]
   by_cases c2:(pM (fnd l d).1).2≠0
   ·rw [if_pos c2];exact⟨by simp,by simp⟩
   ·rw [if_neg c2]
    obtain⟨k1,_,k3⟩:=qry (not_not_z c2)
    have h:=uf (ql4 l n) (pM (fnd l d).1).1.2.2.2 w
    have h8:(pM (fnd l d).1).1.2.2.2.length*S n≤8*S n:=Nat.mul_le_mul_right _ k1
    by_cases c3:(vj (wk l n) (pM (fnd l d).1).1.2.2.2 w).1≠0
    ·rw [if_pos c3];constructor <;>omega
    ·rw [if_neg c3]
     have hb:=qjy (vr (pM (fnd l d).1).1) (vj (wk l n) (pM (fnd l d).1).1.2.2.2 w).2.2
     constructor
     ·simp only [List.length_append,List.length_cons,List.length_nil];omega
     ·show (qvn _ _).length ≤ _
      omega
where not_not_z {x:Int} (h: ¬x≠0):x=0:=by omega
structure OL (l:List Obj):Prop where
 len:l.length≤1000
 obj: ∀o∈l,o.1.length≤1048576∧o.2.length≤10000
theorem qsi(d:Str): ∀(b a:List Obj),(a++b).length≤100000→
  (b.find? (fun o=>o.1==d)=none→qeq (((a.length:Int),(a++b,((a++b).length:Int))),d)=some (.inr d))∧
  (∀o,b.find? (fun o=>o.1==d)=some o→∃a' b',a++b=a'++o::b'∧qeq (((a.length:Int),(a++b,((a++b).length:Int))),d)=some (.inl ((a'.length:Int),d))):=by
 intro b
 induction b with
 |nil=>
  intro a hl
  rw [qp3]
  unfold qgp
  dsimp only
  rw [if_neg (by simp)]
  exact⟨(fun _=>rfl),(fun o h=>by cases h)⟩
 | cons x b ih =>
  intro a hl
  have hlen:(a++x::b).length=a.length+(b.length+1):=by simp
  have hw:w64 ((a.length:Int)+1)=((a.length+1:Nat):Int):=by rw [qx (by omega)];omega
  have ih:=ih (a++[x]) (by simp at hl ⊢;omega)
  rw [←wg] at ih
  have e1:((a++[x]).length:Int)=((a.length+1:Nat):Int):=by simp
  rw [e1] at ih
  rw [qp3]
  unfold qgp z2x
  dsimp only
  simp only [Int.toNat_natCast,hw]
  rw [if_pos (by rw [decide_eq_true_eq];omega),if_pos (by omega),if_pos (by omega),kx,sb]
  cases hx:x.1==d with
  |true=>
   rw [if_pos rfl,List.find?_cons_of_pos (by exact hx)]
   refine⟨(fun h=>by cases h),fun o h=> ?_⟩
   injection h with h
   subst h
   exact⟨a,b,rfl,rfl⟩
  |false=>
   rw [if_neg (show¬(false=true) by decide),List.find?_cons_of_neg (by rw [hx];decide)]
   exact ih
theorem qxh{d x:Str}(hd:d.length≤1048576)(hx:x.length≤1048576): ∃r,z25 (d,x)=some r∧(r=0↔qkr d x=true):=by
 unfold z25 qkr
 dsimp only
 rw [jbk hd,sb]
 cases c:isD d with
 |false=>exact⟨6,rfl,by simp⟩
 | true =>
  rw [if_pos rfl,if_neg (show¬((0:Int) !=0)=true by decide),q1p (by omega),sb]
  by_cases e:sha x=unh (d.drop 7)
  ·rw [if_neg (by simp [e])]
   exact⟨0,rfl,by simp [e]⟩
  ·rw [if_pos (by simpa using e)]
   exact⟨10,rfl,by simp [e]⟩
theorem xd{l:List Obj}(hl:OL l)(d:Str):z0n (l,d)=some (fnd l d):=by
 have h:=qsi d l [] (by rw [List.nil_append];have:=hl.len;omega)
 rw [List.nil_append] at h
 unfold z0n z0y fnd
 cases hf:l.find? (fun o=>o.1==d) with
 |none=>
  have h1:qeq (((0:Int),(l,(l.length:Int))),d)=_:=h.1 hf
  dsimp only
  rw [h1,sb]
  show(some ((-1:Int),d)>>=_)=_
  rw [sb,if_pos (show decide ((-1:Int)<0)=true by decide)]
 | some o =>
  obtain⟨a,b,e,h1⟩:=h.2 o hf
  have h1:qeq (((0:Int),(l,(l.length:Int))),d)=_:=h1
  have hm:o∈l:=by rw [e];simp
  obtain⟨o1,o2⟩:=hl.obj o hm
  have hd:o.1=d:=by
   have:=List.find?_some hf
   simpa using this
  obtain⟨r,g1,g2⟩:=qxh (d:=d) (x:=o.2) (by rw [←hd];omega) (by omega)
  have hll:l.length=a.length+(b.length+1):=by rw [e];simp
  dsimp only
  rw [h1,sb]
  show(some ((a.length:Int),d)>>=_)=_
  rw [sb]
  dsimp only
  have ee:elt (.pair .str .str) l (a.length:Int).toNat=o:=by
   rw [Int.toNat_natCast,e]
   exact kx (.pair .str .str) a o b
  rw [if_neg (by rw [decide_eq_true_eq];omega),if_pos (by omega),if_pos (by omega),ee,g1,sb]
  by_cases c:r=0
  ·rw [if_neg (by simp [c]),if_pos (by omega),if_pos (by omega),if_pos (g2.1 c)]
  ·rw [if_pos (by simpa using c),if_neg (fun h=>c (g2.2 h))]
theorem jaa(d:Str)(c:List Obj)(c1:List Str): ∀(b a c2:List Str),(a++b).length≤100000→c2.length+b.length≤1048576→
  qdh (((a.length:Int),(a++b,(d,((a++b).length:Int)))),(c,(c1,c2)))=some (d,(c,(c1,qvn c2 b))):=by
 intro b
 induction b with
 |nil=>
  intro a c2 hl h2
  rw [qms]
  unfold qcp
  dsimp only
  rw [if_neg (by simp)]
  rfl
 | cons x b ih =>
  intro a c2 hl h2
  have hlen:(a++x::b).length=a.length+(b.length+1):=by simp
  have hw:w64 ((a.length:Int)+1)=((a.length+1:Nat):Int):=by rw [qx (by omega)];omega
  have ih:=fun c2=>ih (a++[x]) c2 (by simp at hl ⊢;omega)
  rw [←wg] at ih
  have e1:((a++[x]).length:Int)=((a.length+1:Nat):Int):=by simp
  rw [e1] at ih
  simp only [List.length_cons] at h2
  rw [qms]
  unfold qcp
  dsimp only
  simp only [Int.toNat_natCast,hw]
  rw [if_pos (by rw [decide_eq_true_eq];omega),if_pos (by omega),if_pos (by omega),kx,qy (by omega),sb,qg3]
  cases hc:c2.contains x with
  |true=>
   rw [if_neg (by decide),if_pos rfl]
   exact ih c2 (by omega)
  |false=>
   rw [if_pos (by decide),if_pos (by constructor <;>simp <;>omega),if_neg (by decide)]
   exact ih (c2++[x]) (by simp;omega)
theorem q7c(d:Str)(c:List Obj)(c1:List Str): ∀(b a c2:List Str),(a++b).length≤100000→c2.length+b.length≤1048576→
  qgu (((a.length:Int),(a++b,(d,((a++b).length:Int)))),(c,(c1,c2)))=some (d,(c,(c1,qvn c2 b))):=by
 intro b
 induction b with
 |nil=>
  intro a c2 hl h2
  rw [qm7]
  unfold qcq
  dsimp only
  rw [if_neg (by simp)]
  rfl
 | cons x b ih =>
  intro a c2 hl h2
  have hlen:(a++x::b).length=a.length+(b.length+1):=by simp
  have hw:w64 ((a.length:Int)+1)=((a.length+1:Nat):Int):=by rw [qx (by omega)];omega
  have ih:=fun c2=>ih (a++[x]) c2 (by simp at hl ⊢;omega)
  rw [←wg] at ih
  have e1:((a++[x]).length:Int)=((a.length+1:Nat):Int):=by simp
  rw [e1] at ih
  simp only [List.length_cons] at h2
  rw [qm7]
  unfold qcq
  dsimp only
  simp only [Int.toNat_natCast,hw]
  rw [if_pos (by rw [decide_eq_true_eq];omega),if_pos (by omega),if_pos (by omega),kx,qy (by omega),sb,qg3]
  cases hc:c2.contains x with
  |true=>
   rw [if_neg (by decide),if_pos rfl]
   exact ih c2 (by omega)
  |false=>
   rw [if_pos (by decide),if_pos (by constructor <;>simp <;>omega),if_neg (by decide)]
   exact ih (c2++[x]) (by simp;omega)
def Wk(l:List Obj)(n:Nat):Prop:= ∀(d:Str) (w:WS),w.1.length+S n≤10000→w.2.length+9*S n≤100000→
  z0h ((d,5-(n:Int)),(l,w))=some ((wk l n d w).1,(l,(wk l n d w).2))
theorem q4f{l:List Obj}{n:Nat}(hn:n≤4)(hW:Wk l n)(k:Str)(w:WS)(h1:w.1.length+S n≤10000)(h2:w.2.length+9*S n≤100000):
  z07 (k,(4-(n:Int),(l,w)))=some (if w.1.contains k then(0,(4-(n:Int),(l,w))) else((wk l n k w).1,(4-(n:Int),(l,(wk l n k w).2)))):=by
 rw [ja9]
 unfold q77
 obtain⟨ms,bs⟩:=w
 dsimp only at h1 h2 ⊢
 have hw:w64 (4-(n:Int)+1)=5-(n:Int):=by rw [qx (by omega)];omega
 rw [qy (by omega),sb]
 cases hc:ms.contains k with
 |true=>rw [if_pos rfl,if_pos rfl]
 |false=>
  rw [if_neg (by decide),if_neg (by decide),hw,hW k (ms,bs) h1 h2,sb]
theorem q6m{l:List Obj}{n:Nat}(hn:n≤4)(hW:Wk l n): ∀(b a:List Str) (w:WS),(a++b).length≤10000→w.1.length+b.length*S n≤10000→w.2.length+9*(b.length*S n)≤100000→
  xv (((a.length:Int),(a++b,((a++b).length:Int))),(4-(n:Int),(l,w)))=
   some (if(vj (wk l n) b w).1≠0 then .inl ((vj (wk l n) b w).1,(4-(n:Int),(l,(vj (wk l n) b w).2))) else .inr (4-(n:Int),(l,(vj (wk l n) b w).2))):=by
 intro b
 induction b with
 |nil=>
  intro a w hl h1 h2
  rw [qpr]
  unfold qgd
  obtain⟨ms,bs⟩:=w
  dsimp only
  rw [if_neg (by simp)]
  rfl
 | cons x b ih =>
  intro a w hl h1 h2
  have hlen:(a++x::b).length=a.length+(b.length+1):=by simp
  have hw:w64 ((a.length:Int)+1)=((a.length+1:Nat):Int):=by rw [qx (by omega)];omega
  have ih:=fun w=>ih (a++[x]) w (by simp at hl ⊢;omega)
  rw [←wg] at ih
  have e1:((a++[x]).length:Int)=((a.length+1:Nat):Int):=by simp
  rw [e1] at ih
  have e:(x::b).length*S n=b.length*S n+S n:=by rw [List.length_cons,Nat.add_mul,Nat.one_mul]
  rw [e] at h1 h2
  have hb:=ql4 l n x w
  have hnn:=q4f hn hW x w (by omega) (by omega)
  have ih1:=ih w (by omega) (by omega)
  have ih2:=ih (wk l n x w).2 (by omega) (by omega)
  rw [qpr]
  unfold qgd
  obtain⟨ms,bs⟩:=w
  dsimp only at hnn ih1 ⊢
  simp only [Int.toNat_natCast,hw]
  rw [if_pos (by rw [decide_eq_true_eq];omega),if_pos (by omega),if_pos (by omega),kx,hnn,sb]
  unfold vj
  dsimp only
  cases hc:ms.contains x with
  |true=>
   rw [if_pos rfl,if_neg (show¬((0:Int) !=0)=true by decide),if_pos rfl]
   exact ih1
  | false =>
   rw [if_neg (show¬(false=true) by decide),if_neg (show¬(false=true) by decide)]
   dsimp only
   by_cases c:(wk l n x (ms,bs)).1=0
   ·rw [if_neg (by simp [c]), if_neg (show ¬ ((wk l n x (ms, bs)).1 ≠ 0) by simp [c])]
    exact ih2
   ·rw [if_pos (by simpa using c),if_pos (show(wk l n x (ms,bs)).1≠0 from c),if_pos c]
theorem q3o{l:List Obj}{n:Nat}(hn:n≤4)(hW:Wk l n): ∀(b a:List Str) (w:WS),(a++b).length≤10000→w.1.length+b.length*S n≤10000→w.2.length+9*(b.length*S n)≤100000→
  qm8 (((a.length:Int),(a++b,((a++b).length:Int))),(4-(n:Int),(l,w)))=
   some (if(vj (wk l n) b w).1≠0 then .inl ((vj (wk l n) b w).1,(4-(n:Int),(l,(vj (wk l n) b w).2))) else .inr (4-(n:Int),(l,(vj (wk l n) b w).2))):=by
 intro b
 induction b with
 |nil=>
  intro a w hl h1 h2
  rw [qp8]
  unfold qgv
  obtain⟨ms,bs⟩:=w
  dsimp only
  rw [if_neg (by simp)]
  rfl
 | cons x b ih =>
  intro a w hl h1 h2
  have hlen:(a++x::b).length=a.length+(b.length+1):=by simp
  have hw:w64 ((a.length:Int)+1)=((a.length+1:Nat):Int):=by rw [qx (by omega)];omega
  have ih:=fun w=>ih (a++[x]) w (by simp at hl ⊢;omega)
  rw [←wg] at ih
  have e1:((a++[x]).length:Int)=((a.length+1:Nat):Int):=by simp
  rw [e1] at ih
  have e:(x::b).length*S n=b.length*S n+S n:=by rw [List.length_cons,Nat.add_mul,Nat.one_mul]
  rw [e] at h1 h2
  have hb:=ql4 l n x w
  have hnn:=q4f hn hW x w (by omega) (by omega)
  have ih1:=ih w (by omega) (by omega)
  have ih2:=ih (wk l n x w).2 (by omega) (by omega)
  rw [qp8]
  unfold qgv
  obtain⟨ms,bs⟩:=w
  dsimp only at hnn ih1 ⊢
  simp only [Int.toNat_natCast,hw]
  rw [if_pos (by rw [decide_eq_true_eq];omega),if_pos (by omega),if_pos (by omega),kx,hnn,sb]
  unfold vj
  dsimp only
  cases hc:ms.contains x with
  |true=>
   rw [if_pos rfl,if_neg (show¬((0:Int) !=0)=true by decide),if_pos rfl]
   exact ih1
  | false =>
   rw [if_neg (show¬(false=true) by decide),if_neg (show¬(false=true) by decide)]
   dsimp only
   by_cases c:(wk l n x (ms,bs)).1=0
   ·rw [if_neg (by simp [c]), if_neg (show ¬ ((wk l n x (ms, bs)).1 ≠ 0) by simp [c])]
    exact ih2
   ·rw [if_pos (by simpa using c),if_pos (show(wk l n x (ms,bs)).1≠0 from c),if_pos c]
theorem q9h{l:List Obj}(hl:OL l): ∀n,n≤4→Wk l n:=by
 intro n
 induction n with
 |zero=>
  intro _ d w h1 h2
  rw [q52]
  unfold q51
  obtain⟨ms,bs⟩:=w
  dsimp only
  rw [if_pos (by rw [decide_eq_true_eq];omega)]
  rfl
 | succ n ih =>
  intro hn d w h1 h2
  have hW:=ih (by omega)
  have ed:(5:Int)-((n+1:Nat):Int)=4-(n:Int):=by omega
  rw [ed,q52]
  unfold q51 wk
  have hS:S (n+1)=8*S n+1:=rfl
  rw [hS] at h1 h2
  by_cases c1:(fnd l d).2=0
  case neg=>
   obtain⟨ms,bs⟩:=w
   dsimp only
   rw [if_neg (by rw [decide_eq_true_eq];omega),xd hl,sb,if_pos (by simpa using c1),if_pos c1]
  by_cases c2:(pM (fnd l d).1).2=0
  case neg=>
   obtain⟨ms,bs⟩:=w
   dsimp only
   rw [if_neg (by rw [decide_eq_true_eq];omega),xd hl,sb,if_neg (by simp [c1]),if_neg (by simp [c1]),qlf,sb,if_pos (by simpa using c2),if_pos c2]
  obtain⟨k1,k2,k3⟩:=qry c2
  obtain⟨m1,m2,_⟩:=qyg c2
  have h8:(pM (fnd l d).1).1.2.2.2.length*S n≤8*S n:=Nat.mul_le_mul_right _ k1
  have he:=q6m (by omega) hW (pM (fnd l d).1).1.2.2.2 [] w (by rw [List.nil_append];omega) (by omega) (by omega)
  rw [List.nil_append] at he
  have hlen:=uf (ql4 l n) (pM (fnd l d).1).1.2.2.2 w
  generalize hr:vj (wk l n) (pM (fnd l d).1).1.2.2.2 w=r at he hlen ⊢
  have hd:z0d ((pM (fnd l d).1).1.2.2.2,(4-(n:Int),(l,w)))=some (r.1,(4-(n:Int),(l,r.2))):=by
   have he:xv (((0:Int),((pM (fnd l d).1).1.2.2.2,((pM (fnd l d).1).1.2.2.2.length:Int))),(4-(n:Int),(l,w)))=_:=he
   rw [jbc]
   unfold q79
   obtain⟨ms,bs⟩:=w
   dsimp only at he ⊢
   rw [he,sb]
   by_cases c3:r.1=0
   ·rw [if_neg (by simp [c3]),c3];rfl
   ·rw [if_pos c3];rfl
  obtain⟨ms,bs⟩:=w
  dsimp only at hd ⊢
  rw [if_neg (by rw [decide_eq_true_eq];omega),xd hl,sb,if_neg (by simp [c1]),if_neg (by simp [c1]),qlf,sb,if_neg (by simp [c2]),if_neg (by simp [c2]),hd,sb]
  by_cases c3:r.1=0
  ·have hl19 := jaa d l r.2.1 (vr (pM (fnd l d).1).1) [] r.2.2 (by rw [List.nil_append]; omega) (by omega)
   rw [List.nil_append] at hl19
   have hl19:qdh (((0:Int),(vr (pM (fnd l d).1).1,(d,((vr (pM (fnd l d).1).1).length:Int)))),(l,r.2))=_:=hl19
   rw [if_neg (by simp [c3]),if_neg (by simp [c3]),qxe m1,sb]
   dsimp only
   rw [hl19,sb]
   dsimp only
   rw [if_pos (by constructor <;>simp <;>omega)]
  ·rw [if_pos (by simpa using c3),if_pos c3]
theorem jbo{l:List Obj}(hl:OL l)(d:Str):z13 ((d,(1:Int)),l)=some ((wk l 4 d ([],[])).1,(l,(wk l 4 d ([],[])).2)):=by
 have hW:=q9h hl 3 (by omega)
 unfold z13 wk
 dsimp only
 have s3:S 3=73:=rfl
 by_cases c1:(fnd l d).2=0
 case neg=>
  rw [if_neg (by decide),xd hl,sb,if_pos (by simpa using c1),if_pos c1]
 by_cases c2:(pM (fnd l d).1).2=0
 case neg=>
  rw [if_neg (by decide),xd hl,sb,if_neg (by simp [c1]),if_neg (by simp [c1]),qlf,sb,if_pos (by simpa using c2),if_pos c2]
 obtain⟨k1,k2,k3⟩:=qry c2
 obtain⟨m1,m2,_⟩:=qyg c2
 have h8:(pM (fnd l d).1).1.2.2.2.length*S 3≤8*S 3:=Nat.mul_le_mul_right _ k1
 have he:=q3o (by omega) hW (pM (fnd l d).1).1.2.2.2 [] (([],[]):WS) (by rw [List.nil_append];omega) (by simp only [List.length_nil];omega) (by simp only [List.length_nil];omega)
 rw [List.nil_append] at he
 have hlen:=uf (ql4 l 3) (pM (fnd l d).1).1.2.2.2 (([],[]):WS)
 generalize hr:vj (wk l 3) (pM (fnd l d).1).1.2.2.2 (([],[]):WS)=r at he hlen ⊢
 simp only [List.length_nil] at hlen
 have hd:z14 ((pM (fnd l d).1).1.2.2.2,((1:Int),l))=some (r.1,((1:Int),(l,r.2))):=by
  have he:qm8 (((0:Int),((pM (fnd l d).1).1.2.2.2,((pM (fnd l d).1).1.2.2.2.length:Int))),((1:Int),(l,([],[]))))=some (if r.1≠0 then .inl (r.1,((1:Int),(l,r.2))) else .inr ((1:Int),(l,r.2))):=he
  unfold z14
  dsimp only
  rw [he,sb]
  by_cases c3:r.1=0
  ·rw [if_neg (by simp [c3]),c3];rfl
  ·rw [if_pos c3];rfl
 rw [if_neg (by decide),xd hl,sb,if_neg (by simp [c1]),if_neg (by simp [c1]),qlf,sb,if_neg (by simp [c2]),if_neg (by simp [c2]),hd,sb]
 by_cases c3:r.1=0
 ·have hl19 := q7c d l r.2.1 (vr (pM (fnd l d).1).1) [] r.2.2 (by rw [List.nil_append]; omega) (by omega)
  rw [List.nil_append] at hl19
  have hl19:qgu (((0:Int),(vr (pM (fnd l d).1).1,(d,((vr (pM (fnd l d).1).1).length:Int)))),(l,r.2))=_:=hl19
  rw [if_neg (by simp [c3]),if_neg (by simp [c3]),qxe m1,sb]
  dsimp only
  rw [hl19,sb]
  dsimp only
  rw [if_pos (by constructor <;>simp <;>omega)]
 ·rw [if_pos (by simpa using c3),if_pos c3]
noncomputable def ofM(l:List Obj)(d:Str):WS×Int:=if(wk l 4 d ([],[])).1≠0 then(([],[]),(wk l 4 d ([],[])).1) else((wk l 4 d ([],[])).2,0)
theorem q1o{l:List Obj}(hl:OL l)(d:Str):z26 (l,d)=some (ofM l d):=by
 unfold z26 ofM
 dsimp only
 rw [jbo hl,sb]
 dsimp only
 by_cases c:(wk l 4 d ([],[])).1=0
 ·rw [if_neg (by simp [c]),if_neg (by simp [c])]
 ·rw [if_pos (by simpa using c),if_pos c]
def whB(l:List Obj):List Str→Int
 |[]=>0
 |b::r=>if(fnd l b).2≠0 then(fnd l b).2 else whB l r
noncomputable def whole(l:List Obj)(d:Str):Int:=if(ofM l d).2≠0 then(ofM l d).2 else whB l (ofM l d).1.2
end Go.Plain
namespace Go.Plain
open Go.AM
set_option linter.unusedVariables false
def kh:Str:=vu [99]
def j9:Str:=[123,34,99,111,110,102,105,103,34,58,34]++kh++[34,44,34,107,105,110,100,34,58,34,105,109,97,103,101,34,44,34,108,97,121,101,114,115,34,58,91,93,125]
theorem qo2:(vu j9==kh)=false:=by decide +kernel
theorem qwj:okM ((false,(kh,([],[]))):Man)=true:=by
 have:=qbb [99]
 unfold okM
 rw [if_neg (by decide)]
 simp [kh,this]
theorem qrt:MB ((false,(kh,([],[]))):Man):=by
 have:=u7 (qbb [99])
 exact⟨by show kh.length≤5000;unfold kh;omega,by simp,(fun _ h=>by cases h),by simp,fun _ h=>by cases h⟩
theorem qye:txt (val ((false,(kh,([],[]))):Man))=j9:=by
 rw [qpd rfl]
 simp [jr,j9]
theorem q6w(d:Str):fnd [] d=([],9):=rfl
theorem qe3(o:Obj)(l:List Obj)(d:Str):fnd (o::l) d=if(o.1==d)=true then(if qkr d o.2 then(o.2,0) else([],10)) else fnd l d:=by
 unfold fnd
 by_cases h:(o.1==d)=true
 ·rw [List.find?_cons_of_pos (p:=fun o:Obj=>o.1==d) h,if_pos h]
 ·rw [List.find?_cons_of_neg (p:=fun o:Obj=>o.1==d) h,if_neg h]
end Go.Plain
namespace Go.Plain
open Go.AM
set_option linter.unusedVariables false
def q3w(l:List Obj)(x:Str):Prop:=(fnd l x).2=0∧(pM (fnd l x).1).2=0
noncomputable def kd(l:List Obj)(x:Str):List Str:=(pM (fnd l x).1).1.2.2.2
noncomputable def bl(l:List Obj)(x:Str):List Str:=vr (pM (fnd l x).1).1
def Gr(l:List Obj):Nat→Str→Prop
 |0,_=>False
 |n+1,x=>q3w l x∧∀k∈kd l x,Gr l n k
inductive Rch (l:List Obj):Str→Str→Prop where
 |refl (x:Str):Rch l x x
 |step (x y z:Str) (h:y∈kd l x) (h2:Rch l y z):Rch l x z
structure Inv (l:List Obj) (w:WS):Prop where
 ord: ∀a x b,w.1=a++x::b→q3w l x∧(∀k∈kd l x,k∈a)∧∀y∈bl l x,y∈w.2
 nd:w.1.Nodup
 nb:w.2.Nodup
 gr: ∀x∈w.1,∃n,Gr l n x
structure Ends (l:List Obj) (d:Str) (w w':WS):Prop where
 inv:Inv l w'
 has:d∈w'.1
 ext: ∃t,w'.1=w.1++t∧∀y∈t,Rch l d y
 blb: ∀y∈w.2,y∈w'.2
structure EndsL (l:List Obj) (ks:List Str) (w w':WS):Prop where
 inv:Inv l w'
 has: ∀k∈ks,k∈w'.1
 ext: ∃t,w'.1=w.1++t∧∀y∈t,∃k∈ks,Rch l k y
 blb: ∀y∈w.2,y∈w'.2
end Go.Plain
namespace Go.Plain
open Go.AM
set_option linter.unusedVariables false
end Go.Plain
namespace Go.Plain
open Go.AM
set_option linter.unusedVariables false
def pw:Nat→Nat
 |0=>0
 |n+1=>2^(8*n)
end Go.Plain
namespace Go.Plain
open Go.AM
end Go.Plain
namespace Go.Plain
open Go.AM
set_option linter.unusedVariables false
end Go.Plain
