import Derived.Test.YtjmmcdbogbpedaaGreatDoorBMTree2
namespace Go.AM
set_option linter.unusedSectionVars false
variable [Lay]
def GVal.re(v:GVal):GVal:= .mk v.kind v.n v.s v.items v.names
@[simp] theorem GVal.re_eq (v:GVal):v.re=v:=by cases v;rfl
def xb:Ty→Ty→Ty
 | .unit,b=>b
 |a,.unit=>a
 |a,b=> .pair a b
def tmk(a b:Ty):a.den→b.den→(xb a b).den:=by
 cases a <;>cases b <;>first|exact fun _ y=>y|exact fun x _=>x|exact fun x y=>(x,y)
def qjc(a b:Ty):(xb a b).den→a.den:=by
 cases a <;>cases b <;>first|exact fun _=>()|exact fun x=>x|exact fun x=>x.1
def qh1(a b:Ty):(xb a b).den→b.den:=by
 cases a <;>cases b <;>first|exact fun x=>x|exact fun _=>()|exact fun x=>x.2
theorem zd(a b:Ty)(x:a.den)(y:b.den):qjc a b (tmk a b x y)=x:=by cases a <;>cases b <;>rfl
theorem yq(a b:Ty)(x:a.den)(y:b.den):qh1 a b (tmk a b x y)=y:=by cases a <;>cases b <;>rfl
inductive Sh where
 |d (t:Ty)
 |fx (v:AV)
 |agg (l:List Sh)
 |tup (l:List Sh)
 |fn (f:Fn) (a c:List Sh)
 |iface (t:TypeId) (s:Sh)
 |ep (t:Ty) (k j:Nat)
 |ip (t:Ty) (j:Nat)
 |fm (k v:Ty)
 |fs (t:Ty)
def Sh.ty:Sh→Ty
 | .d t=>t
 | .fx _=> .unit
 | .agg l=>tyL l
 | .tup l=>tyL l
 | .fn _ a c=>xb (tyL a) (tyL c)
 | .iface _ s=>s.ty
 | .ep _ _ _=> .int .i64
 | .ip t _=>t
 | .fm k v=> .sl (.pair k v)
 | .fs t=> .pair (.sl t) .bool
where tyL:List Sh→Ty
 |[]=> .unit
 |s::r=>xb s.ty (tyL r)
def jbw:(t:Ty)→t.den→AV
 | .unit,_=> .agg []
 | .int k,n=> .int k n
 | .bool,b=> .bool b
 | .str,s=> .str s
 | .pair a b,x=> .agg (cellsOf (.pair a b) x)
 | .sl t,l=> .sl t l false
 | .val,v=> .agg (cellsOf .val v)
def qd9:(s:Sh)→s.ty.den→AV
 | .d t,x=>jbw t x
 | .fx v,_=>v
 | .agg l,x=> .agg (encL l x)
 | .tup l,x=> .tup (encL l x)
 | .fn f a c,x=> .fn f (encL a (qjc _ _ x)) (encL c (qh1 _ _ x))
 | .iface t s,x=> .iface t (qd9 s x)
 | .ep t k j,x=> .eptr t k (Int.toNat x) j
 | .ip t j,x=> .iptr t x j
 | .fm k v,x=> .fmap k v x
 | .fs t,x=> .sl t x.1 x.2
where encL:(l:List Sh)→(Sh.ty.tyL l).den→List AV
 |[],_=>[]
 |s::r,x=>qd9 s (qjc _ _ x)::encL r (qh1 _ _ x)
inductive BSh where
 |var (l:List Sh)
 |arr (t:Ty) (fr:Bool)
 |mp (k v:Ty)
 |gone
 |dat (t:Ty)
def BSh.ty:BSh→Ty
 | .var l=>Sh.ty.tyL l
 | .arr t _=> .sl t
 | .mp k v=> .sl (.pair k v)
 | .gone=> .unit
 | .dat t=>t
def jdx:(b:BSh)→b.ty.den→AB
 | .var l,x=> .var (qd9.encL l x)
 | .arr t fr,x=> .arr t x fr
 | .mp k v,x=> .mp k v x
 | .gone,_=> .gone
 | .dat t,x=> .var (cellsOf t x)
def tyH:List BSh→Ty
 |[]=> .unit
 |b::r=>xb b.ty (tyH r)
def qi2:(l:List BSh)→(tyH l).den→qa
 |[],_=>[]
 |b::r,x=>jdx b (qjc _ _ x)::qi2 r (qh1 _ _ x)
structure SS where
 sl:List (Nat×Sh)
 hp:List BSh
def tyS:List (Nat×Sh)→Ty
 |[]=> .unit
 |p::r=>xb p.2.ty (tyS r)
def q3p:(l:List (Nat×Sh))→(tyS l).den→qc
 |[],_=>[]
 |p::r,x=>(p.1,qd9 p.2 (qjc _ _ x))::q3p r (qh1 _ _ x)
def SS.ty(S:SS):Ty:=xb (tyS S.sl) (tyH S.hp)
def SS.slots(S:SS)(x:S.ty.den):qc:=q3p S.sl (qjc _ _ x)
def SS.heap(S:SS)(x:S.ty.den):qa:=qi2 S.hp (qh1 _ _ x)
def q6j:(t:Ty)→AV→Option t.den
 | .unit,.agg []=>some ()
 | .int k,.int k' n=>match decEq k' k with|isTrue _=>some n|isFalse _=>none
 | .bool,.t=>some true
 | .bool,.f=>some false
 | .bool,.bool b=>some b
 | .str,.str s=>some s
 | .sl t,.sl t' l _=>match decEq t' t with|isTrue e=>some (e▸l)|isFalse _=>none
 | .sl _,.nilsl=>some []
 | .pair a b,.agg cs=>gz (.pair a b) cs
 | .val,.agg cs=>gz .val cs
 |_,_=>none
def leB:Bool→Bool→Bool
 |false,_=>true
 |true,b=>b
theorem jac: ∀{f f':Bool},leB f f'=true→f'=f∨(f=false∧f'=true)
 |false,false,_=> .inl rfl
 |false,true,_=> .inr ⟨rfl,rfl⟩
 |true,true,_=> .inl rfl
def qos(m:Nat):Option Src→Bool
 |some (.old k)=>Nat.beq k m
 |_=>false
def fxB(ρ:List Src):AV→AV→Bool
 | .junk,_=>true
 | .nilsl,.nilsl=>true
 | .nilptr,.nilptr=>true
 | .nilfn,.nilfn=>true
 | .niliface,.niliface=>true
 | .t,.t=>true
 | .f,.f=>true
 | .int k n,.int k' n'=>decide (k'=k)&&decide (n'=n)
 | .sl _ [] _,.nilsl=>true
 | .sl t [] f,.sl t' [] f'=>decide (t'=t)&&(match f,f' with|false,_=>true|true,true=>true|true,false=>false)
 | .ptr k j,.ptr m j'=>qos m ρ[k]? &&Nat.beq j' j
 | .mptr k,.mptr m=>qos m ρ[k]?
 | .own t k f,.own t' m f'=>qos m ρ[k]? &&decide (t'=t)&&leB f f'
 | .own t k false,.sl t' [] true=>decide (t'=t)&&(match ρ[k]? with|some (.emp t2 _)=>decide (t2=t)|_=>false)
 | .own t k false,.nilsl=>(match ρ[k]? with|some (.emp t2 _)=>decide (t2=t)|_=>false)
 |_,_=>false
def fnB:Fn→Fn→Bool
 | .func f,.func g=>Nat.beq f g
 |_,_=>false
def q1s:AV→Option (List AV)
 | .agg vs=>some vs
 |_=>none
def q5o:AV→Option (List AV)
 | .tup vs=>some vs
 |_=>none
def q93:AV→Option (Fn×List AV×List AV)
 | .fn f a c=>some (f,a,c)
 |_=>none
def q99:AV→Option (TypeId×AV)
 | .iface t v=>some (t,v)
 |_=>none
def q90(ρ:List Src)(t:Ty)(k j:Nat):AV→Option Nat
 | .eptr t' m i j'=>match qos m ρ[k]? &&decide (t'=t)&&Nat.beq j' j with|true=>some i|false=>none
 |_=>none
def q66(t:Ty)(j:Nat):AV→Option t.den
 | .iptr t' x j'=>match decEq t' t,Nat.beq j' j with|isTrue e,true=>some (e▸x)|_,_=>none
 |_=>none
def q6t(k v:Ty):AV→Option (List (k.den×v.den))
 | .fmap k' v' l=>match decEq k' k,decEq v' v with|isTrue e,isTrue e'=>some (e▸e'▸l)|_,_=>none
 |_=>none
def q6x(t:Ty):AV→Option (List t.den×Bool)
 | .sl t' l f=>match decEq t' t with|isTrue e=>some (e▸l,f)|isFalse _=>none
 |_=>none
def qay(ρ:List Src):(s:Sh)→AV→Option s.ty.den
 | .d t,x=>q6j t x
 | .fx v,x=>match fxB ρ v x with|true=>some ()|false=>none
 | .agg l,x=>match q1s x with|some vs=>decL ρ l vs|none=>none
 | .tup l,x=>match q5o x with|some vs=>decL ρ l vs|none=>none
 | .fn f a c, x => match q93 x with
  |some (f',xa,xc)=>match fnB f' f,decL ρ a xa,decL ρ c xc with
   |true,some u,some v=>some (tmk _ _ u v)
   |_,_,_=>none
  |none=>none
 | .iface t s,x=>match q99 x with
  |some (t',v)=>match Nat.beq t' t with|true=>qay ρ s v|false=>none
  |none=>none
 | .ep t k j,x=>match q90 ρ t k j x with|some i=>some (i:Int)|none=>none
 | .ip t j,x=>q66 t j x
 | .fm k v,x=>q6t k v x
 | .fs t,x=>q6x t x
where decL (ρ:List Src):(l:List Sh)→List AV→Option (Sh.ty.tyL l).den
 |[],vs=>match vs with|[]=>some ()|_=>none
 |s::r,vs=>match vs with
  |v::vs=>match qay ρ s v,decL ρ r vs with|some u,some w=>some (tmk _ _ u w)|_,_=>none
  |[]=>none
def qiv:AB→Option (List AV)
 | .var cs=>some cs
 |_=>none
def q1y(t:Ty)(fr:Bool):AB→Option (List t.den)
 | .arr t' l fr'=>match decEq t' t,fr,fr' with
  |isTrue e,true,true=>some (e▸l)
  |isTrue e,false,false=>some (e▸l)
  |_,_,_=>none
 |_=>none
def jaj(k v:Ty):AB→Option (List (k.den×v.den))
 | .mp k' v' l=>match decEq k' k,decEq v' v with|isTrue e,isTrue e'=>some (e▸e'▸l)|_,_=>none
 |_=>none
def q6i(ρ:List Src):(b:BSh)→AB→Option b.ty.den
 | .var l,x=>match qiv x with|some cs=>qay.decL ρ l cs|none=>none
 | .arr t fr,x=>q1y t fr x
 | .mp k v,x=>jaj k v x
 | .gone,_=>some ()
 | .dat t,x=>match qiv x with|some cs=>gz t cs|none=>none
def qkh(ρ:List Src)(h:qa):(l:List BSh)→List Src→Option (tyH l).den
 |[],[]=>some ()
 |b::r,.old m::q=>match q6i ρ b (qd h m),qkh ρ h r q with|some u,some w=>some (tmk _ _ u w)|_,_=>none
 |b::r,.emp t fr::q=>match(match b with| .arr _ _=>true|_=>false),q6i ρ b (.arr t [] fr),qkh ρ h r q with|true,some u,some w=>some (tmk _ _ u w)|_,_,_=>none
 |b::r,.no m::q=>match(match b with| .gone=>qx0 (qd h m)|_=>false),q6i ρ b .gone,qkh ρ h r q with|true,some u,some w=>some (tmk _ _ u w)|_,_,_=>none
 |_,_=>none
def qxq(ρ:List Src)(s:qc):(l:List (Nat×Sh))→Option (tyS l).den
 |[]=>some ()
 |p::r=>match qay ρ p.2 (lkp p.1 s),qxq ρ s r with|some u,some w=>some (tmk _ _ u w)|_,_=>none
def q5f:Sh→AV→List (Nat×Src)
 | .fx (.ptr k _),.ptr m _=>[(k,.old m)]
 | .fx (.mptr k),.mptr m=>[(k,.old m)]
 | .ep _ k _,.eptr _ m _ _=>[(k,.old m)]
 | .fx (.own _ k _),.own _ m _=>[(k,.old m)]
 | .fx (.own t k _),_=>[(k,.emp t true)]
 | .agg l,.agg vs=>srcL l vs
 | .tup l,.tup vs=>srcL l vs
 | .fn _ a c,.fn _ xa xc=>srcL a xa++srcL c xc
 | .iface _ s,.iface _ v=>q5f s v
 |_,_=>[]
where srcL:List Sh→List AV→List (Nat×Src)
 |s::r,v::vs=>q5f s v++srcL r vs
 |_,_=>[]
def jfm:BSh→AB→List (Nat×Src)
 | .var l,.var cs=>q5f.srcL l cs
 |_,_=>[]
def q5g(s:qc):List (Nat×Sh)→List (Nat×Src)
 |[]=>[]
 |p::r=>q5f p.2 (lkp p.1 s)++q5g s r
def q9a(k:Nat):List (Nat×Src)→Option Src
 |[]=>none
 |(j,x)::r=>match Nat.beq j k with|true=>some x|false=>q9a k r
def q0y(n0:Nat)(h:qa):Nat→List BSh→List (Nat×Src)→Option (List Src)
 |_,[],_=>some []
 |k,b::r,acc=>
  match(match Nat.blt k n0 with|true=>some (match b with| .gone=>Src.no k|_=>Src.old k)|false=>q9a k acc) with
  |some (.old m)=>match q0y n0 h (k+1) r (acc++jfm b (qd h m)) with|some q=>some (.old m::q)|none=>none
  |some (.emp t _)=>match q0y n0 h (k+1) r acc with|some q=>some (.emp t (match b with| .arr _ fr=>fr|_=>true)::q)|none=>none
  |some (.no m)=>match q0y n0 h (k+1) r acc with|some q=>some (.no m::q)|none=>none
  |none=>none
def frB:Option BSh→Bool
 |some (.arr _ false)=>true
 |_=>false
def fzS(hp:List BSh):Sh→AV→List Nat
 | .d _,v=>jv v.cells
 | .fx (.own _ k _),.own _ m _=>match frB hp[k]? with|true=>[m]|false=>[]
 | .agg l,.agg vs=>fzL l vs
 | .tup l,.tup vs=>fzL l vs
 | .fn _ a c,.fn _ xa xc=>fzL a xa++fzL c xc
 | .iface _ s,.iface _ v=>fzS hp s v
 |_,_=>[]
where fzL:List Sh→List AV→List Nat
 |s::r,v::vs=>fzS hp s v++fzL r vs
 |_,_=>[]
def qv4(hp:List BSh)(s:qc):List (Nat×Sh)→List Nat
 |[]=>[]
 |p::r=>fzS hp p.2 (lkp p.1 s)++qv4 hp s r
def daS:Sh→AV→List Nat
 | .d _,v=>jv v.cells
 | .agg l,.agg vs=>daL l vs
 | .tup l,.tup vs=>daL l vs
 | .fn _ a c,.fn _ xa xc=>daL a xa++daL c xc
 | .iface _ s,.iface _ v=>daS s v
 |_,_=>[]
where daL:List Sh→List AV→List Nat
 |s::r,v::vs=>daS s v++daL r vs
 |_,_=>[]
def qhr(fz:List Nat)(g:Nat→AB)(v:AV):AV:=
 match(jv v.cells).all fun b=>fz.any (Nat.beq b) with
 |true=>res g v
 |false=>v
def qln(g:Nat→AB)(s:qc):List (Nat×Sh)→qc
 |[]=>[]
 |p::r=>(p.1,qhr (daS p.2 (lkp p.1 s)) g (lkp p.1 s))::qln g s r
def qba(n0:Nat)(S:SS)(s:qc)(h:qa):Option S.ty.den:=
 match q0y n0 h 0 S.hp (q5g s S.sl) with
 |none=>none
 | some ρ =>
  match xl ρ,qxq ρ s S.sl,qkh ρ h S.hp ρ with
  |true,some u,some w=>
   match qa6 n0 0 ρ (qi2 S.hp w) with
   |true=>some (tmk _ _ u w)
   |false=>none
  |_,_,_=>none
def fzB(hp:List BSh):BSh→AB→List Nat
 | .var l,.var cs=>fzS.fzL hp l cs
 | .dat _,.var cs=>jv cs
 |_,_=>[]
def daB:BSh→AB→List Nat
 | .var l,.var cs=>daS.daL l cs
 | .dat _,.var cs=>jv cs
 |_,_=>[]
def qkt(hp:List BSh)(h:qa):List Src→List BSh→List Nat
 | .old m::q,b::r=>fzB hp b (qd h m)++qkt hp h q r
 |_::q,_::r=>qkt hp h q r
 |_,_=>[]
def gq(h:qa):List Src→List BSh→List (Nat×AB)
 | .old m::q,b::r=>match qd h m,daB b (qd h m) with
  | .var cs,x::xs=>(m,.var (cs.map (qhr (x::xs) (qd h))))::gq h q r
  |_,_=>gq h q r
 |_::q,_::r=>gq h q r
 |_,_=>[]
def qa9(n0:Nat)(S:SS)(s:qc)(h:qa):Option S.ty.den:=
 match q0y n0 h 0 S.hp (q5g s S.sl) with
 |none=>none
 |some ρ=>qba n0 S (qln (qd h) s S.sl) (qg (qg h (frz (qd h) (qv4 S.hp s S.sl++qkt S.hp h ρ S.hp))) (gq h ρ S.hp))
section
variable {ρ:List Src}
theorem gv{t' t:Ty}(e:t'=t)(l:List t'.den)(f:Bool):qb8 t' l f t (e▸l) false:=by
 subst e
 unfold qb8
 split
 ·exact⟨rfl,.inr rfl⟩
 ·rename_i hn _;exact absurd rfl hn
theorem qpg: ∀{p q p' q':List AV},qv.viewL ρ p q→qv.viewL ρ p' q'→qv.viewL ρ (p++p') (q++q')
 |[],[],_,_,_,h=>h
 |_::_,_::_,_,_,h1,h2=>⟨h1.1,qpg h1.2 h2⟩
 |[],_::_,_,_,h,_=>h.elim
 |_::_,[],_,_,h,_=>h.elim
theorem q3h: ∀(t:Ty) (cs:List AV) (x:t.den) (r:List AV),dec t cs=some (x,r)→∃q,cs=q++r∧qv.viewL ρ q (cellsOf t x):=by
 intro t
 induction t with
 |unit=>
  intro cs x r h
  simp only [dec] at h
  injection h with h;injection h with h1 h2
  exact⟨[],by simp [h2],trivial⟩
 | int k =>
  intro cs x r h
  cases cs with
  |nil=>simp [dec] at h
  |cons v vs=>
   cases v <;>simp [dec] at h
   obtain⟨rfl,rfl,rfl⟩:=h
   exact⟨[_],rfl,⟨rfl,rfl⟩,trivial⟩
 | bool =>
  intro cs x r h
  cases cs with
  |nil=>simp [dec] at h
  |cons v vs=>
   cases v <;>simp [dec] at h <;>obtain⟨rfl,rfl⟩:=h
   ·exact⟨[_],rfl,rfl,trivial⟩
   ·exact⟨[_],rfl,rfl,trivial⟩
   ·exact⟨[_],rfl,rfl,trivial⟩
 | str =>
  intro cs x r h
  cases cs with
  |nil=>simp [dec] at h
  |cons v vs=>
   cases v <;>simp [dec] at h
   obtain⟨rfl,rfl⟩:=h
   exact⟨[_],rfl,rfl,trivial⟩
 | sl t _ =>
  intro cs x r h
  cases cs with
  |nil=>simp [dec] at h
  | cons v vs =>
   cases v <;>simp [dec] at h
   ·obtain ⟨rfl, rfl⟩ := h
    exact⟨[_],rfl,rfl,trivial⟩
   ·obtain ⟨⟨e, rfl⟩, rfl⟩ := h
    exact⟨[_],rfl,gv e _ _,trivial⟩
 | pair a b iha ihb =>
  intro cs x r h
  simp only [dec] at h
  split at h
  ·rename_i u q hu
   split at h
   ·rename_i v q' hv
    injection h with h;injection h with h1 h2
    subst h1 h2
    obtain⟨p1,e1,v1⟩:=iha _ _ _ hu
    obtain⟨p2,e2,v2⟩:=ihb _ _ _ hv
    exact⟨p1++p2,by rw [e1,e2,List.append_assoc],qpg v1 v2⟩
   ·cases h
  ·cases h
 | val =>
  intro cs x r h
  match cs,h with
  | .int k1 k :: .int k2 n :: .str q :: i :: m :: r0, h =>
   simp only [dec] at h
   split at h
   ·rename_i hk
    obtain⟨rfl,rfl⟩:=hk
    split at h
    ·rename_i li lm hi hm
     injection h with h;injection h with h1 h2
     subst h1 h2
     refine⟨[.int .i64 k,.int .i64 n,.str q,i,m],rfl,⟨rfl,rfl⟩,⟨rfl,rfl⟩,rfl, ?_, ?_,trivial⟩
     ·split at hi
      ·cases hi;exact gv (t':= .val) (t:= .val) rfl _ _
      ·cases hi;exact rfl
      ·cases hi
     ·split at hm
      ·cases hm;exact gv (t':= .str) (t:= .str) rfl _ _
      ·cases hm;exact rfl
      ·cases hm
    ·cases h
   ·cases h
theorem qa8{t:Ty}{cs:List AV}{x:t.den}(h:gz t cs=some x):qv.viewL ρ cs (cellsOf t x):=by
 unfold gz at h
 split at h
 ·rename_i y hd
  injection h with h
  subst h
  obtain⟨q,e,hv⟩:=q3h (ρ:=ρ) t cs _ _ hd
  rw [e,List.append_nil]
  exact hv
 ·cases h
theorem qzs{t:Ty}{v:AV}{x:t.den}(h:q6j t v=some x):qv ρ v (jbw t x):=by
 match t,v,x,h with
 | .unit,.agg [],_,_=>exact trivial
 | .int k,.int k' n,x,h=>
  simp only [q6j] at h
  split at h
  ·rename_i e _;injection h with h;subst h;exact⟨e,rfl⟩
  ·cases h
 | .bool,.t,x,h=>injection h with h;exact h.symm
 | .bool,.f,x,h=>injection h with h;exact h.symm
 | .bool,.bool b,x,h=>injection h with h
 | .str,.str q,x,h=>injection h with h
 | .sl t,.sl t' l f,x,h=>
  simp only [q6j] at h
  split at h
  ·rename_i e _;injection h with h;subst h;exact gv e _ _
  ·cases h
 | .sl t,.nilsl,x,h=>injection h with h;exact h.symm
 | .pair a b,.agg cs,x,h=>exact qa8 h
 | .val,.agg cs,x,h=>exact qa8 h
theorem qe6{m:Nat}{o:Option Src}(h:qos m o=true):o=some (.old m):=by
 unfold qos at h
 split at h
 ·rw [Nat.eq_of_beq_eq_true h]
 ·cases h
theorem q3v{v x:AV}(h:fxB ρ v x=true):qv ρ x v:=by
 unfold fxB at h
 split at h
 ·exact(by unfold qv;trivial)
 all_goals first
  |(rfl;done)
  |(cases h;done)
  |(simp only [Bool.and_eq_true,decide_eq_true_eq] at h;exact h)
  |skip
 ·simp only [Bool.and_eq_true, decide_eq_true_eq] at h
  obtain⟨e,h⟩:=h
  subst e
  show qb8 _ _ _ _ _ _
  unfold qb8
  split
  ·rename_i e _
   refine⟨by cases e;rfl, ?_⟩
   split at h
   ·exact .inr rfl
   ·exact .inl rfl
   ·cases h
  ·rename_i hn _;exact hn rfl
 ·simp only [Bool.and_eq_true] at h
  simp only [qv,qe6 h.1,Nat.eq_of_beq_eq_true h.2]
 ·simp only [qv,qe6 h]
 ·simp only [Bool.and_eq_true, decide_eq_true_eq] at h
  simp only [qv,qe6 h.1.1,h.1.2]
  rcases jac h.2 with e|⟨e,e'⟩
  ·exact .inl (by rw [e])
  ·exact .inr ⟨e,by rw [e']⟩
 ·simp only [Bool.and_eq_true, decide_eq_true_eq] at h
  have h2:=h.2
  split at h2
  ·rename_i t2 he
   simp only [qv,he]
   refine⟨of_decide_eq_true h2,trivial,h.1, ?_, ?_⟩ <;>first|trivial|rfl
  ·cases h2
 ·split at h
  ·rename_i t2 he
   simp only [qv,he]
   refine⟨of_decide_eq_true h, ?_, ?_⟩ <;>first|trivial|rfl
  ·cases h
theorem q92{f g:Fn}(h:fnB f g=true):f=g:=by
 unfold fnB at h
 split at h
 ·rw [Nat.eq_of_beq_eq_true h]
 ·cases h
theorem q1t{v:AV}{vs:List AV}(h:q1s v=some vs):v= .agg vs:=by
 unfold q1s at h
 split at h
 ·injection h with h;rw [h]
 ·cases h
theorem q5p{v:AV}{vs:List AV}(h:q5o v=some vs):v= .tup vs:=by
 unfold q5o at h
 split at h
 ·injection h with h;rw [h]
 ·cases h
theorem q6v{v:AV}{f:Fn}{a c:List AV}(h:q93 v=some (f,a,c)):v= .fn f a c:=by
 unfold q93 at h
 split at h
 ·injection h with h;injection h with h1 h2;injection h2 with h2 h3;rw [h1,h2,h3]
 ·cases h
theorem q64{v x:AV}{t:TypeId}(h:q99 v=some (t,x)):v= .iface t x:=by
 unfold q99 at h
 split at h
 ·injection h with h;injection h with h1 h2;rw [h1,h2]
 ·cases h
theorem q6p{t:Ty}{k j i:Nat}{v:AV}(h:q90 ρ t k j v=some i):qv ρ v (.eptr t k (Int.toNat (i:Int)) j):=by
 unfold q90 at h
 split at h
 ·split at h
  ·rename_i hb
   injection h with h
   subst h
   simp only [Bool.and_eq_true,decide_eq_true_eq] at hb
   simp only [qv,qe6 hb.1.1,hb.1.2,Nat.eq_of_beq_eq_true hb.2,Int.toNat_natCast]
  ·cases h
 ·cases h
theorem q67{t:Ty}{j:Nat}{v:AV}{x:t.den}(h:q66 t j v=some x):v= .iptr t x j:=by
 unfold q66 at h
 split at h
 ·split at h
  ·rename_i e _ hb;injection h with h;subst e;subst h;rw [Nat.eq_of_beq_eq_true hb]
  ·cases h
 ·cases h
theorem q6u{v:AV}{k u:Ty}{l:List (k.den×u.den)}(h:q6t k u v=some l):v= .fmap k u l:=by
 unfold q6t at h
 split at h
 ·split at h
  ·rename_i e e' _ _;injection h with h;subst e;subst e';subst h;rfl
  ·cases h
 ·cases h
theorem q6y{v:AV}{t:Ty}{l:List t.den×Bool}(h:q6x t v=some l):v= .sl t l.1 l.2:=by
 unfold q6x at h
 split at h
 ·split at h
  ·rename_i e _;injection h with h;subst e;subst h;rfl
  ·cases h
 ·cases h
theorem qu3{z:AB}{cs:List AV}(h:qiv z=some cs):z= .var cs:=by
 unfold qiv at h
 split at h
 ·injection h with h;rw [h]
 ·cases h
theorem q1z{z:AB}{t:Ty}{fr:Bool}{l:List t.den}(h:q1y t fr z=some l):z= .arr t l fr:=by
 unfold q1y at h
 split at h
 ·split at h
  ·rename_i e _;injection h with h;subst e;subst h;rfl
  ·rename_i e _;injection h with h;subst e;subst h;rfl
  ·cases h
 ·cases h
theorem q7h{z:AB}{k v:Ty}{l:List (k.den×v.den)}(h:jaj k v z=some l):z= .mp k v l:=by
 unfold jaj at h
 split at h
 ·split at h
  ·rename_i e e' _ _;injection h with h;subst e;subst e';subst h;rfl
  ·cases h
 ·cases h
mutual
theorem qcy: ∀(s:Sh) (v:AV) (x:s.ty.den),qay ρ s v=some x→qv ρ v (qd9 s x)
 | .d t,v,x,h=>qzs h
 | .fx w,v,x,h=>by
  unfold qay at h
  split at h
  ·rename_i hb;exact q3v hb
  ·cases h
 | .agg l,v,x,h=>by
  unfold qay at h
  split at h
  ·rename_i vs hv;rw [q1t hv];exact xz l vs x h
  ·cases h
 | .tup l,v,x,h=>by
  unfold qay at h
  split at h
  ·rename_i vs hv;rw [q5p hv];exact xz l vs x h
  ·cases h
 | .fn f a c, v, x, h => by
  unfold qay at h
  split at h
  ·rename_i f' xa xc hv
   rw [q6v hv]
   split at h
   ·rename_i u w hf hu hw
    injection h with h
    subst h
    refine⟨q92 hf, ?_, ?_⟩
    ·rw [zd];exact xz _ _ _ hu
    ·rw [yq];exact xz _ _ _ hw
   ·cases h
  ·cases h
 | .iface t s, v, x, h => by
  unfold qay at h
  split at h
  ·rename_i t' w hv
   rw [q64 hv]
   split at h
   ·rename_i ht
    exact⟨Nat.eq_of_beq_eq_true ht,qcy _ _ _ h⟩
   ·cases h
  ·cases h
 | .fm k u,v,x,h=>by
  have h:q6t k u v=some x:=h
  rw [q6u h]
  exact rfl
 | .fs t,v,x,h=>by
  have h:q6x t v=some x:=h
  rw [q6y h]
  exact qw1 (.sl t x.1 x.2) trivial
 | .ep t k j, v, x, h => by
  unfold qay at h
  split at h
  ·rename_i i hi
   injection h with h
   subst h
   exact q6p hi
  ·cases h
 | .ip t j,v,x,h=>by
  have h:q66 t j v=some x:=h
  rw [q67 h]
  unfold qd9 qv
  rfl
theorem xz: ∀(l:List Sh) (vs:List AV) (x:(Sh.ty.tyL l).den),qay.decL ρ l vs=some x→qv.viewL ρ vs (qd9.encL l x)
 |[],vs,x,h=>by
  unfold qay.decL at h
  split at h
  ·exact trivial
  ·cases h
 | s :: r, vs, x, h => by
  unfold qay.decL at h
  split at h
  ·split at h
   ·rename_i u w hu hw
    injection h with h
    subst h
    refine⟨?_, ?_⟩
    ·rw [zd];exact qcy _ _ _ hu
    ·rw [yq];exact xz _ _ _ hw
   ·cases h
  ·cases h
end
theorem qod{b:BSh}{z:AB}{x:b.ty.den}(h:q6i ρ b z=some x):qiw ρ z (jdx b x):=by
 cases b with
 |var l=>
  have h:(match qiv z with|some cs=>qay.decL ρ l cs|none=>none)=some x:=h
  cases hz:qiv z with
  |some cs=>rw [hz] at h;rw [qu3 hz];exact xz _ _ _ h
  |none=>rw [hz] at h;cases h
 |arr t fr=>exact q1z h
 |mp k v=>exact q7h h
 |gone=>exact trivial
 |dat t=>
  have h:(match qiv z with|some cs=>gz t cs|none=>none)=some x:=h
  cases hz:qiv z with
  |some cs=>rw [hz] at h;rw [qu3 hz];exact qa8 h
  |none=>rw [hz] at h;cases h
theorem ue{h:qa}: ∀(l:List BSh) (r:List Src) (x:(tyH l).den),qkh ρ h l r=some x→qaw ρ h r (qi2 l x)
 |[],[],_,_=>trivial
 |[],_::_,_,hd=>by unfold qkh at hd;cases hd
 |_::_,[],_,hd=>by unfold qkh at hd;cases hd
 | b :: l, .old m :: r, x, hd => by
  unfold qkh at hd
  split at hd
  ·rename_i u w hu hw
   injection hd with hd
   subst hd
   refine⟨?_, ?_⟩
   ·rw [zd];exact qod hu
   ·rw [yq];exact ue _ _ _ hw
  ·cases hd
 | b :: l, .emp t fr :: r, x, hd => by
  unfold qkh at hd
  split at hd
  ·rename_i u w hg hu hw
   injection hd with hd
   subst hd
   refine⟨?_, ?_⟩
   ·rw [zd]
    cases b with
    |var l=>cases hg
    |arr t2 fr=>exact(qod (b:= .arr t2 fr) hu).symm
    |mp k v=>cases hg
    |gone=>cases hg
    |dat t=>cases hg
   ·rw [yq];exact ue _ _ _ hw
  ·cases hd
 | b :: l, .no m :: r, x, hd => by
  unfold qkh at hd
  split at hd
  ·rename_i u w hg hu hw
   injection hd with hd
   subst hd
   refine⟨?_, ?_⟩
   ·cases b with
    |gone=>exact⟨rfl,hg⟩
    |var l=>cases hg
    |arr t2 fr=>cases hg
    |mp k v=>cases hg
    |dat t=>cases hg
   ·rw [yq];exact ue _ _ _ hw
  ·cases hd
theorem qki{s:qc}: ∀(l:List (Nat×Sh)) (x:(tyS l).den),qxq ρ s l=some x→qyy ρ s (q3p l x)
 |[],_,_=>trivial
 | p :: l, x, hd => by
  simp only [qxq] at hd
  split at hd
  ·rename_i u w hu hw
   injection hd with hd
   subst hd
   refine⟨?_, ?_⟩
   ·rw [zd];exact qcy _ _ _ hu
   ·rw [yq];exact qki _ _ hw
  ·cases hd
end
end Go.AM
