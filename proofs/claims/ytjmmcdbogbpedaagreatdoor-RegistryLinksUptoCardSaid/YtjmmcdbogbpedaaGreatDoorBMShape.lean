import Derived.Test.YtjmmcdbogbpedaaGreatDoorBMTree2
namespace Go.AM
set_option linter.unusedSectionVars false
variable [Lay]
def GVal.re(v:GVal):GVal:= .mk v.kind v.n v.s v.items v.names
@[simp] theorem GVal.re_eq (v:GVal):v.re=v:=by cases v;rfl
def yd:Ty→Ty→Ty
 | .unit,b=>b
 |a,.unit=>a
 |a,b=> .pair a b
def tmk(a b:Ty):a.den→b.den→(yd a b).den:=by
 cases a <;>cases b <;>first|exact fun _ y=>y|exact fun x _=>x|exact fun x y=>(x,y)
def qmp(a b:Ty):(yd a b).den→a.den:=by
 cases a <;>cases b <;>first|exact fun _=>()|exact fun x=>x|exact fun x=>x.1
def qkz(a b:Ty):(yd a b).den→b.den:=by
 cases a <;>cases b <;>first|exact fun x=>x|exact fun _=>()|exact fun x=>x.2
theorem gt(a b:Ty)(x:a.den)(y:b.den):qmp a b (tmk a b x y)=x:=by cases a <;>cases b <;>rfl
theorem zk(a b:Ty)(x:a.den)(y:b.den):qkz a b (tmk a b x y)=y:=by cases a <;>cases b <;>rfl
inductive Sh where
 |d (t:Ty)
 |fx (v:AV)
 |agg (l:List Sh)
 |tup (l:List Sh)
 |fn (f:Fn) (a c:List Sh)
 |iface (t:TypeId) (s:Sh)
 |ep (t:Ty) (k j:Nat)
 |ip (t:Ty) (j:Nat)
 |fm (k v:Ty)
 |fs (t:Ty)
def Sh.ty:Sh→Ty
 | .d t=>t
 | .fx _=> .unit
 | .agg l=>tyL l
 | .tup l=>tyL l
 | .fn _ a c=>yd (tyL a) (tyL c)
 | .iface _ s=>s.ty
 | .ep _ _ _=> .int .i64
 | .ip t _=>t
 | .fm k v=> .sl (.pair k v)
 | .fs t=> .pair (.sl t) .bool
where tyL:List Sh→Ty
 |[]=> .unit
 |s::r=>yd s.ty (tyL r)
def jlx:(t:Ty)→t.den→AV
 | .unit,_=> .agg []
 | .int k,n=> .int k n
 | .bool,b=> .bool b
 | .str,s=> .str s
 | .pair a b,x=> .agg (cellsOf (.pair a b) x)
 | .sl t,l=> .sl t l false
 | .val,v=> .agg (cellsOf .val v)
def qf0:(s:Sh)→s.ty.den→AV
 | .d t,x=>jlx t x
 | .fx v,_=>v
 | .agg l,x=> .agg (encL l x)
 | .tup l,x=> .tup (encL l x)
 | .fn f a c,x=> .fn f (encL a (qmp _ _ x)) (encL c (qkz _ _ x))
 | .iface t s,x=> .iface t (qf0 s x)
 | .ep t k j,x=> .eptr t k (Int.toNat x) j
 | .ip t j,x=> .iptr t x j
 | .fm k v,x=> .fmap k v x
 | .fs t,x=> .sl t x.1 x.2
where encL:(l:List Sh)→(Sh.ty.tyL l).den→List AV
 |[],_=>[]
 |s::r,x=>qf0 s (qmp _ _ x)::encL r (qkz _ _ x)
inductive BSh where
 |var (l:List Sh)
 |arr (t:Ty) (fr:Bool)
 |mp (k v:Ty)
 |gone
 |dat (t:Ty)
def BSh.ty:BSh→Ty
 | .var l=>Sh.ty.tyL l
 | .arr t _=> .sl t
 | .mp k v=> .sl (.pair k v)
 | .gone=> .unit
 | .dat t=>t
def joj:(b:BSh)→b.ty.den→AB
 | .var l,x=> .var (qf0.encL l x)
 | .arr t fr,x=> .arr t x fr
 | .mp k v,x=> .mp k v x
 | .gone,_=> .gone
 | .dat t,x=> .var (cellsOf t x)
def tyH:List BSh→Ty
 |[]=> .unit
 |b::r=>yd b.ty (tyH r)
def qme:(l:List BSh)→(tyH l).den→qa
 |[],_=>[]
 |b::r,x=>joj b (qmp _ _ x)::qme r (qkz _ _ x)
structure SS where
 sl:List (Nat×Sh)
 hp:List BSh
def tyS:List (Nat×Sh)→Ty
 |[]=> .unit
 |p::r=>yd p.2.ty (tyS r)
def jcn:(l:List (Nat×Sh))→(tyS l).den→qc
 |[],_=>[]
 |p::r,x=>(p.1,qf0 p.2 (qmp _ _ x))::jcn r (qkz _ _ x)
def SS.ty(S:SS):Ty:=yd (tyS S.sl) (tyH S.hp)
def SS.slots(S:SS)(x:S.ty.den):qc:=jcn S.sl (qmp _ _ x)
def SS.heap(S:SS)(x:S.ty.den):qa:=qme S.hp (qkz _ _ x)
def jfr:(t:Ty)→AV→Option t.den
 | .unit,.agg []=>some ()
 | .int k,.int k' n=>match decEq k' k with|isTrue _=>some n|isFalse _=>none
 | .bool,.t=>some true
 | .bool,.f=>some false
 | .bool,.bool b=>some b
 | .str,.str s=>some s
 | .sl t,.sl t' l _=>match decEq t' t with|isTrue e=>some (e▸l)|isFalse _=>none
 | .sl _,.nilsl=>some []
 | .pair a b,.agg cs=>qak (.pair a b) cs
 | .val,.agg cs=>qak .val cs
 |_,_=>none
def leB:Bool→Bool→Bool
 |false,_=>true
 |true,b=>b
theorem jjv: ∀{f f':Bool},leB f f'=true→f'=f∨(f=false∧f'=true)
 |false,false,_=> .inl rfl
 |false,true,_=> .inr ⟨rfl,rfl⟩
 |true,true,_=> .inl rfl
def qto(m:Nat):Option Src→Bool
 |some (.old k)=>Nat.beq k m
 |_=>false
def fxB(ρ:List Src):AV→AV→Bool
 | .junk,_=>true
 | .nilsl,.nilsl=>true
 | .nilptr,.nilptr=>true
 | .nilfn,.nilfn=>true
 | .niliface,.niliface=>true
 | .t,.t=>true
 | .f,.f=>true
 | .int k n,.int k' n'=>decide (k'=k)&&decide (n'=n)
 | .sl _ [] _,.nilsl=>true
 | .sl t [] f,.sl t' [] f'=>decide (t'=t)&&(match f,f' with|false,_=>true|true,true=>true|true,false=>false)
 | .ptr k j,.ptr m j'=>qto m ρ[k]? &&Nat.beq j' j
 | .mptr k,.mptr m=>qto m ρ[k]?
 | .own t k f,.own t' m f'=>qto m ρ[k]? &&decide (t'=t)&&leB f f'
 | .own t k false,.sl t' [] true=>decide (t'=t)&&(match ρ[k]? with|some (.emp t2 _)=>decide (t2=t)|_=>false)
 | .own t k false,.nilsl=>(match ρ[k]? with|some (.emp t2 _)=>decide (t2=t)|_=>false)
 |_,_=>false
def fnB:Fn→Fn→Bool
 | .func f,.func g=>Nat.beq f g
 |_,_=>false
def q9j:AV→Option (List AV)
 | .agg vs=>some vs
 |_=>none
def jeh:AV→Option (List AV)
 | .tup vs=>some vs
 |_=>none
def jjl:AV→Option (Fn×List AV×List AV)
 | .fn f a c=>some (f,a,c)
 |_=>none
def jjr:AV→Option (TypeId×AV)
 | .iface t v=>some (t,v)
 |_=>none
def jji(ρ:List Src)(t:Ty)(k j:Nat):AV→Option Nat
 | .eptr t' m i j'=>match qto m ρ[k]? &&decide (t'=t)&&Nat.beq j' j with|true=>some i|false=>none
 |_=>none
def jga(t:Ty)(j:Nat):AV→Option t.den
 | .iptr t' x j'=>match decEq t' t,Nat.beq j' j with|isTrue e,true=>some (e▸x)|_,_=>none
 |_=>none
def jfy(k v:Ty):AV→Option (List (k.den×v.den))
 | .fmap k' v' l=>match decEq k' k,decEq v' v with|isTrue e,isTrue e'=>some (e▸e'▸l)|_,_=>none
 |_=>none
def jf2(t:Ty):AV→Option (List t.den×Bool)
 | .sl t' l f=>match decEq t' t with|isTrue e=>some (e▸l,f)|isFalse _=>none
 |_=>none
def qcb(ρ:List Src):(s:Sh)→AV→Option s.ty.den
 | .d t,x=>jfr t x
 | .fx v,x=>match fxB ρ v x with|true=>some ()|false=>none
 | .agg l,x=>match q9j x with|some vs=>decL ρ l vs|none=>none
 | .tup l,x=>match jeh x with|some vs=>decL ρ l vs|none=>none
 | .fn f a c, x => match jjl x with
  |some (f',xa,xc)=>match fnB f' f,decL ρ a xa,decL ρ c xc with
   |true,some u,some v=>some (tmk _ _ u v)
   |_,_,_=>none
  |none=>none
 | .iface t s,x=>match jjr x with
  |some (t',v)=>match Nat.beq t' t with|true=>qcb ρ s v|false=>none
  |none=>none
 | .ep t k j,x=>match jji ρ t k j x with|some i=>some (i:Int)|none=>none
 | .ip t j,x=>jga t j x
 | .fm k v,x=>jfy k v x
 | .fs t,x=>jf2 t x
where decL (ρ:List Src):(l:List Sh)→List AV→Option (Sh.ty.tyL l).den
 |[],vs=>match vs with|[]=>some ()|_=>none
 |s::r,vs=>match vs with
  |v::vs=>match qcb ρ s v,decL ρ r vs with|some u,some w=>some (tmk _ _ u w)|_,_=>none
  |[]=>none
def ql4:AB→Option (List AV)
 | .var cs=>some cs
 |_=>none
def q9o(t:Ty)(fr:Bool):AB→Option (List t.den)
 | .arr t' l fr'=>match decEq t' t,fr,fr' with
  |isTrue e,true,true=>some (e▸l)
  |isTrue e,false,false=>some (e▸l)
  |_,_,_=>none
 |_=>none
def jj3(k v:Ty):AB→Option (List (k.den×v.den))
 | .mp k' v' l=>match decEq k' k,decEq v' v with|isTrue e,isTrue e'=>some (e▸e'▸l)|_,_=>none
 |_=>none
def jfq(ρ:List Src):(b:BSh)→AB→Option b.ty.den
 | .var l,x=>match ql4 x with|some cs=>qcb.decL ρ l cs|none=>none
 | .arr t fr,x=>q9o t fr x
 | .mp k v,x=>jj3 k v x
 | .gone,_=>some ()
 | .dat t,x=>match ql4 x with|some cs=>qak t cs|none=>none
def qnx(ρ:List Src)(h:qa):(l:List BSh)→List Src→Option (tyH l).den
 |[],[]=>some ()
 |b::r,.old m::q=>match jfq ρ b (qd h m),qnx ρ h r q with|some u,some w=>some (tmk _ _ u w)|_,_=>none
 |b::r,.emp t fr::q=>match(match b with| .arr _ _=>true|_=>false),jfq ρ b (.arr t [] fr),qnx ρ h r q with|true,some u,some w=>some (tmk _ _ u w)|_,_,_=>none
 |b::r,.no m::q=>match(match b with| .gone=>q47 (qd h m)|_=>false),jfq ρ b .gone,qnx ρ h r q with|true,some u,some w=>some (tmk _ _ u w)|_,_,_=>none
 |_,_=>none
def q4z(ρ:List Src)(s:qc):(l:List (Nat×Sh))→Option (tyS l).den
 |[]=>some ()
 |p::r=>match qcb ρ p.2 (lkp p.1 s),q4z ρ s r with|some u,some w=>some (tmk _ _ u w)|_,_=>none
def jeb:Sh→AV→List (Nat×Src)
 | .fx (.ptr k _),.ptr m _=>[(k,.old m)]
 | .fx (.mptr k),.mptr m=>[(k,.old m)]
 | .ep _ k _,.eptr _ m _ _=>[(k,.old m)]
 | .fx (.own _ k _),.own _ m _=>[(k,.old m)]
 | .fx (.own t k _),_=>[(k,.emp t true)]
 | .agg l,.agg vs=>srcL l vs
 | .tup l,.tup vs=>srcL l vs
 | .fn _ a c,.fn _ xa xc=>srcL a xa++srcL c xc
 | .iface _ s,.iface _ v=>jeb s v
 |_,_=>[]
where srcL:List Sh→List AV→List (Nat×Src)
 |s::r,v::vs=>jeb s v++srcL r vs
 |_,_=>[]
def jqe:BSh→AB→List (Nat×Src)
 | .var l,.var cs=>jeb.srcL l cs
 |_,_=>[]
def jec(s:qc):List (Nat×Sh)→List (Nat×Src)
 |[]=>[]
 |p::r=>jeb p.2 (lkp p.1 s)++jec s r
def jim(k:Nat):List (Nat×Src)→Option Src
 |[]=>none
 |(j,x)::r=>match Nat.beq j k with|true=>some x|false=>jim k r
def q8k(n0:Nat)(h:qa):Nat→List BSh→List (Nat×Src)→Option (List Src)
 |_,[],_=>some []
 |k,b::r,acc=>
  match(match Nat.blt k n0 with|true=>some (match b with| .gone=>Src.no k|_=>Src.old k)|false=>jim k acc) with
  |some (.old m)=>match q8k n0 h (k+1) r (acc++jqe b (qd h m)) with|some q=>some (.old m::q)|none=>none
  |some (.emp t _)=>match q8k n0 h (k+1) r acc with|some q=>some (.emp t (match b with| .arr _ fr=>fr|_=>true)::q)|none=>none
  |some (.no m)=>match q8k n0 h (k+1) r acc with|some q=>some (.no m::q)|none=>none
  |none=>none
def frB:Option BSh→Bool
 |some (.arr _ false)=>true
 |_=>false
def fzS(hp:List BSh):Sh→AV→List Nat
 | .d _,v=>ka v.cells
 | .fx (.own _ k _),.own _ m _=>match frB hp[k]? with|true=>[m]|false=>[]
 | .agg l,.agg vs=>fzL l vs
 | .tup l,.tup vs=>fzL l vs
 | .fn _ a c,.fn _ xa xc=>fzL a xa++fzL c xc
 | .iface _ s,.iface _ v=>fzS hp s v
 |_,_=>[]
where fzL:List Sh→List AV→List Nat
 |s::r,v::vs=>fzS hp s v++fzL r vs
 |_,_=>[]
def q23(hp:List BSh)(s:qc):List (Nat×Sh)→List Nat
 |[]=>[]
 |p::r=>fzS hp p.2 (lkp p.1 s)++q23 hp s r
def daS:Sh→AV→List Nat
 | .d _,v=>ka v.cells
 | .agg l,.agg vs=>daL l vs
 | .tup l,.tup vs=>daL l vs
 | .fn _ a c,.fn _ xa xc=>daL a xa++daL c xc
 | .iface _ s,.iface _ v=>daS s v
 |_,_=>[]
where daL:List Sh→List AV→List Nat
 |s::r,v::vs=>daS s v++daL r vs
 |_,_=>[]
def qkt(fz:List Nat)(g:Nat→AB)(v:AV):AV:=
 match(ka v.cells).all fun b=>fz.any (Nat.beq b) with
 |true=>res g v
 |false=>v
def qpc(g:Nat→AB)(s:qc):List (Nat×Sh)→qc
 |[]=>[]
 |p::r=>(p.1,qkt (daS p.2 (lkp p.1 s)) g (lkp p.1 s))::qpc g s r
def qck(n0:Nat)(S:SS)(s:qc)(h:qa):Option S.ty.den:=
 match q8k n0 h 0 S.hp (jec s S.sl) with
 |none=>none
 | some ρ =>
  match yo ρ,q4z ρ s S.sl,qnx ρ h S.hp ρ with
  |true,some u,some w=>
   match qci n0 0 ρ (qme S.hp w) with
   |true=>some (tmk _ _ u w)
   |false=>none
  |_,_,_=>none
def fzB(hp:List BSh):BSh→AB→List Nat
 | .var l,.var cs=>fzS.fzL hp l cs
 | .dat _,.var cs=>ka cs
 |_,_=>[]
def daB:BSh→AB→List Nat
 | .var l,.var cs=>daS.daL l cs
 | .dat _,.var cs=>ka cs
 |_,_=>[]
def qn9(hp:List BSh)(h:qa):List Src→List BSh→List Nat
 | .old m::q,b::r=>fzB hp b (qd h m)++qn9 hp h q r
 |_::q,_::r=>qn9 hp h q r
 |_,_=>[]
def qac(h:qa):List Src→List BSh→List (Nat×AB)
 | .old m::q,b::r=>match qd h m,daB b (qd h m) with
  | .var cs,x::xs=>(m,.var (cs.map (qkt (x::xs) (qd h))))::qac h q r
  |_,_=>qac h q r
 |_::q,_::r=>qac h q r
 |_,_=>[]
def qgv(n0:Nat)(S:SS)(s:qc)(h:qa):Option S.ty.den:=
 match q8k n0 h 0 S.hp (jec s S.sl) with
 |none=>none
 |some ρ=>qck n0 S (qpc (qd h) s S.sl) (qg (qg h (frz (qd h) (q23 S.hp s S.sl++qn9 S.hp h ρ S.hp))) (qac h ρ S.hp))
section
variable {ρ:List Src}
theorem qag{t' t:Ty}(e:t'=t)(l:List t'.den)(f:Bool):qc8 t' l f t (e▸l) false:=by
 subst e
 unfold qc8
 split
 ·exact⟨rfl,.inr rfl⟩
 ·rename_i hn _;exact absurd rfl hn
theorem qul: ∀{p q p' q':List AV},q8.viewL ρ p q→q8.viewL ρ p' q'→q8.viewL ρ (p++p') (q++q')
 |[],[],_,_,_,h=>h
 |_::_,_::_,_,_,h1,h2=>⟨h1.1,qul h1.2 h2⟩
 |[],_::_,_,_,h,_=>h.elim
 |_::_,[],_,_,h,_=>h.elim
theorem jcc: ∀(t:Ty) (cs:List AV) (x:t.den) (r:List AV),dec t cs=some (x,r)→∃q,cs=q++r∧q8.viewL ρ q (cellsOf t x):=by
 intro t
 induction t with
 |unit=>
  intro cs x r h
  simp only [dec] at h
  injection h with h;injection h with h1 h2
  exact⟨[],by simp [h2],trivial⟩
 | int k =>
  intro cs x r h
  cases cs with
  |nil=>simp [dec] at h
  |cons v vs=>
   cases v <;>simp [dec] at h
   obtain⟨rfl,rfl,rfl⟩:=h
   exact⟨[_],rfl,⟨rfl,rfl⟩,trivial⟩
 | bool =>
  intro cs x r h
  cases cs with
  |nil=>simp [dec] at h
  |cons v vs=>
   cases v <;>simp [dec] at h <;>obtain⟨rfl,rfl⟩:=h
   ·exact⟨[_],rfl,rfl,trivial⟩
   ·exact⟨[_],rfl,rfl,trivial⟩
   ·exact⟨[_],rfl,rfl,trivial⟩
 | str =>
  intro cs x r h
  cases cs with
  |nil=>simp [dec] at h
  |cons v vs=>
   cases v <;>simp [dec] at h
   obtain⟨rfl,rfl⟩:=h
   exact⟨[_],rfl,rfl,trivial⟩
 | sl t _ =>
  intro cs x r h
  cases cs with
  |nil=>simp [dec] at h
  | cons v vs =>
   cases v <;>simp [dec] at h
   ·obtain ⟨rfl, rfl⟩ := h
    exact⟨[_],rfl,rfl,trivial⟩
   ·obtain ⟨⟨e, rfl⟩, rfl⟩ := h
    exact⟨[_],rfl,qag e _ _,trivial⟩
 | pair a b iha ihb =>
  intro cs x r h
  simp only [dec] at h
  split at h
  ·rename_i u q hu
   split at h
   ·rename_i v q' hv
    injection h with h;injection h with h1 h2
    subst h1 h2
    obtain⟨p1,e1,v1⟩:=iha _ _ _ hu
    obtain⟨p2,e2,v2⟩:=ihb _ _ _ hv
    exact⟨p1++p2,by rw [e1,e2,List.append_assoc],qul v1 v2⟩
   ·cases h
  ·cases h
 | val =>
  intro cs x r h
  match cs,h with
  | .int k1 k :: .int k2 n :: .str q :: i :: m :: r0, h =>
   simp only [dec] at h
   split at h
   ·rename_i hk
    obtain⟨rfl,rfl⟩:=hk
    split at h
    ·rename_i li lm hi hm
     injection h with h;injection h with h1 h2
     subst h1 h2
     refine⟨[.int .i64 k,.int .i64 n,.str q,i,m],rfl,⟨rfl,rfl⟩,⟨rfl,rfl⟩,rfl, ?_, ?_,trivial⟩
     ·split at hi
      ·cases hi;exact qag (t':= .val) (t:= .val) rfl _ _
      ·cases hi;exact rfl
      ·cases hi
     ·split at hm
      ·cases hm;exact qag (t':= .str) (t:= .str) rfl _ _
      ·cases hm;exact rfl
      ·cases hm
    ·cases h
   ·cases h
theorem qcj{t:Ty}{cs:List AV}{x:t.den}(h:qak t cs=some x):q8.viewL ρ cs (cellsOf t x):=by
 unfold qak at h
 split at h
 ·rename_i y hd
  injection h with h
  subst h
  obtain⟨q,e,hv⟩:=jcc (ρ:=ρ) t cs _ _ hd
  rw [e,List.append_nil]
  exact hv
 ·cases h
theorem q69{t:Ty}{v:AV}{x:t.den}(h:jfr t v=some x):q8 ρ v (jlx t x):=by
 match t,v,x,h with
 | .unit,.agg [],_,_=>exact trivial
 | .int k,.int k' n,x,h=>
  simp only [jfr] at h
  split at h
  ·rename_i e _;injection h with h;subst h;exact⟨e,rfl⟩
  ·cases h
 | .bool,.t,x,h=>injection h with h;exact h.symm
 | .bool,.f,x,h=>injection h with h;exact h.symm
 | .bool,.bool b,x,h=>injection h with h
 | .str,.str q,x,h=>injection h with h
 | .sl t,.sl t' l f,x,h=>
  simp only [jfr] at h
  split at h
  ·rename_i e _;injection h with h;subst h;exact qag e _ _
  ·cases h
 | .sl t,.nilsl,x,h=>injection h with h;exact h.symm
 | .pair a b,.agg cs,x,h=>exact qcj h
 | .val,.agg cs,x,h=>exact qcj h
theorem qg6{m:Nat}{o:Option Src}(h:qto m o=true):o=some (.old m):=by
 unfold qto at h
 split at h
 ·rw [Nat.eq_of_beq_eq_true h]
 ·cases h
theorem jcs{v x:AV}(h:fxB ρ v x=true):q8 ρ x v:=by
 unfold fxB at h
 split at h
 ·exact(by unfold q8;trivial)
 all_goals first
  |(rfl;done)
  |(cases h;done)
  |(simp only [Bool.and_eq_true,decide_eq_true_eq] at h;exact h)
  |skip
 ·simp only [Bool.and_eq_true, decide_eq_true_eq] at h
  obtain⟨e,h⟩:=h
  subst e
  show qc8 _ _ _ _ _ _
  unfold qc8
  split
  ·rename_i e _
   refine⟨by cases e;rfl, ?_⟩
   split at h
   ·exact .inr rfl
   ·exact .inl rfl
   ·cases h
  ·rename_i hn _;exact hn rfl
 ·simp only [Bool.and_eq_true] at h
  simp only [q8,qg6 h.1,Nat.eq_of_beq_eq_true h.2]
 ·simp only [q8,qg6 h]
 ·simp only [Bool.and_eq_true, decide_eq_true_eq] at h
  simp only [q8,qg6 h.1.1,h.1.2]
  rcases jjv h.2 with e|⟨e,e'⟩
  ·exact .inl (by rw [e])
  ·exact .inr ⟨e,by rw [e']⟩
 ·simp only [Bool.and_eq_true, decide_eq_true_eq] at h
  have h2:=h.2
  split at h2
  ·rename_i t2 he
   simp only [q8,he]
   refine⟨of_decide_eq_true h2,trivial,h.1, ?_, ?_⟩ <;>first|trivial|rfl
  ·cases h2
 ·split at h
  ·rename_i t2 he
   simp only [q8,he]
   refine⟨of_decide_eq_true h, ?_, ?_⟩ <;>first|trivial|rfl
  ·cases h
theorem jjk{f g:Fn}(h:fnB f g=true):f=g:=by
 unfold fnB at h
 split at h
 ·rw [Nat.eq_of_beq_eq_true h]
 ·cases h
theorem q9k{v:AV}{vs:List AV}(h:q9j v=some vs):v= .agg vs:=by
 unfold q9j at h
 split at h
 ·injection h with h;rw [h]
 ·cases h
theorem jei{v:AV}{vs:List AV}(h:jeh v=some vs):v= .tup vs:=by
 unfold jeh at h
 split at h
 ·injection h with h;rw [h]
 ·cases h
theorem jf0{v:AV}{f:Fn}{a c:List AV}(h:jjl v=some (f,a,c)):v= .fn f a c:=by
 unfold jjl at h
 split at h
 ·injection h with h;injection h with h1 h2;injection h2 with h2 h3;rw [h1,h2,h3]
 ·cases h
theorem jf9{v x:AV}{t:TypeId}(h:jjr v=some (t,x)):v= .iface t x:=by
 unfold jjr at h
 split at h
 ·injection h with h;injection h with h1 h2;rw [h1,h2]
 ·cases h
theorem jfw{t:Ty}{k j i:Nat}{v:AV}(h:jji ρ t k j v=some i):q8 ρ v (.eptr t k (Int.toNat (i:Int)) j):=by
 unfold jji at h
 split at h
 ·split at h
  ·rename_i hb
   injection h with h
   subst h
   simp only [Bool.and_eq_true,decide_eq_true_eq] at hb
   simp only [q8,qg6 hb.1.1,hb.1.2,Nat.eq_of_beq_eq_true hb.2,Int.toNat_natCast]
  ·cases h
 ·cases h
theorem jgb{t:Ty}{j:Nat}{v:AV}{x:t.den}(h:jga t j v=some x):v= .iptr t x j:=by
 unfold jga at h
 split at h
 ·split at h
  ·rename_i e _ hb;injection h with h;subst e;subst h;rw [Nat.eq_of_beq_eq_true hb]
  ·cases h
 ·cases h
theorem jfz{v:AV}{k u:Ty}{l:List (k.den×u.den)}(h:jfy k u v=some l):v= .fmap k u l:=by
 unfold jfy at h
 split at h
 ·split at h
  ·rename_i e e' _ _;injection h with h;subst e;subst e';subst h;rfl
  ·cases h
 ·cases h
theorem jf3{v:AV}{t:Ty}{l:List t.den×Bool}(h:jf2 t v=some l):v= .sl t l.1 l.2:=by
 unfold jf2 at h
 split at h
 ·split at h
  ·rename_i e _;injection h with h;subst e;subst h;rfl
  ·cases h
 ·cases h
theorem q1z{z:AB}{cs:List AV}(h:ql4 z=some cs):z= .var cs:=by
 unfold ql4 at h
 split at h
 ·injection h with h;rw [h]
 ·cases h
theorem q9p{z:AB}{t:Ty}{fr:Bool}{l:List t.den}(h:q9o t fr z=some l):z= .arr t l fr:=by
 unfold q9o at h
 split at h
 ·split at h
  ·rename_i e _;injection h with h;subst e;subst h;rfl
  ·rename_i e _;injection h with h;subst e;subst h;rfl
  ·cases h
 ·cases h
theorem jgm{z:AB}{k v:Ty}{l:List (k.den×v.den)}(h:jj3 k v z=some l):z= .mp k v l:=by
 unfold jj3 at h
 split at h
 ·split at h
  ·rename_i e e' _ _;injection h with h;subst e;subst e';subst h;rfl
  ·cases h
 ·cases h
mutual
theorem qei: ∀(s:Sh) (v:AV) (x:s.ty.den),qcb ρ s v=some x→q8 ρ v (qf0 s x)
 | .d t,v,x,h=>q69 h
 | .fx w,v,x,h=>by
  unfold qcb at h
  split at h
  ·rename_i hb;exact jcs hb
  ·cases h
 | .agg l,v,x,h=>by
  unfold qcb at h
  split at h
  ·rename_i vs hv;rw [q9k hv];exact y6 l vs x h
  ·cases h
 | .tup l,v,x,h=>by
  unfold qcb at h
  split at h
  ·rename_i vs hv;rw [jei hv];exact y6 l vs x h
  ·cases h
 | .fn f a c, v, x, h => by
  unfold qcb at h
  split at h
  ·rename_i f' xa xc hv
   rw [jf0 hv]
   split at h
   ·rename_i u w hf hu hw
    injection h with h
    subst h
    refine⟨jjk hf, ?_, ?_⟩
    ·rw [gt];exact y6 _ _ _ hu
    ·rw [zk];exact y6 _ _ _ hw
   ·cases h
  ·cases h
 | .iface t s, v, x, h => by
  unfold qcb at h
  split at h
  ·rename_i t' w hv
   rw [jf9 hv]
   split at h
   ·rename_i ht
    exact⟨Nat.eq_of_beq_eq_true ht,qei _ _ _ h⟩
   ·cases h
  ·cases h
 | .fm k u,v,x,h=>by
  have h:jfy k u v=some x:=h
  rw [jfz h]
  exact rfl
 | .fs t,v,x,h=>by
  have h:jf2 t v=some x:=h
  rw [jf3 h]
  exact q36 (.sl t x.1 x.2) trivial
 | .ep t k j, v, x, h => by
  unfold qcb at h
  split at h
  ·rename_i i hi
   injection h with h
   subst h
   exact jfw hi
  ·cases h
 | .ip t j,v,x,h=>by
  have h:jga t j v=some x:=h
  rw [jgb h]
  unfold qf0 q8
  rfl
theorem y6: ∀(l:List Sh) (vs:List AV) (x:(Sh.ty.tyL l).den),qcb.decL ρ l vs=some x→q8.viewL ρ vs (qf0.encL l x)
 |[],vs,x,h=>by
  unfold qcb.decL at h
  split at h
  ·exact trivial
  ·cases h
 | s :: r, vs, x, h => by
  unfold qcb.decL at h
  split at h
  ·split at h
   ·rename_i u w hu hw
    injection h with h
    subst h
    refine⟨?_, ?_⟩
    ·rw [gt];exact qei _ _ _ hu
    ·rw [zk];exact y6 _ _ _ hw
   ·cases h
  ·cases h
end
theorem qta{b:BSh}{z:AB}{x:b.ty.den}(h:jfq ρ b z=some x):ql5 ρ z (joj b x):=by
 cases b with
 |var l=>
  have h:(match ql4 z with|some cs=>qcb.decL ρ l cs|none=>none)=some x:=h
  cases hz:ql4 z with
  |some cs=>rw [hz] at h;rw [q1z hz];exact y6 _ _ _ h
  |none=>rw [hz] at h;cases h
 |arr t fr=>exact q9p h
 |mp k v=>exact jgm h
 |gone=>exact trivial
 |dat t=>
  have h:(match ql4 z with|some cs=>qak t cs|none=>none)=some x:=h
  cases hz:ql4 z with
  |some cs=>rw [hz] at h;rw [q1z hz];exact qcj h
  |none=>rw [hz] at h;cases h
theorem qaw{h:qa}: ∀(l:List BSh) (r:List Src) (x:(tyH l).den),qnx ρ h l r=some x→qb8 ρ h r (qme l x)
 |[],[],_,_=>trivial
 |[],_::_,_,hd=>by unfold qnx at hd;cases hd
 |_::_,[],_,hd=>by unfold qnx at hd;cases hd
 | b :: l, .old m :: r, x, hd => by
  unfold qnx at hd
  split at hd
  ·rename_i u w hu hw
   injection hd with hd
   subst hd
   refine⟨?_, ?_⟩
   ·rw [gt];exact qta hu
   ·rw [zk];exact qaw _ _ _ hw
  ·cases hd
 | b :: l, .emp t fr :: r, x, hd => by
  unfold qnx at hd
  split at hd
  ·rename_i u w hg hu hw
   injection hd with hd
   subst hd
   refine⟨?_, ?_⟩
   ·rw [gt]
    cases b with
    |var l=>cases hg
    |arr t2 fr=>exact(qta (b:= .arr t2 fr) hu).symm
    |mp k v=>cases hg
    |gone=>cases hg
    |dat t=>cases hg
   ·rw [zk];exact qaw _ _ _ hw
  ·cases hd
 | b :: l, .no m :: r, x, hd => by
  unfold qnx at hd
  split at hd
  ·rename_i u w hg hu hw
   injection hd with hd
   subst hd
   refine⟨?_, ?_⟩
   ·cases b with
    |gone=>exact⟨rfl,hg⟩
    |var l=>cases hg
    |arr t2 fr=>cases hg
    |mp k v=>cases hg
    |dat t=>cases hg
   ·rw [zk];exact qaw _ _ _ hw
  ·cases hd
theorem qny{s:qc}: ∀(l:List (Nat×Sh)) (x:(tyS l).den),q4z ρ s l=some x→q53 ρ s (jcn l x)
 |[],_,_=>trivial
 | p :: l, x, hd => by
  simp only [q4z] at hd
  split at hd
  ·rename_i u w hu hw
   injection hd with hd
   subst hd
   refine⟨?_, ?_⟩
   ·rw [gt];exact qei _ _ _ hu
   ·rw [zk];exact qny _ _ hw
  ·cases hd
end
end Go.AM
