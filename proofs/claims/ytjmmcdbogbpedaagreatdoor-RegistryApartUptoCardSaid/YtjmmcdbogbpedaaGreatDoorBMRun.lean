import Derived.Test.YtjmmcdbogbpedaaGreatDoorBMShape
namespace Go.AM
set_option linter.unusedSectionVars false
variable [Lay]
set_option linter.unusedVariables false
section
variable {E:Env} {F:Fp} {w w0:World} {I I0:Nat→Nat→Prop} {h h0 h':qa} {μ μ0:Nat→Option Nat} {a:Act} {s s':qc}
theorem qib{n0:Nat}{S:SS}{x:S.ty.den}(hd:qba n0 S s h=some x): ∃ρ,qdn n0 [] ρ s h (S.slots x) (S.heap x):=by
 unfold qba at hd
 split at hd
 ·cases hd
 ·rename_i ρ hρ
  split at hd
  ·rename_i u v hn hu hw
   split at hd
   ·rename_i hb
    injection hd with hd
    subst hd
    refine⟨ρ, ?_, ?_, ?_⟩
    ·simp only [SS.heap,yq,hb,hn,Bool.and_self]
    ·simp only [SS.heap,yq];exact ue _ _ _ hw
    ·simp only [SS.slots,zd];exact qki _ _ hu
   ·cases hd
  ·cases hd
theorem que(R:RelH w I μ h){fz:List Nat}{g:Nat→AB}{v:Value}{x:AV}(r:Rep w I h μ v x)(hfz: ∀b∈fz,∀t l fr,g b= .arr t l fr→h[b]? =some (.arr t l false)):Rep w I h μ v (qhr fz g x):=by
 unfold qhr
 split
 ·rename_i hall
  refine qae R r fun b hb t l fr hg=>hfz b ?_ t l fr hg
  have:=List.all_eq_true.1 hall b hb
  obtain⟨c,hc,he⟩:=List.any_eq_true.1 this
  rw [Nat.eq_of_beq_eq_true he]
  exact hc
 ·exact r
mutual
theorem qvx(hp:List BSh): ∀(sh:Sh) (v:AV) (b:Nat),b∈daS sh v→b∈fzS hp sh v
 | .d _,v,b,h=>by unfold daS at h;unfold fzS;exact h
 | .fx w,v,b,h=>by unfold daS at h;cases h
 | .agg l,v,b,h=>by
  cases v <;>first|(unfold daS at h;cases h;done)|skip
  unfold daS at h;unfold fzS;exact qg7 hp l _ b h
 | .tup l,v,b,h=>by
  cases v <;>first|(unfold daS at h;cases h;done)|skip
  unfold daS at h;unfold fzS;exact qg7 hp l _ b h
 | .fn f a c,v,b,h=>by
  cases v <;>first|(unfold daS at h;cases h;done)|skip
  unfold daS at h;unfold fzS
  rcases List.mem_append.1 h with h|h
  ·exact List.mem_append_left _ (qg7 hp a _ b h)
  ·exact List.mem_append_right _ (qg7 hp c _ b h)
 | .iface t s,v,b,h=>by
  cases v <;>first|(unfold daS at h;cases h;done)|skip
  unfold daS at h;unfold fzS;exact qvx hp s _ b h
 | .ep _ _ _,v,b,h=>by unfold daS at h;cases h
 | .ip _ _,v,b,h=>by unfold daS at h;cases h
 | .fm _ _,v,b,h=>by unfold daS at h;cases h
 | .fs _,v,b,h=>by unfold daS at h;cases h
theorem qg7(hp:List BSh): ∀(l:List Sh) (vs:List AV) (b:Nat),b∈daS.daL l vs→b∈fzS.fzL hp l vs
 |[],vs,b,h=>by unfold daS.daL at h;cases h
 |s::r,[],b,h=>by unfold daS.daL at h;cases h
 |s::r,v::vs,b,h=>by
  unfold daS.daL at h;unfold fzS.fzL
  rcases List.mem_append.1 h with h|h
  ·exact List.mem_append_left _ (qvx hp s v b h)
  ·exact List.mem_append_right _ (qg7 hp r vs b h)
end
theorem qo6(hp:List BSh){g:Nat→AB}: ∀(l:List (Nat×Sh)) (i:Nat),lkp i (qln g s l)= .junk∨∃q:List Nat,(∀b∈q,b∈qv4 hp s l)∧lkp i (qln g s l)=qhr q g (lkp i s)
 |[],_=> .inl rfl
 | p :: r, i => by
  have e:lkp i (qln g s (p::r))=(match Nat.beq i p.1 with|true=>qhr (daS p.2 (lkp p.1 s)) g (lkp p.1 s)|false=>lkp i (qln g s r)):=rfl
  rw [e]
  cases hb:Nat.beq i p.1 with
  |true=>
   rw [Nat.eq_of_beq_eq_true hb]
   exact .inr ⟨_,fun b h=>List.mem_append_left _ (qvx hp _ _ _ h),rfl⟩
  |false=>
   rcases qo6 hp r i with h|⟨q,h1,h2⟩
   ·exact .inl h
   ·exact .inr ⟨q,fun b h=>List.mem_append_right _ (h1 b h),h2⟩
theorem q9t(hp:List BSh)(b:BSh)(x:AB): ∀q∈daB b x,q∈fzB hp b x:=by
 intro q hq
 cases b <;>cases x <;>first|exact qg7 hp _ _ q hq|exact hq
theorem RelH.revar{m:Nat}{cs1 cs2:List AV}(R:RelH w I μ h)(hm:h[m]? =some (.var cs1))(hr:zm w I h μ m (.var cs2)):
  RelH w I μ (qe h m (.var cs2))∧Fr w (Wr h μ) I w (Wr (qe h m (.var cs2)) μ) I∧HM h μ (qe h m (.var cs2)) μ:=by
 obtain⟨g,vs,e,h1,h2,h3,h4⟩:=hr
 have hlen:m≤h.length:=by
  have:=(List.getElem?_eq_some_iff.1 hm).1
  omega
 have qd: ∀j:Nat,j≠m→(qe h m (.var cs2))[j]? =h[j]? :=fun j hj=>by rw [qi _ h m j hlen,if_neg hj]
 have hself:(qe h m (.var cs2))[m]? =some (.var cs2):=by rw [qi _ h m m hlen,if_pos rfl]
 have hWr: ∀g o,Wr (qe h m (.var cs2)) μ g o→Wr h μ g o:=by
  rintro g o ⟨i,hi,hx⟩
  by_cases e:i=m
  ·subst e
   exact⟨i,hi,.inl ⟨_,hm⟩⟩
  ·rw [qd i e] at hx
   exact⟨i,hi,hx⟩
 exact R.writeF hm trivial h1 (fun _ _=>rfl) rfl ⟨_,rfl⟩ hWr
  ⟨rfl,rfl,rfl,Nat.le_refl _,fun _ _ _=>rfl,fun _ vs _ _ _ h=>⟨vs,h,rfl,fun _ _=>rfl⟩,fun _ _ hh=>hh,fun g o hw=> .inl (hWr g o hw),fun _ _ h=>h,fun _ _ h=> .inl h⟩
  (fun _ hrep _=>⟨g,vs,e,h1,h2,h3,fun k v c e1 e2=>hrep v c (h4 k v c e1 e2)⟩)
theorem q5a{g0:Nat→AB}{fz:List Nat}: ∀(l:List (Nat×AB)) (I:Nat→Nat→Prop) (h1:qa),(∀p∈l,∃(cs:List AV) (q:List Nat),g0 p.1= .var cs∧p.2= .var (cs.map (qhr q g0))∧∀b∈q,b∈fz)→
  RelH w I μ h1→(∀m cs,g0 m= .var cs→(∃cs1,h1[m]? =some (.var cs1))∧zm w I h1 μ m (.var cs))→(∀b∈fz,∀t l fr,g0 b= .arr t l fr→h1[b]? =some (.arr t l false))→
  RelH w I μ (qg h1 l)∧Fr w (Wr h1 μ) I w (Wr (qg h1 l) μ) I∧HM h1 μ (qg h1 l) μ
 |[],I,h1,_,R,_,_=>⟨R,Fr.refl _ _ _,HM.refl _ _⟩
 | p :: r, I, h1, hl, R, V, A => by
  obtain⟨cs,q,hg,hp,hq⟩:=hl p (by simp)
  obtain⟨m,x⟩:=p
  simp only at hg hp
  subst hp
  obtain⟨⟨cs1,hm⟩,hrep⟩:=V m cs hg
  have hrep2:zm w I h1 μ m (.var (cs.map (qhr q g0))):=by
   obtain⟨g,vs,e,k1,k2,k3,k4⟩:=hrep
   refine⟨g,vs,e,k1,k2,by simpa using k3,fun k v c e1 e2=> ?_⟩
   rw [List.getElem?_map] at e2
   cases hc:cs[k]? with
   |none=>rw [hc] at e2;cases e2
   |some c0=>
    rw [hc] at e2
    simp at e2
    subst e2
    exact que R (k4 k v c0 e1 hc) fun b hb t l fr hgb=>A b (hq b hb) t l fr hgb
  obtain⟨R2,F2,M2⟩:=R.revar hm hrep2
  have hlen:m≤h1.length:=by
   have:=(List.getElem?_eq_some_iff.1 hm).1
   omega
  have V2: ∀k cs2,g0 k= .var cs2→(∃cs3,(qe h1 m (.var (List.map (qhr q g0) cs)))[k]? =some (.var cs3))∧zm w I (qe h1 m (.var (List.map (qhr q g0) cs))) μ k (.var cs2):=by
   intro k cs' hk
   obtain⟨⟨c1,hc1⟩,hrep'⟩:=V k cs' hk
   refine⟨?_, ?_⟩
   ·rw [qi _ h1 m k hlen]
    split
    ·exact⟨_,rfl⟩
    ·exact⟨c1,hc1⟩
   ·obtain ⟨g, vs, e, k1, k2, k3, k4⟩ := hrep'
    exact⟨g,vs,e,k1,k2,k3,fun k v c e1 e2=>(k4 k v c e1 e2).step R F2 M2⟩
  have A2: ∀b∈fz,∀t l fr,g0 b= .arr t l fr→(qe h1 m (.var (List.map (qhr q g0) cs)))[b]? =some (.arr t l false):=by
   intro b hb t l fr hgb
   rw [qi _ h1 m b hlen,if_neg]
   ·exact A b hb t l fr hgb
   ·rintro rfl
    rw [hg] at hgb
    cases hgb
  obtain⟨R3,F3,M3⟩:=q5a r I (qe h1 m (.var (List.map (qhr q g0) cs))) (fun p hp=>hl p (by simp [hp])) R2 V2 A2
  exact⟨R3,F2.trans F3,M2.trans M3⟩
theorem qe4(hp:List BSh)(h:qa): ∀(ρ:List Src) (l:List BSh),∀p∈gq h ρ l,∃(cs:List AV) (q:List Nat),qd h p.1= .var cs∧p.2= .var (cs.map (qhr q (qd h)))∧∀b∈q,b∈qkt hp h ρ l
 |[],_,p,hp'=>by unfold gq at hp';cases hp'
 | .emp t f::ρ,[],p,hp'=>by unfold gq at hp';cases hp'
 | .no t::ρ,[],p,hp'=>by unfold gq at hp';cases hp'
 | .no t::ρ,b::l,p,hp'=>by
  unfold gq at hp'
  unfold qkt
  exact qe4 hp h ρ l p hp'
 | .old m::ρ,[],p,hp'=>by unfold gq at hp';cases hp'
 | .emp t f::ρ,b::l,p,hp'=>by
  unfold gq at hp'
  unfold qkt
  exact qe4 hp h ρ l p hp'
 | .old m :: ρ, b :: l, p, hp' => by
  have ih:=qe4 hp h ρ l p
  unfold gq at hp'
  unfold qkt
  split at hp'
  ·rename_i cs x xs e1 e2
   rcases List.mem_cons.1 hp' with rfl|hp'
   ·exact⟨cs,x::xs,e1,rfl,fun c hc=>List.mem_append_left _ (q9t hp b _ c (e2▸hc))⟩
   ·obtain ⟨cs', q, k1, k2, k3⟩ := ih hp'
    exact⟨cs',q,k1,k2,fun c hc=>List.mem_append_right _ (k3 c hc)⟩
  ·obtain ⟨cs', q, k1, k2, k3⟩ := ih hp'
   exact⟨cs',q,k1,k2,fun c hc=>List.mem_append_right _ (k3 c hc)⟩
theorem SR.dec{S:SS}{x:S.ty.den}(S0:SR F w0 I0 μ0 h0 w I μ h a s)(hn0:h0.length=F.n0)(hd:qa9 F.n0 S s h=some x): ∃I' μ',SR F w0 I0 μ0 h0 w I' μ' (S.heap x) a (S.slots x)∧∀g o,I g o→I' g o:=by
 unfold qa9 at hd
 split at hd
 ·cases hd
 ·rename_i ρ0 hρ
  obtain⟨ρ,hv⟩:=qib hd
  obtain⟨I1,R1,F1,M1,_,hfz,hno⟩:=g6 (qv4 S.hp s S.sl++qkt S.hp h ρ0 S.hp) I h S0.rel (show qne (qd h) h from fun b=> .inl rfl)
  have S1:=S0.step R1 F1 M1
  obtain⟨R2,F2,M2⟩:=q5a (g0:=qd h) (fz:=qv4 S.hp s S.sl++qkt S.hp h ρ0 S.hp) (gq h ρ0 S.hp) I1 _ (fun p hp=>by
    obtain⟨cs,q,k1,k2,k3⟩:=qe4 S.hp h ρ0 S.hp p hp
    exact⟨cs,q,k1,k2,fun b hb=>List.mem_append_right _ (k3 b hb)⟩) R1 (fun m cs hm=>by
    have hm0:h[m]? =some (.var cs):=wm hm (by simp)
    have hm1: ∃cs1,(qg h (frz (qd h) (qv4 S.hp s S.sl++qkt S.hp h ρ0 S.hp)))[m]? =some (.var cs1):=by
     obtain⟨y,hy,hk⟩:=M1.kept m _ hm0
     obtain⟨cs1,rfl⟩:=hk
     exact⟨cs1,hy⟩
    refine⟨hm1, ?_⟩
    obtain⟨g,vs,e,k1,k2,k3,k4⟩:=S0.rel.blk m _ hm0
    exact⟨g,vs,e,k1,k2,k3,fun k v c e1 e2=>(k4 k v c e1 e2).step S0.rel F1 M1⟩) hfz
  have S2:SR F w0 I0 μ0 h0 w I1 μ (qg (qg h (frz (qd h) (qv4 S.hp s S.sl++qkt S.hp h ρ0 S.hp))) (gq h ρ0 S.hp)) a (qln (qd h) s S.sl):=by
   refine⟨R2,S1.fr.trans F2,S1.hm.trans M2,fun i=> ?_,S1.nt,S1.nd⟩
   rcases qo6 S.hp (g:=qd h) (s:=s) S.sl i with e|⟨q,h1,e⟩
   ·rw [e];exact .junk _
   ·rw [e];exact(que R1 (S1.slots i) fun b hb=>hfz b (List.mem_append_left _ (h1 b hb))).step R1 F2 M2
  obtain⟨I',μ',S',hI⟩:=hv.sr2 S2 hn0
  exact⟨I',μ',S',fun g o hi=>hI g o (F1.im g o hi)⟩
theorem Ok.dec{c:Code}{K:AX→qc→qa→Prop}{S:SS}{x:S.ty.den}(hd:qa9 F.n0 S s h=some x)(o:Ok E F c K (S.slots x) (S.heap x)):Ok E F c K s h:=by
 unfold Ok at o ⊢
 intro w0 I0 μ0 h0 hn0 w I μ a S
 obtain⟨I',μ',S',_⟩:=S.dec hn0 hd
 exact o w0 I0 μ0 h0 hn0 w I' μ' a S'
theorem OkL.dec{c:Code}{K:AX→qc→qa→Prop}{S:SS}{x:S.ty.den}(hd:qa9 F.n0 S s h=some x)(o:OkL E F c K (S.slots x) (S.heap x)):OkL E F c K s h:=by
 unfold OkL at o ⊢
 intro w0 I0 μ0 h0 hn0 w I μ a S
 obtain⟨I',μ',S',_⟩:=S.dec hn0 hd
 exact o w0 I0 μ0 h0 hn0 w I' μ' a S'
end
def jb:List Ty→Type
 |[]=>Empty
 |[t]=>t.den
 |t::u::r=>t.den⊕jb (u::r)
structure FA where
 pn:Bool
 S:SS
def FA.ty(a:FA):Ty:=a.S.ty
def qak:List FA→List Ty
 |[]=>[]
 |a::r=>a.ty::qak r
def FA.val(a:FA)(z:a.ty.den):AV:=lkp 0 (a.S.slots z)
def FA.hs(a:FA)(z:a.ty.den):qa:=a.S.heap z
def FA.res(a:FA)(z:a.ty.den):ARes:=match a.pn with|true=> .panic (a.val z)|false=> .ret (a.val z)
inductive XS where
 |normal
 |exit (i:Nat)
 |ret
 |panic (s:Sh)
structure CA where
 e:XS
 S:SS
def XS.ty:XS→Ty
 | .panic s=>s.ty
 |_=> .unit
def CA.ty(a:CA):Ty:=xb a.e.ty a.S.ty
def y7:List CA→List Ty
 |[]=>[]
 |a::r=>a.ty::y7 r
def q9x:(e:XS)→e.ty.den→AX
 | .normal,_=> .normal
 | .exit i,_=> .exit i
 | .ret,_=> .ret
 | .panic s,x=> .panic (qd9 s x)
def CA.ax(a:CA)(z:a.ty.den):AX:=q9x a.e (qjc _ _ z)
def CA.sl(a:CA)(z:a.ty.den):qc:=a.S.slots (qh1 _ _ z)
def CA.hs(a:CA)(z:a.ty.den):qa:=a.S.heap (qh1 _ _ z)
def w8{R:Sort _}:(l:List FA)→jb (qak l)→((a:FA)→a.ty.den→R)→R
 |[],y,_=>nomatch y
 |[a],y,K=>K a y
 |a::b::r,y,K=>match y with
  | .inl y=>K a y
  | .inr y=>w8 (b::r) y K
def qoj{R:Sort _}:(l:List CA)→jb (y7 l)→((a:CA)→a.ty.den→R)→R
 |[],y,_=>nomatch y
 |[a],y,K=>K a y
 |a::b::r,y,K=>match y with
  | .inl y=>K a y
  | .inr y=>qoj (b::r) y K
def qlh(tr:(a:FA)→Option a.ty.den):(l:List FA)→Option (jb (qak l))
 |[]=>none
 |[a]=>tr a
 |a::b::r=>match tr a with
  |some x=>some (.inl x)
  |none=>match qlh tr (b::r) with|some y=>some (.inr y)|none=>none
def qyh(tr:(a:CA)→Option a.ty.den):(l:List CA)→Option (jb (y7 l))
 |[]=>none
 |[a]=>tr a
 |a::b::r=>match tr a with
  |some x=>some (.inl x)
  |none=>match qyh tr (b::r) with|some y=>some (.inr y)|none=>none
theorem qef{tr:(a:FA)→Option a.ty.den}{P:(a:FA)→a.ty.den→Prop}(hP: ∀a z,tr a=some z→P a z): ∀{l:List FA} {y:jb (qak l)},qlh tr l=some y→w8 l y P
 |[],y,h=>by cases h
 |[a],y,h=>hP a y h
 | a :: b :: r, y, h => by
  unfold qlh at h
  split at h
  ·rename_i x hx
   injection h with h;subst h
   exact hP a x hx
  ·split at h
   ·rename_i z hz
    injection h with h;subst h
    exact qef (l:=b::r) hP hz
   ·cases h
theorem qlg{tr:(a:CA)→Option a.ty.den}{P:(a:CA)→a.ty.den→Prop}(hP: ∀a z,tr a=some z→P a z): ∀{l:List CA} {y:jb (y7 l)},qyh tr l=some y→qoj l y P
 |[],y,h=>by cases h
 |[a],y,h=>hP a y h
 | a :: b :: r, y, h => by
  unfold qyh at h
  split at h
  ·rename_i x hx
   injection h with h;subst h
   exact hP a x hx
  ·split at h
   ·rename_i z hz
    injection h with h;subst h
    exact qlg (l:=b::r) hP hz
   ·cases h
theorem qs2{P Q:(a:FA)→a.ty.den→Prop}(hPQ: ∀a z,P a z→Q a z): ∀{l:List FA} {y:jb (qak l)},w8 l y P→w8 l y Q
 |[],y,_=>nomatch y
 |[a],y,h=>hPQ a y h
 |a::b::r,.inl y,h=>hPQ a y h
 |a::b::r,.inr y,h=>qs2 (l:=b::r) hPQ h
theorem qbe: ∀(l:List FA) (y:jb (qak l)),∃a z,(∀(P:(a:FA)→a.ty.den→Prop),w8 l y P=P a z)∧∀(R:Type) (K:(a:FA)→a.ty.den→Option R),w8 l y K=K a z
 |[],y=>nomatch y
 |[a],y=>⟨a,y,fun _=>rfl,fun _ _=>rfl⟩
 |a::b::r,.inl y=>⟨a,y,fun _=>rfl,fun _ _=>rfl⟩
 |a::b::r,.inr y=>qbe (b::r) y
theorem qkm: ∀(l:List CA) (y:jb (y7 l)),∃a z,(∀(P:(a:CA)→a.ty.den→Prop),qoj l y P=P a z)∧∀(R:Type) (K:(a:CA)→a.ty.den→Option R),qoj l y K=K a z
 |[],y=>nomatch y
 |[a],y=>⟨a,y,fun _=>rfl,fun _ _=>rfl⟩
 |a::b::r,.inl y=>⟨a,y,fun _=>rfl,fun _ _=>rfl⟩
 |a::b::r,.inr y=>qkm (b::r) y
structure Ent (U:Type) where
 f:FuncId
 ins:List Sh
 hin:List BSh
 outs:List FA
 G:U→(xb (Sh.ty.tyL ins) (tyH hin)).den→Option (jb (qak outs))
structure Cut (U:Type) where
 k:Nat
 S:SS
 outs:List CA
 L:U→S.ty.den→Option (jb (y7 outs))
def qd0(E:Env)(f:FuncId)(ins:List Sh)(hin:List BSh)(outs:List FA)(x:(xb (Sh.ty.tyL ins) (tyH hin)).den)(y:jb (qak outs)):Prop:=
 qh E f (qd9.encL ins (qjc _ _ x)) (qi2 hin (qh1 _ _ x)) fun r h=>w8 outs y fun a z=>r=a.res z∧h=a.hs z
def qv0(outs:List CA)(y:jb (y7 outs))(e:AX)(s:qc)(h:qa):Prop:=qoj outs y fun a z=>e=a.ax z∧s=a.sl z∧h=a.hs z
def qg1(E:Env)(F:Fp)(body:Code)(k:Nat)(S:SS)(outs:List CA)(x:S.ty.den)(y:jb (y7 outs)):Prop:=
 match qn k 0 body with
 |some (true,_,c)=>OkL E F c (qv0 outs y) (S.slots x) (S.heap x)
 |some (false,_,c)=>Ok E F c (qv0 outs y) (S.slots x) (S.heap x)
 |none=>False
def Ent.Sound{U:Type}(E:Env)(u:U)(e:Ent U):Prop:= ∀x y,e.G u x=some y→qd0 E e.f e.ins e.hin e.outs x y
def Cut.Sound{U:Type}(E:Env)(F:Fp)(body:Code)(u:U)(c:Cut U):Prop:= ∀x y,c.L u x=some y→qg1 E F body c.k c.S c.outs x y
def zj{U:Type}(E:Env)(u:U):List (Ent U)→Prop
 |[]=>True
 |e::r=>e.Sound E u∧zj E u r
def qa2{U:Type}(E:Env)(F:Fp)(body:Code)(u:U):List (Cut U)→Prop
 |[]=>True
 |c::r=>c.Sound E F body u∧qa2 E F body u r
theorem qg1.ok{E:Env}{F:Fp}{body:Code}{k:Nat}{S:SS}{outs:List CA}{x:S.ty.den}{y:jb (y7 outs)}(h:qg1 E F body k S outs x y):
  ∃p,qn k 0 body=some p∧Ok E F (qke p) (qv0 outs y) (S.slots x) (S.heap x):=by
 unfold qg1 at h
 split at h
 ·rename_i hp;exact⟨_,hp,h.ok⟩
 ·rename_i hp;exact⟨_,hp,h⟩
 ·exact h.elim
def qrr:List Src→Option (List Nat)
 |[]=>some []
 | .old m::r=>match qrr r with|some q=>some (m::q)|none=>none
 | .emp _ _::_=>none
 | .no _::_=>none
theorem qo1: ∀{r:List Src} {q:List Nat},qrr r=some q→r=q.map Src.old
 |[],q,h=>by injection h with h;subst h;rfl
 | .old m :: r, q, h => by
  unfold qrr at h
  split at h
  ·rename_i q' hq
   injection h with h;subst h
   rw [qo1 hq];rfl
  ·cases h
 | .emp _ _::_,q,h=>by cases h
 | .no _::_,q,h=>by cases h
def qcx {U : Type} (e : Ent U) (args : List AV) (h : qa) : Option (List Nat × (xb (Sh.ty.tyL e.ins) (tyH e.hin)).den) :=
 match q0y 0 h 0 e.hin (q5f.srcL e.ins args) with
 |none=>none
 | some ρ => match qrr ρ with
  |none=>none
  | some q => match xl ρ, qay.decL ρ e.ins args, qkh ρ h e.hin ρ with
   |true,some u,some w=>match qis (qi2 e.hin w) with
    |true=>some (q,tmk _ _ u w)
    |false=>none
   |_,_,_=>none
section
variable {U:Type} {u:U} {E:Env} {F:Fp} {h:qa} {args:List AV}
theorem qkg{e:Ent U}{q:List Nat}{x:(xb (Sh.ty.tyL e.ins) (tyH e.hin)).den}(hd:qcx e args h=some (q,x)):
  (qis (qi2 e.hin (qh1 _ _ x))&&xl (q.map Src.old))=true∧qaw (q.map Src.old) h (q.map Src.old) (qi2 e.hin (qh1 _ _ x))∧qv.viewL (q.map Src.old) args (qd9.encL e.ins (qjc _ _ x)):=by
 unfold qcx at hd
 split at hd
 ·cases hd
 ·rename_i ρ _
  split at hd
  ·cases hd
  ·rename_i q' ho
   split at hd
   ·rename_i u v hn hu hw
    split at hd
    ·rename_i hl
     injection hd with hd
     injection hd with h1 h2
     subst h1 h2
     have ho:=qo1 ho
     subst ho
     rw [zd,yq]
     exact⟨by rw [hl,hn];rfl,ue _ _ _ hw,xz _ _ _ hu⟩
    ·cases hd
   ·cases hd
theorem qs4{e:Ent U}(hs:e.Sound E u){q:List Nat}{x:(xb (Sh.ty.tyL e.ins) (tyH e.hin)).den}(hd:qcx e args h=some (q,x)){y:jb (qak e.outs)}(hy:e.G u x=some y):
  qh E e.f args h fun r h'=>w8 e.outs y fun a z=>r=unR q h.length (a.res z)∧h'=qg h (unH q h.length 0 (a.hs z)):=by
 obtain⟨h1,h2,h3⟩:=qkg hd
 refine(qh.lift (hs x y hy) h1 h2 h3).mono fun r h' hq=> ?_
 obtain⟨r',hs',hq,e1,e2⟩:=hq
 refine qs2 (fun a z hz=> ?_) hq
 rw [e1,e2,hz.1,hz.2]
 exact⟨rfl,rfl⟩
theorem qz3{e:Ent U}(hs:e.Sound E u){q:List Nat}{x:(xb (Sh.ty.tyL e.ins) (tyH e.hin)).den}(hd:qcx e args h=some (q,x)){y:jb (qak e.outs)}(hy:e.G u x=some y)
  {v:AV} {hs':qa} (hlen:hs'.length=q.length) (he: ∀r k,(w8 e.outs y fun a z=>r=a.res z∧k=a.hs z)→r= .ret v∧k=hs') (hv: ∀n,unV q n v=unV q 0 v) (hw: ∀n,unH q n 0 hs'=unH q 0 0 hs'):
  qh7 E e.f args q h (unV q 0 v) (unH q 0 0 hs'):=by
 obtain⟨h1,h2,h3⟩:=qkg hd
 unfold qh7
 intro h' hg
 refine(qh.lift (hs x y hy) h1 (qix q _ hg h2) h3).mono fun r k hq=> ?_
 obtain⟨r',hs2,hq,e1,e2⟩:=hq
 obtain⟨rfl,rfl⟩:=he _ _ hq
 rw [e1,e2,hw]
 exact⟨by simp only [unR,hv],rfl⟩
def qea(k:Nat):AV→Bool
 | .own _ b _=>Nat.blt b k
 | .ptr b _=>Nat.blt b k
 | .mptr b=>Nat.blt b k
 | .eptr _ b _ _=>Nat.blt b k
 | .agg cs=>inLk cs
 | .tup cs=>inLk cs
 | .fn _ a c=>inLk a&&inLk c
 | .iface _ v=>qea k v
 |_=>true
where inLk:List AV→Bool
 |[]=>true
 |v::r=>qea k v&&inLk r
def q3z(k:Nat):qa→Bool
 |[]=>true
 | .var cs::r=>qea.inLk k cs&&q3z k r
 |_::r=>q3z k r
theorem ql1{q:List Nat}{b:Nat}(n:Nat)(h:Nat.blt b q.length=true):unN q n b=unN q 0 b:=by
 have h:b<q.length:=by simpa using h
 simp [unN,List.getElem?_eq_getElem h]
mutual
theorem qw4{q:List Nat}(n:Nat): ∀(v:AV),qea q.length v=true→unV q n v=unV q 0 v
 | .own t b f,h=>by simp only [qea] at h;simp only [unV,ql1 n h]
 | .ptr b j,h=>by simp only [qea] at h;simp only [unV,ql1 n h]
 | .mptr b,h=>by simp only [qea] at h;simp only [unV,ql1 n h]
 | .eptr t b i j,h=>by simp only [qea] at h;simp only [unV,ql1 n h]
 | .agg cs,h=>by simp only [qea] at h;simp only [unV,qh3 n cs h]
 | .tup cs,h=>by simp only [qea] at h;simp only [unV,qh3 n cs h]
 | .fn f a c,h=>by simp only [qea,Bool.and_eq_true] at h;simp only [unV,qh3 n a h.1,qh3 n c h.2]
 | .iface t v,h=>by simp only [qea] at h;simp only [unV,qw4 n v h]
 | .junk,_=>rfl
 | .t,_=>rfl
 | .f,_=>rfl
 | .bool _,_=>rfl
 | .int _ _,_=>rfl
 | .str _,_=>rfl
 | .nilsl,_=>rfl
 | .sl _ _ _,_=>rfl
 | .iptr _ _ _,_=>rfl
 | .fmap _ _ _,_=>rfl
 | .nilptr,_=>rfl
 | .nilfn,_=>rfl
 | .niliface,_=>rfl
theorem qh3{q:List Nat}(n:Nat): ∀(l:List AV),qea.inLk q.length l=true→unV.unL q n l=unV.unL q 0 l
 |[],_=>rfl
 |v::r,h=>by simp only [qea.inLk,Bool.and_eq_true] at h;simp only [unV.unL,qw4 n v h.1,qh3 n r h.2]
end
theorem qh2{q:List Nat}(n:Nat): ∀(hs:qa) (k:Nat),q3z q.length hs=true→k+hs.length≤q.length→unH q n k hs=unH q 0 k hs
 |[],_,_,_=>rfl
 |x::r,k,h,hk=>by
  have hk1:k<q.length:=by simp only [List.length_cons] at hk;omega
  have hr:k+1+r.length≤q.length:=by simp only [List.length_cons] at hk;omega
  have e1:=ql1 (q:=q) (b:=k) n (by simpa using hk1)
  cases x with
  |var cs=>simp only [q3z,Bool.and_eq_true] at h;simp only [unH,e1,unB,qh3 n cs h.1,qh2 n r (k+1) h.2 hr]
  |hole=>simp only [unH,e1,unB,qh2 n r (k+1) h hr]
  |gone=>simp only [unH,e1,unB,qh2 n r (k+1) h hr]
  |arr t l f=>simp only [unH,e1,unB,qh2 n r (k+1) h hr]
  |mp a b l=>simp only [unH,e1,unB,qh2 n r (k+1) h hr]
end
def qfm{U R:Type}(u:U)(args:List AV)(h:qa)(g:FuncId)(K:ARes→qa→Option R):List (Ent U)→Option R
 |[]=>none
 | e :: r => match Nat.beq e.f g with
  |true=>match qcx e args h with
   |some (q,x)=>e.G u x>>=fun y=>w8 e.outs y fun a z=>K (unR q h.length (a.res z)) (qg h (unH q h.length 0 (a.hs z)))
   |none=>qfm u args h g K r
  |false=>qfm u args h g K r
def qb0 {U R : Type} (u : U) (args : List AV) (h : qa) (g : FuncId) (K : List Nat → AV → List (Nat × AB) → Option R) (X : AV → qa → Option R) : List (Ent U) → Option R
 |[]=>none
 | e :: r => match Nat.beq e.f g with
  | true => match qcx e args h with
   |some (q,x)=>e.G u x>>=fun y=>w8 e.outs y fun a z=>
    match a.pn,Nat.beq (a.hs z).length q.length&&qea q.length (a.val z)&&q3z q.length (a.hs z) with
    |false,true=>K q (unV q 0 (a.val z)) (unH q 0 0 (a.hs z))
    |true,_=>X (unV q h.length (a.val z)) (qg h (unH q h.length 0 (a.hs z)))
    |_,_=>none
   |none=>qb0 u args h g K X r
  |false=>qb0 u args h g K X r
def qlr{U R:Type}(u:U)(n0 k:Nat)(s:qc)(h:qa)(K:AX→qc→qa→Option R):List (Cut U)→Option R
 |[]=>none
 | c :: r => match Nat.beq c.k k with
  |true=>match qa9 n0 c.S s h with
   |some x=>c.L u x>>=fun y=>qoj c.outs y fun a z=>K (a.ax z) (a.sl z) (a.hs z)
   |none=>qlr u n0 k s h K r
  |false=>qlr u n0 k s h K r
open Classical in
noncomputable def q1u{R:Type}(n:Nat)(f:Nat→Option R):Option R:=
 match f 0 with
 |some y=>if 0<n∧∀j,j<n→f j=some y then some y else none
 |none=>none
omit [Lay] in
theorem qsk{R:Type}{n:Nat}{f:Nat→Option R}{r:R}(h:q1u n f=some r):0<n∧∀j,j<n→f j=some r:=by
 unfold q1u at h
 split at h
 ·split at h
  ·rename_i hc;injection h with h;subst h;exact hc
  ·cases h
 ·cases h
noncomputable def Tr.run{U R:Type}(u:U)(n0:Nat)(es:List (Ent U))(cs:List (Cut U))(fin:AX→qc→qa→Option R):Tr→Option R
 | .fail _=>none
 | .chk c t=> @_root_.ite _ c.p c.d (t.run u n0 es cs fin) none
 | .ite b t e=>if b=true then t.run u n0 es cs fin else e.run u n0 es cs fin
 | .call g args h K=>qfm u args h g (fun r h'=>(K r h').run u n0 es cs fin) es
 | .icall g args h K X=>qb0 u args h g (fun q v ws=>(K q v ws).run u n0 es cs fin) (fun v h'=>(X v h').run u n0 es cs fin) es
 | .cut k s h K=>qlr u n0 k s h (fun e s h=>(K e s h).run u n0 es cs fin) cs
 | .pick n K=>q1u n fun j=>(K j).run u n0 es cs fin
 | .out e s h=>fin e s h
section
variable {U:Type} {u:U} {E:Env} {F:Fp} {body:Code} {R:Type} {r:R} {es:List (Ent U)} {cs:List (Cut U)} {fin:AX→qc→qa→Option R} {finP:AX→qc→qa→Prop}
theorem qag{args:List AV}{h:qa}{g:FuncId}{K:ARes→qa→Option R}{P:ARes→qa→Prop}(hP: ∀x k,K x k=some r→P x k): ∀{l:List (Ent U)},zj E u l→qfm u args h g K l=some r→qh E g args h P
 |[],_,hr=>by cases hr
 | e :: l, ho, hr => by
  unfold qfm at hr
  split at hr
  ·rename_i hg
   obtain rfl:=Nat.eq_of_beq_eq_true hg
   split at hr
   ·rename_i q x hd
    obtain⟨y,hy,hr⟩:=Option.bind_eq_some_iff.1 hr
    refine(qs4 ho.1 hd hy).mono fun x' k hq=>hP _ _ ?_
    obtain⟨a,z,e1,e2⟩:=qbe e.outs y
    rw [e1] at hq
    rw [e2] at hr
    rw [hq.1,hq.2]
    exact hr
   ·exact qag hP ho.2 hr
  ·exact qag hP ho.2 hr
theorem gu{args:List AV}{h:qa}{g:FuncId}{K:List Nat→AV→List (Nat×AB)→Option R}{X:AV→qa→Option R}{P:List Nat→AV→List (Nat×AB)→Prop}{Xp:AV→qa→Prop}(hP: ∀q v ws,K q v ws=some r→P q v ws)
  (hX: ∀v h,X v h=some r→Xp v h): ∀{l:List (Ent U)},zj E u l→qb0 u args h g K X l=some r→(∃q v ws,qh7 E g args q h v ws∧P q v ws)∨∃v h',qh E g args h (fun r h''=>r= .panic v∧h''=h')∧Xp v h'
 |[],_,hr=>by cases hr
 | e :: l, ho, hr => by
  unfold qb0 at hr
  split at hr
  ·rename_i hg
   obtain rfl:=Nat.eq_of_beq_eq_true hg
   split at hr
   ·rename_i q x hd
    obtain⟨y,hy,hr⟩:=Option.bind_eq_some_iff.1 hr
    obtain⟨a,z,e1,e2⟩:=qbe e.outs y
    rw [e2] at hr
    split at hr
    ·rename_i hpn hck
     simp only [Bool.and_eq_true] at hck
     obtain⟨⟨hl,hv⟩,hh⟩:=hck
     have hl:=Nat.eq_of_beq_eq_true hl
     refine .inl ⟨_,_,_,qz3 ho.1 hd hy hl (fun r k hq=> ?_) (fun n=>qw4 n _ hv) (fun n=>qh2 n _ 0 hh (by omega)),hP _ _ _ hr⟩
     rw [e1] at hq
     rw [hq.1,hq.2]
     exact⟨by unfold FA.res;rw [hpn],rfl⟩
    ·rename_i hpn
     refine .inr ⟨_,_,(qs4 ho.1 hd hy).mono fun x' k hq=> ?_,hX _ _ hr⟩
     rw [e1] at hq
     refine⟨?_,hq.2⟩
     rw [hq.1]
     unfold FA.res
     rw [hpn]
     rfl
    ·cases hr
   ·exact gu hP hX ho.2 hr
  ·exact gu hP hX ho.2 hr
theorem qhv{k:Nat}{s:qc}{h:qa}{K:AX→qc→qa→Option R}{P:AX→qc→qa→Prop}(hP: ∀x s h,K x s h=some r→P x s h): ∀{l:List (Cut U)},qa2 E F body u l→qlr u F.n0 k s h K l=some r→∃p,qn k 0 body=some p∧Ok E F (qke p) P s h
 |[],_,hr=>by cases hr
 | c :: l, ho, hr => by
  unfold qlr at hr
  split at hr
  ·rename_i hg
   obtain rfl:=Nat.eq_of_beq_eq_true hg
   split at hr
   ·rename_i x hd
    obtain⟨y,hy,hr⟩:=Option.bind_eq_some_iff.1 hr
    obtain⟨p,hp,ok⟩:=(ho.1 x y hy).ok
    refine⟨p,hp,Ok.dec hd (Ok.mono (fun e s h hq=>hP _ _ _ ?_) ok)⟩
    obtain⟨a,z,e1,e2⟩:=qkm c.outs y
    unfold qv0 at hq
    rw [e1] at hq
    rw [e2] at hr
    rw [hq.1,hq.2.1,hq.2.2]
    exact hr
   ·exact qhv hP ho.2 hr
  ·exact qhv hP ho.2 hr
def CO(E:Env)(F:Fp)(body:Code)(k:Nat)(s:qc)(h:qa)(Q:AX→qc→qa→Prop):Prop:= ∃p,qn k 0 body=some p∧Ok E F (qke p) Q s h
theorem qhw(he:zj E u es)(hc:qa2 E F body u cs)(hf: ∀e s h,fin e s h=some r→finP e s h): ∀(t:Tr),t.run u F.n0 es cs fin=some r→t.holds E (CO E F body) finP:=by
 intro t
 induction t with
 |fail=>intro h;cases h
 | chk c t ih =>
  intro h
  have h:(@_root_.ite _ c.p c.d (t.run u F.n0 es cs fin) none)=some r:=h
  cases c with
  |mk p d=>
   cases d with
   |isTrue hp=>exact⟨hp,ih h⟩
   |isFalse hp=>cases h
 |ite b t e iht ihe=>
  intro h
  have h:(if b=true then t.run u F.n0 es cs fin else e.run u F.n0 es cs fin)=some r:=h
  refine ux (fun hb=>iht ?_) (fun hb=>ihe ?_)
  ·rw [if_pos hb] at h;exact h
  ·rw [if_neg (by rw [hb];simp)] at h;exact h
 |call g args h K ih=>intro hr;exact qag (fun x k hk=>ih x k hk) he hr
 |icall g args h K X ih ihx=>intro hr;exact gu (fun q v ws hk=>ih q v ws hk) (fun v h hk=>ihx v h hk) he hr
 |cut k s h K ih=>intro hr;exact qhv (fun e s h hk=>ih e s h hk) hc hr
 |pick n K ih=>intro hr;exact fun j hj=>ih j ((qsk hr).2 j hj)
 |out e s h=>intro hr;exact hf _ _ _ hr
end
end Go.AM
