import Derived.Test.YtjmmcdbogbpedaaGreatDoorBMRun
import Derived.Test.YtjmmcdbogbpedaaGreatDoorBMCont
namespace Go.AM
set_option linter.unusedSectionVars false
variable [Lay]
set_option linter.unusedVariables false
section
variable {A:Type} {B:A→Type}
abbrev Un(A:Type)(B:A→Type):Type:= ∀a,Option (B a)
end
def q9c:Sh→Bool
  | .fx (.own _ _ _)=>true
  | .agg l=>ownL l
  | .tup l=>ownL l
  |_=>false
where ownL:List Sh→Bool
  |[]=>false
  |s::r=>match q9c s with|true=>true|false=>ownL r
def q6z:List FA→Bool
  |[]=>false
  |a::r=>match q9c.ownL (a.S.sl.map (·.2)) with|true=>true|false=>q6z r
def q0p(gen:Bool)(h:qa)(v:AV):AV:=match gen with|true=>v|false=>jax (qd h) v
def q0o(gen:Bool)(h:qa)(v:AV):qa:=match gen with|true=>h|false=>qg h (frz (qd h) (qjk v))
def qxx (E : Env) (gen : Bool) (rs : List ResultVar) (n0 : Nat) (outs : List FA) (e : AX) (s : qc) (h : qa) : Option (jb (qak outs)) :=
  match(match e with
    | .normal=>match qei E s h rs with|some vs=>some (false,qdz vs)|none=>none
    | .ret=>match qei E s h rs with|some vs=>some (false,qdz vs)|none=>none
    | .panic v=>some (true,v)
    | .exit _=>none) with
  | some (pn, v) => qlh (fun a => match a.pn, pn with
    |false,false=>qba n0 a.S [(0,q0p gen h v)] (q0o gen h v)
    |true,true=>qba n0 a.S [(0,q0p gen h v)] (q0o gen h v)
    |_,_=>none) outs
  |none=>none
section
variable {E:Env} {s s':qc} {h h':qa} {n0:Nat}
theorem qdn.slot0{ρ:List Src}{fz:List Nat}(V:qdn n0 fz ρ s h s' h'):qdn n0 fz ρ s h [(0,lkp 0 s')] h':=by
  refine⟨V.1,V.2.1, ?_,trivial⟩
  rcases qh4 V.2.2 0 with e|e
  · rw [e];exact(by unfold qv;trivial)
  · exact e
theorem qta{gen:Bool}{rs:List ResultVar}{outs:List FA}{y:jb (qak outs)}{e:AX}(hy:qxx E gen rs n0 outs e s h=some y):jx E rs gen n0 (fun r k=>w8 outs y fun a z=>r=a.res z∧k=a.hs z) e s h:=by
  have key: ∀(pn:Bool) (v:AV) (mk:AV→ARes),(mk=match pn with|true=>ARes.panic|false=>ARes.ret)→qlh (fun a=>match a.pn,pn with
    |false,false=>qba n0 a.S [(0,q0p gen h v)] (q0o gen h v)
    |true,true=>qba n0 a.S [(0,q0p gen h v)] (q0o gen h v)
    |_,_=>none) outs=some y→qt6 gen n0 mk (fun r k=>w8 outs y fun a z=>r=a.res z∧k=a.hs z) v h:=by
    intro pn v mk hmk hp
    have hp:=qef (P:=fun a z=>(a.pn=pn)∧qba n0 a.S [(0,q0p gen h v)] (q0o gen h v)=some z) (fun a z hz=>by
      cases ha:a.pn <;>rw [ha] at hz <;>cases pn <;>first|exact⟨rfl,hz⟩|cases hz) hp
    obtain⟨a,z,e1,_⟩:=qbe outs y
    rw [e1] at hp
    obtain⟨hpn,hp⟩:=hp
    obtain⟨ρ,hv⟩:=qib hp
    have fin: ∃(ρ:List Src) (v':AV) (h':qa),qdn n0 [] ρ [(0,q0p gen h v)] (q0o gen h v) [(0,v')] h'∧w8 outs y fun a z=>mk v'=a.res z∧h'=a.hs z:=by
      refine⟨ρ,_,_,hv.slot0, ?_⟩
      rw [e1]
      refine⟨?_,rfl⟩
      unfold FA.res
      rw [hmk,hpn]
      cases pn <;>rfl
    unfold qt6
    cases gen with
    |true=>exact fin
    | false =>
      simp only [qbt,kv]
      exact fin
  unfold qxx at hy
  cases e with
  | normal =>
    simp only at hy
    unfold jx
    cases hr:qei E s h rs with
    |none=>rw [hr] at hy;cases hy
    |some vs=>rw [hr] at hy;exact key false _ _ rfl hy
  | ret =>
    simp only at hy
    unfold jx
    cases hr:qei E s h rs with
    |none=>rw [hr] at hy;cases hy
    |some vs=>rw [hr] at hy;exact key false _ _ rfl hy
  |panic v=>exact key true _ _ rfl hy
  |exit i=>cases hy
def qxy:List BSh→qa→Nat→List Nat
  | .arr _ false::r,.arr _ _ true::h,i=>i::qxy r h (i+1)
  |_::r,_::h,i=>qxy r h (i+1)
  |_,_,_=>[]
def qkj(n0:Nat)(S:SS)(s:qc)(h:qa):Option S.ty.den:=
  match qa9 n0 S s h with
  |some z=>some z
  |none=>qa9 n0 S s (qg h (frz (qd h) (qxy S.hp h 0)))
theorem SR.decF{F:Fp}{w w0:World}{I I0:Nat→Nat→Prop}{h0:qa}{μ μ0:Nat→Option Nat}{a:Act}{S:SS}{x:S.ty.den}(S0:SR F w0 I0 μ0 h0 w I μ h a s)(hn0:h0.length=F.n0)(hd:qkj F.n0 S s h=some x): ∃I' μ',SR F w0 I0 μ0 h0 w I' μ' (S.heap x) a (S.slots x):=by
  unfold qkj at hd
  split at hd
  · rename_i q
    cases hd
    obtain⟨I',μ',S',_⟩:=S0.dec hn0 q
    exact⟨I',μ',S'⟩
  · obtain ⟨I1, R1, F1, M1, _⟩ := g6 (qxy S.hp h 0) I h S0.rel (show qne (qd h) h from fun b => .inl rfl)
    obtain⟨I',μ',S',_⟩:=(S0.step R1 F1 M1).dec hn0 hd
    exact⟨I',μ',S'⟩
def q91 (E : Env) (gen : Bool) (rs : List ResultVar) (n0 : Nat) (outs : List FA) (e : AX) (s : qc) (h : qa) : Option (jb (qak outs)) :=
  match qxx E gen rs n0 outs e s h with
  |some y=>some y
  | none =>
    match(match e with
      | .normal=>qei E s h rs
      | .ret=>qei E s h rs
      |_=>none) with
    |some vs=>qlh (fun a=>match a.pn with|false=>qkj n0 a.S [(0,qdz vs)] h|true=>none) outs
    |none=>none
theorem q6s{gen:Bool}{rs:List ResultVar}{outs:List FA}{y:jb (qak outs)}{e:AX}(hy:q91 E gen rs n0 outs e s h=some y):
    jx E rs gen n0 (fun r k=>w8 outs y fun a z=>r=a.res z∧k=a.hs z) e s h∨qsv E rs n0 (fun r k=>w8 outs y fun a z=>r=a.res z∧k=a.hs z) e s h:=by
  have anew: ∀(v:AV),qlh (fun a=>match a.pn with|false=>qkj n0 a.S [(0,v)] h|true=>none) outs=some y→∃v' h',jbp n0 v h v' h'∧w8 outs y fun a z=>ARes.ret v'=a.res z∧h'=a.hs z:=by
    intro v hp
    have hp:=qef (P:=fun a z=>a.pn=false∧qkj n0 a.S [(0,v)] h=some z) (fun a z hz=>by
      cases ha:a.pn with
      |false=>rw [ha] at hz;exact⟨rfl,hz⟩
      |true=>rw [ha] at hz;cases hz) hp
    obtain⟨a,z,e1,_⟩:=qbe outs y
    rw [e1] at hp
    obtain⟨hpn,hp⟩:=hp
    refine⟨a.val z,a.hs z,fun F w0 I0 μ0 h0 w I μ act hF hn S=> ?_, ?_⟩
    · subst hF
      obtain⟨I',μ',S'⟩:=S.decF hn hp
      refine⟨I',μ',S'.rel,S'.fr,S'.hm,fun i=> ?_,S'.nt,S'.nd⟩
      simp only [lkp]
      cases hb:Nat.beq i 0 with
      |true=>obtain rfl:=Nat.eq_of_beq_eq_true hb;exact S'.slots 0
      |false=>exact .junk _
    · rw [e1]
      refine⟨?_,rfl⟩
      unfold FA.res
      rw [hpn]
  unfold q91 at hy
  split at hy
  · rename_i q
    cases hy
    exact .inl (qta q)
  · right
    split at hy
    · rename_i vs hvs
      obtain⟨v',h',k1,k2⟩:=anew _ hy
      cases e with
      |normal=>exact⟨.inl rfl,vs,v',h',hvs,k1,k2⟩
      |ret=>exact⟨.inr rfl,vs,v',h',hvs,k1,k2⟩
      |_=>cases hvs
    · cases hy
theorem qey: ∀(l:List BSh) (x:(tyH l).den),(qi2 l x).length=l.length
  |[],_=>rfl
  |b::r,x=>by simp only [qi2,List.length_cons,qey r]
theorem qko: ∀(l:List Sh) (x:(Sh.ty.tyL l).den),(qd9.encL l x).length=l.length
  |[],_=>rfl
  |b::r,x=>by simp only [qd9.encL,List.length_cons,qko r]
def Ent.fp{U:Type}(e:Ent U)(fn:Func):Fp:=⟨fn.ntmps,e.hin.length,false⟩
def jo(fn:Func):Code:=match fn.body with|some c=>c|none=> .skip
noncomputable def Ent.runs{U:Type}(E:Env)(fn:Func)(ks:List Nat)(n:Nat)(es:List (Ent U))(cs:List (Cut U))(u:U)(e:Ent U)(x:(xb (Sh.ty.tyL e.ins) (tyH e.hin)).den):Option (jb (qak e.outs)):=
  (wa E ⟨fn.ntmps,e.hin.length,false⟩ ks n 0 (jo fn) .out (y8 0 (qd9.encL e.ins (qjc _ _ x))) (qi2 e.hin (qh1 _ _ x))).run u e.hin.length es cs (q91 E (q6z e.outs) fn.results.toList e.hin.length e.outs)
theorem vn{U:Type}{u:U}{fn:Func}{ks:List Nat}{n:Nat}{es:List (Ent U)}{cs:List (Cut U)}{e:Ent U}(hE:EnvOK E)(hf:E.P.funcs[e.f]? =some fn)(hb:fn.body.isSome=true)(hname:(fn.name== "runtime.NumGoroutine")=false)
    (hargs:Nat.ble e.ins.length fn.ntmps=true) (hes:zj E u es) (hcs:qa2 E (e.fp fn) (jo fn) u cs) {x:(xb (Sh.ty.tyL e.ins) (tyH e.hin)).den} {y:jb (qak e.outs)} (hr:e.runs E fn ks n es cs u x=some y):qd0 E e.f e.ins e.hin e.outs x y:=by
  unfold qd0
  have hb:fn.body=some (jo fn):=by
    unfold jo
    cases hq:fn.body with
    |none=>rw [hq] at hb;cases hb
    |some c=>rfl
  refine qh.bodyOkN (q6z e.outs) false hE hf hb hname (by rw [qko];exact hargs) ?_
  unfold Ent.runs at hr
  rw [qey]
  have hh:=qhw (finP:=fun e' s h=>jx E fn.results.toList (q6z e.outs) e.hin.length (fun r k=>w8 e.outs y fun a z=>r=a.res z∧k=a.hs z) e' s h∨qsv E fn.results.toList e.hin.length (fun r k=>w8 e.outs y fun a z=>r=a.res z∧k=a.hs z) e' s h) (F:=e.fp fn) hes hcs (fun e' s h hy=>q6s hy) _ hr
  exact qfr hE (fun k p s h Q hp hco=>by obtain⟨p',h1,h2⟩:=hco;rw [hp] at h1;cases h1;exact h2) (jo fn) 0 .out _ _ _ (fun k _ _=>rfl) (fun e s h hq=>hq) hh
end
def q9u:(x:XS)→AX→Option x.ty.den
  | .normal,.normal=>some ()
  | .exit i,.exit j=>match Nat.beq i j with|true=>some ()|false=>none
  | .ret,.ret=>some ()
  | .panic s,.panic v=>qay [] s v
  |_,_=>none
def trC(n0:Nat)(e:AX)(s:qc)(h:qa)(a:CA):Option a.ty.den:=
  match q9u a.e e,qa9 n0 a.S s h with
  |some u,some w=>some (tmk _ _ u w)
  |_,_=>none
def qv2(n0:Nat)(outs:List CA)(e:AX)(s:qc)(h:qa):Option (jb (y7 outs)):=qyh (trC n0 e s h) outs
def jdy(n0:Nat)(S:SS)(outs:List CA)(self:S.ty.den→Option (jb (y7 outs)))(e:AX)(s:qc)(h:qa):Option (jb (y7 outs)):=
  match e with
  | .normal=>match qa9 n0 S s h with|some x=>self x|none=>none
  | .exit i=>qv2 n0 outs (.exit i) s h
  | .ret=>qv2 n0 outs .ret s h
  | .panic v=>qv2 n0 outs (.panic v) s h
section
variable {E:Env} {F:Fp} {w w0:World} {I I0:Nat→Nat→Prop} {h h0 h':qa} {μ μ0:Nat→Option Nat} {a:Act} {s s':qc}
theorem q3g{x:XS}{e:AX}{z:x.ty.den}{ee:Exit}{I':Nat→Nat→Prop}{μ':Nat→Option Nat}(R:RelH w I μ h)(hI: ∀g o,I g o→I' g o)(hd:q9u x e=some z)(hx:q9j w I h μ ee e):q9j w I' h' μ' ee (q9x x z):=by
  cases x with
  | normal => cases e <;> first | (cases hd; done) | skip
              cases ee <;>first|exact hx.elim|exact hx
  | exit i =>
    cases e <;>first|(cases hd;done)|skip
    rename_i j
    have hd:(match Nat.beq i j with|true=>some ()|false=>none)=some z:=hd
    cases hb:Nat.beq i j with
    |false=>rw [hb] at hd;cases hd
    | true =>
      obtain rfl:=Nat.eq_of_beq_eq_true hb
      cases ee <;>first|exact hx.elim|exact hx
  | ret => cases e <;> first | (cases hd; done) | skip
           cases ee <;>first|exact hx.elim|exact hx
  | panic sh =>
    cases e <;>first|(cases hd;done)|skip
    rename_i v
    have hd:qay [] sh v=some z:=hd
    cases ee <;>first|exact hx.elim|skip
    obtain⟨u,hc,hr⟩:=hx
    refine⟨u,hc, ?_⟩
    have V:HV [] h []:=⟨rfl,fun k m e=>by simp at e,fun k t fr e=>by simp at e⟩
    have r1:=V.rep hr (qcy sh v z hd)
    refine r1.mono (I':=I') (h':=h') (μ':=μ') ⟨fun b x e=>by simp at e,fun b x y e=>by simp at e⟩ (fun _ g vs e hg=>⟨vs,hg,rfl⟩) ⟨fun _ _ _ _ hu=>hu,fun _ _=>rfl⟩ hI
theorem Ok.fin{c:Code}{K K':AX→qc→qa→Prop}(hk: ∀e s h,K e s h→K' e s h∨∃(a:CA) (z:a.ty.den),trC F.n0 e s h a=some z∧K' (a.ax z) (a.sl z) (a.hs z))(o:Ok E F c K s h):Ok E F c K' s h:=by
  unfold Ok at o ⊢
  intro w0 I0 μ0 h0 hn0 w I μ a S
  refine Code.wp_mono (fun ee a w hq=> ?_) (o w0 I0 μ0 h0 hn0 w I μ a S)
  obtain⟨x,I1,μ1,h1,s1,S1,hx,hK⟩:=hq
  rcases hk _ _ _ hK with hK|⟨ca,z,ht,hK⟩
  · exact⟨x,I1,μ1,h1,s1,S1,hx,hK⟩
  · unfold trC at ht
    split at ht
    · rename_i u v hu hv
      injection ht with ht
      subst ht
      obtain⟨I2,μ2,S2,hI⟩:=S1.dec hn0 hv
      refine⟨_,I2,μ2,_,_,S2, ?_,by simpa only [CA.ax,CA.sl,CA.hs,zd,yq] using hK⟩
      exact q3g S1.rel hI hu hx
    · cases ht
theorem q6k{x:XS}{e:AX}{z:x.ty.den}(hd:q9u x e=some z)(he:e≠.normal):q9x x z≠.normal:=by
  cases x with
  |normal=>cases e <;>first|exact absurd rfl he|cases hd
  |exit i=>intro e;cases e
  |ret=>intro e;cases e
  |panic s=>intro e;cases e
theorem qw3{n0:Nat}{e:AX}{a:CA}{z:a.ty.den}(ht:trC n0 e s h a=some z)(he:e≠.normal):a.ax z≠.normal:=by
  unfold trC at ht
  split at ht
  · rename_i u v hu hv
    injection ht with ht
    subst ht
    unfold CA.ax
    rw [zd]
    exact q6k hu he
  · cases ht
theorem qr5{K:AX→qc→qa→Prop}{next:qc→qa→Prop}{e:AX}(he:e≠.normal)(hk:K e s h):q03 K next e s h:=by
  cases e <;>first|exact absurd rfl he|exact hk
theorem qjf{outs:List CA}{y:jb (y7 outs)}{e:AX}(hy:qv2 F.n0 outs e s h=some y): ∃(a:CA) (z:a.ty.den),trC F.n0 e s h a=some z∧qv0 outs y (a.ax z) (a.sl z) (a.hs z):=by
  unfold qv2 at hy
  have hp:=qlg (P:=fun a z=>trC F.n0 e s h a=some z) (fun a z hz=>hz) hy
  obtain⟨a,z,e1,_⟩:=qkm outs y
  rw [e1] at hp
  refine⟨a,z,hp, ?_⟩
  unfold qv0
  rw [e1]
  exact⟨rfl,rfl,rfl⟩
noncomputable def Cut.runs{U:Type}(E:Env)(F:Fp)(body:Code)(ks:List Nat)(n:Nat)(es:List (Ent U))(cs:List (Cut U))(u:U)(k:Nat)(S:SS)(outs:List CA)(self:S.ty.den→Option (jb (y7 outs)))(x:S.ty.den):Option (jb (y7 outs)):=
  match qn k 0 body with
  |some (true,i,c)=>(wa E F ks n i c .out (S.slots x) (S.heap x)).run u F.n0 es cs (jdy F.n0 S outs self)
  |some (false,i,c)=>(wa E F ks n i c .out (S.slots x) (S.heap x)).run u F.n0 es cs (qv2 F.n0 outs)
  |none=>none
noncomputable abbrev Cut.go{U:Type}(E:Env)(F:Fp)(body:Code)(ks:List Nat)(n:Nat)(es:List (Ent U))(cs:List (Cut U))(u:U)(c:Cut U)(self:c.S.ty.den→Option (jb (y7 c.outs)))(x:c.S.ty.den):Option (jb (y7 c.outs)):=
  Cut.runs E F body ks n es cs u c.k c.S c.outs self x
theorem qiu : ∀ {c : Code} {k i : Nat} {b : Bool} {j : Nat} {p : Code}, qn k i c = some (b, j, p) → i < j ∧ j + nC p ≤ i + nC c ∧ ∀ m, j ≤ m → m < j + nC p → qn m j p = qn m i c := by
  intro c
  induction c with
  | seq x y ihx ihy =>
    intro k i b j p h
    rw [wh] at h
    simp only [nC]
    split at h
    · injection h with h; injection h with h1 h2; injection h2 with h2 h3
      subst h2 h3
      refine⟨by omega,by omega,fun m h1 h2=> ?_⟩
      rw [wh,qst (by omega),q2a h1]
    · split at h
      · obtain ⟨q1, q2, q3⟩ := ihx h
        refine⟨by omega,by omega,fun m h1 h2=> ?_⟩
        rw [q3 m h1 h2,wh,qst (by omega),q6f (by omega)]
      · obtain ⟨q1, q2, q3⟩ := ihy h
        refine⟨by omega,by omega,fun m h1 h2=> ?_⟩
        rw [q3 m h1 h2,wh,qst (by omega),q2a (by omega)]
  | cond t x y ihx ihy =>
    intro k i b j p h
    rw [xn] at h
    simp only [nC]
    split at h
    · obtain ⟨q1, q2, q3⟩ := ihx h
      refine⟨by omega,by omega,fun m h1 h2=> ?_⟩
      rw [q3 m h1 h2,xn,q6f (by omega)]
    · obtain ⟨q1, q2, q3⟩ := ihy h
      refine⟨by omega,by omega,fun m h1 h2=> ?_⟩
      rw [q3 m h1 h2,xn,q2a (by omega)]
  |block l c ih=>intro k i b j p h;exact ih h
  | loop c ih =>
    intro k i b j p h
    rw [xo] at h
    simp only [nC]
    split at h
    · injection h with h; injection h with h1 h2; injection h2 with h2 h3
      subst h2 h3
      refine⟨by omega,by omega,fun m h1 h2=> ?_⟩
      rw [xo,qst (by omega)]
    · obtain ⟨q1, q2, q3⟩ := ih h
      refine⟨by omega,by omega,fun m h1 h2=> ?_⟩
      rw [q3 m h1 h2,xo,qst (by omega)]
  |_=>intro k i b j p h;cases h
theorem qa7 {U : Type} {u : U} {body : Code} {ks : List Nat} {n : Nat} {es : List (Ent U)} {cs : List (Cut U)} {k : Nat} {S : SS} {outs : List CA} (hE : EnvOK E) (hes : zj E u es) (hcs : qa2 E F body u cs)
    {self:S.ty.den→Option (jb (y7 outs))} (hself: ∀x y,self x=some y→qg1 E F body k S outs x y) {x:S.ty.den} {y:jb (y7 outs)} (hr:Cut.runs E F body ks n es cs u k S outs self x=some y):qg1 E F body k S outs x y:=by
  have co: ∀(k:Nat) (p:Bool×Nat×Code) (s:qc) (h:qa) (Q:AX→qc→qa→Prop),qn k 0 body=some p→CO E F body k s h Q→Ok E F (qke p) Q s h:=by
    intro k p s h Q hp hco
    obtain⟨p',h1,h2⟩:=hco
    rw [hp] at h1;cases h1;exact h2
  unfold Cut.runs at hr
  unfold qg1
  split at hr
  · rename_i i c hp
    simp only [hp]
    obtain⟨_,_,hsub⟩:=qiu hp
    let fp:AX→qc→qa→Prop:=fun e s h=>jdy F.n0 S outs self e s h=some y
    have hh:=qhw (finP:=fp) hes hcs (fun e s h hy=>hy) _ hr
    have ok:=qfr (F:=F) hE co c i .out fp _ _ hsub (fun e s h hq=>hq) hh
    refine OkL.round (Ok.fin (fun e s h hK=> ?_) ok)
    cases e with
    | normal =>
      left
      have hK:(match qa9 F.n0 S s h with|some x=>self x|none=>none)=some y:=hK
      show OkL E F c (qv0 outs y) s h
      cases hd:qa9 F.n0 S s h with
      |none=>rw [hd] at hK;cases hK
      | some x' =>
        rw [hd] at hK
        have hs:=hself x' y hK
        unfold qg1 at hs
        simp only [hp] at hs
        exact OkL.dec hd hs
    | exit j =>
      obtain⟨a,z,h1,h2⟩:=qjf (F:=F) hK
      exact .inr ⟨a,z,h1,qr5 (qw3 h1 (by intro e;cases e)) h2⟩
    | ret =>
      obtain⟨a,z,h1,h2⟩:=qjf (F:=F) hK
      exact .inr ⟨a,z,h1,qr5 (qw3 h1 (by intro e;cases e)) h2⟩
    | panic v =>
      obtain⟨a,z,h1,h2⟩:=qjf (F:=F) hK
      exact .inr ⟨a,z,h1,qr5 (qw3 h1 (by intro e;cases e)) h2⟩
  · rename_i i c hp
    simp only [hp]
    obtain⟨_,_,hsub⟩:=qiu hp
    let fp:AX→qc→qa→Prop:=fun e s h=>qv2 F.n0 outs e s h=some y
    have hh:=qhw (finP:=fp) hes hcs (fun e s h hy=>hy) _ hr
    have ok:=qfr (F:=F) hE co c i .out fp _ _ hsub (fun e s h hq=>hq) hh
    exact Ok.fin (fun e s h hK=> .inr (qjf (F:=F) hK)) ok
  · cases hr
end
section
variable {E:Env} {F:Fp} {body:Code} {ks:List Nat} {n:Nat}
theorem jfp{fn:Func}{e:Ent Unit}(es:List (Ent Unit))(cs:List (Cut Unit))(hE:EnvOK E)(hf:E.P.funcs[e.f]? =some fn)(hb:fn.body.isSome=true)(hname:(fn.name== "runtime.NumGoroutine")=false)
    (hargs:Nat.ble e.ins.length fn.ntmps=true) (hes:zj E () es) (hcs:qa2 E (e.fp fn) (jo fn) () cs) (hG: ∀q,e.G () q=e.runs E fn ks n es cs () q):e.Sound E ():=
  fun x y h=>vn hE hf hb hname hargs hes hcs ((hG x).symm.trans h)
theorem qya{k:Nat}{S:SS}{outs:List CA}(es:List (Ent Unit))(cs:List (Cut Unit)){Fl:(S.ty.den→Option (jb (y7 outs)))→S.ty.den→Option (jb (y7 outs))}(hE:EnvOK E)(hes:zj E () es)(hcs:qa2 E F body () cs)
    (hF: ∀self q,Fl self q=Cut.runs E F body ks n es cs () k S outs self q): ∀x y,xw (B:=fun _=>jb (y7 outs)) Fl x=some y→qg1 E F body k S outs x y:=
  qbg (B:=fun _=>jb (y7 outs)) fun u hu x y h=>qa7 hE hes hcs hu ((hF u x).symm.trans h)
end
end Go.AM
