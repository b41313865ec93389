import Derived.Test.YtjmmcdbogbpedaaGreatDoorBMRun
import Derived.Test.YtjmmcdbogbpedaaGreatDoorBMCont
namespace Go.AM
set_option linter.unusedSectionVars false
variable [Lay]
set_option linter.unusedVariables false
section
variable {A:Type} {B:A→Type}
abbrev Un(A:Type)(B:A→Type):Type:= ∀a,Option (B a)
end
def jio:Sh→Bool
  | .fx (.own _ _ _)=>true
  | .agg l=>ownL l
  | .tup l=>ownL l
  |_=>false
where ownL:List Sh→Bool
  |[]=>false
  |s::r=>match jio s with|true=>true|false=>ownL r
def jf4:List FA→Bool
  |[]=>false
  |a::r=>match jio.ownL (a.S.sl.map (·.2)) with|true=>true|false=>jf4 r
def q7x(gen:Bool)(h:qa)(v:AV):AV:=match gen with|true=>v|false=>jkg (qd h) v
def q7w(gen:Bool)(h:qa)(v:AV):qa:=match gen with|true=>h|false=>qg h (frz (qd h) (qmz v))
def jfx (E : Env) (gen : Bool) (rs : List ResultVar) (n0 : Nat) (outs : List FA) (e : AX) (s : qc) (h : qa) : Option (jt (qc9 outs)) :=
  match(match e with
    | .normal=>match qmn E s h rs with|some vs=>some (false,qug vs)|none=>none
    | .ret=>match qmn E s h rs with|some vs=>some (false,qug vs)|none=>none
    | .panic v=>some (true,v)
    | .exit _=>none) with
  | some (pn, v) => q0z (fun a => match a.pn, pn with
    |false,false=>qck n0 a.S [(0,q7x gen h v)] (q7w gen h v)
    |true,true=>qck n0 a.S [(0,q7x gen h v)] (q7w gen h v)
    |_,_=>none) outs
  |none=>none
section
variable {E:Env} {s s':qc} {h h':qa} {n0:Nat}
theorem qff.slot0{ρ:List Src}{fz:List Nat}(V:qff n0 fz ρ s h s' h'):qff n0 fz ρ s h [(0,lkp 0 s')] h':=by
  refine⟨V.1,V.2.1, ?_,trivial⟩
  rcases qk3 V.2.2 0 with e|e
  · rw [e];exact(by unfold q8;trivial)
  · exact e
theorem q46{gen:Bool}{rs:List ResultVar}{outs:List FA}{y:jt (qc9 outs)}{e:AX}(hy:jfx E gen rs n0 outs e s h=some y):vf E rs gen n0 (fun r k=>gh outs y fun a z=>r=a.res z∧k=a.hs z) e s h:=by
  have key: ∀(pn:Bool) (v:AV) (mk:AV→ARes),(mk=match pn with|true=>ARes.panic|false=>ARes.ret)→q0z (fun a=>match a.pn,pn with
    |false,false=>qck n0 a.S [(0,q7x gen h v)] (q7w gen h v)
    |true,true=>qck n0 a.S [(0,q7x gen h v)] (q7w gen h v)
    |_,_=>none) outs=some y→q0u gen n0 mk (fun r k=>gh outs y fun a z=>r=a.res z∧k=a.hs z) v h:=by
    intro pn v mk hmk hp
    have hp:=qo1 (P:=fun a z=>(a.pn=pn)∧qck n0 a.S [(0,q7x gen h v)] (q7w gen h v)=some z) (fun a z hz=>by
      cases ha:a.pn <;>rw [ha] at hz <;>cases pn <;>first|exact⟨rfl,hz⟩|cases hz) hp
    obtain⟨a,z,e1,_⟩:=qgw outs y
    rw [e1] at hp
    obtain⟨hpn,hp⟩:=hp
    obtain⟨ρ,hv⟩:=qlc hp
    have fin: ∃(ρ:List Src) (v':AV) (h':qa),qff n0 [] ρ [(0,q7x gen h v)] (q7w gen h v) [(0,v')] h'∧gh outs y fun a z=>mk v'=a.res z∧h'=a.hs z:=by
      refine⟨ρ,_,_,hv.slot0, ?_⟩
      rw [e1]
      refine⟨?_,rfl⟩
      unfold FA.res
      rw [hmk,hpn]
      cases pn <;>rfl
    unfold q0u
    cases gen with
    |true=>exact fin
    | false =>
      simp only [qcv,vr]
      exact fin
  unfold jfx at hy
  cases e with
  | normal =>
    simp only at hy
    unfold vf
    cases hr:qmn E s h rs with
    |none=>rw [hr] at hy;cases hy
    |some vs=>rw [hr] at hy;exact key false _ _ rfl hy
  | ret =>
    simp only at hy
    unfold vf
    cases hr:qmn E s h rs with
    |none=>rw [hr] at hy;cases hy
    |some vs=>rw [hr] at hy;exact key false _ _ rfl hy
  |panic v=>exact key true _ _ rfl hy
  |exit i=>cases hy
theorem qgy: ∀(l:List BSh) (x:(tyH l).den),(qme l x).length=l.length
  |[],_=>rfl
  |b::r,x=>by simp only [qme,List.length_cons,qgy r]
theorem qn4: ∀(l:List Sh) (x:(Sh.ty.tyL l).den),(qf0.encL l x).length=l.length
  |[],_=>rfl
  |b::r,x=>by simp only [qf0.encL,List.length_cons,qn4 r]
def Ent.fp{U:Type}(e:Ent U)(fn:Func):Fp:=⟨fn.ntmps,e.hin.length,false⟩
def qx(fn:Func):Code:=match fn.body with|some c=>c|none=> .skip
noncomputable def Ent.runs{U:Type}(E:Env)(fn:Func)(ks:List Nat)(n:Nat)(es:List (Ent U))(cs:List (Cut U))(u:U)(e:Ent U)(x:(yd (Sh.ty.tyL e.ins) (tyH e.hin)).den):Option (jt (qc9 e.outs)):=
  (wt E ⟨fn.ntmps,e.hin.length,false⟩ ks n 0 (qx fn) .out (um 0 (qf0.encL e.ins (qmp _ _ x))) (qme e.hin (qkz _ _ x))).run u e.hin.length es cs (jfx E (jf4 e.outs) fn.results.toList e.hin.length e.outs)
theorem ku{U:Type}{u:U}{fn:Func}{ks:List Nat}{n:Nat}{es:List (Ent U)}{cs:List (Cut U)}{e:Ent U}(hE:EnvOK E)(hf:E.P.funcs[e.f]? =some fn)(hb:fn.body.isSome=true)(hname:(fn.name== "runtime.NumGoroutine")=false)
    (hargs:Nat.ble e.ins.length fn.ntmps=true) (hes:ug E u es) (hcs:qce E (e.fp fn) (qx fn) u cs) {x:(yd (Sh.ty.tyL e.ins) (tyH e.hin)).den} {y:jt (qc9 e.outs)} (hr:e.runs E fn ks n es cs u x=some y):qbb E e.f e.ins e.hin e.outs x y:=by
  unfold qbb
  have hb:fn.body=some (qx fn):=by
    unfold qx
    cases hq:fn.body with
    |none=>rw [hq] at hb;cases hb
    |some c=>rfl
  refine qk.bodyOk (jf4 e.outs) false hE hf hb hname (by rw [qn4];exact hargs) ?_
  unfold Ent.runs at hr
  rw [qgy]
  have hh:=qkw (finP:=fun e' s h=>vf E fn.results.toList (jf4 e.outs) e.hin.length (fun r k=>gh e.outs y fun a z=>r=a.res z∧k=a.hs z) e' s h) (F:=e.fp fn) hes hcs (fun e' s h hy=>q46 hy) _ hr
  exact qhu hE (fun k p s h Q hp hco=>by obtain⟨p',h1,h2⟩:=hco;rw [hp] at h1;cases h1;exact h2) (qx fn) 0 .out _ _ _ (fun k _ _=>rfl) (fun e s h hq=>hq) hh
end
def jjb:(x:XS)→AX→Option x.ty.den
  | .normal,.normal=>some ()
  | .exit i,.exit j=>match Nat.beq i j with|true=>some ()|false=>none
  | .ret,.ret=>some ()
  | .panic s,.panic v=>qcb [] s v
  |_,_=>none
def trC(n0:Nat)(e:AX)(s:qc)(h:qa)(a:CA):Option a.ty.den:=
  match jjb a.e e,qgv n0 a.S s h with
  |some u,some w=>some (tmk _ _ u w)
  |_,_=>none
def q21(n0:Nat)(outs:List CA)(e:AX)(s:qc)(h:qa):Option (jt (gc outs)):=q5p (trC n0 e s h) outs
def jok(n0:Nat)(S:SS)(outs:List CA)(self:S.ty.den→Option (jt (gc outs)))(e:AX)(s:qc)(h:qa):Option (jt (gc outs)):=
  match e with
  | .normal=>match qgv n0 S s h with|some x=>self x|none=>none
  | .exit i=>q21 n0 outs (.exit i) s h
  | .ret=>q21 n0 outs .ret s h
  | .panic v=>q21 n0 outs (.panic v) s h
section
variable {E:Env} {F:Fp} {w w0:World} {I I0:Nat→Nat→Prop} {h h0 h':qa} {μ μ0:Nat→Option Nat} {a:Act} {s s':qc}
theorem jcb{x:XS}{e:AX}{z:x.ty.den}{ee:Exit}{I':Nat→Nat→Prop}{μ':Nat→Option Nat}(R:RelH w I μ h)(hI: ∀g o,I g o→I' g o)(hd:jjb x e=some z)(hx:ji0 w I h μ ee e):ji0 w I' h' μ' ee (jjf x z):=by
  cases x with
  | normal => cases e <;> first | (cases hd; done) | skip
              cases ee <;>first|exact hx.elim|exact hx
  | exit i =>
    cases e <;>first|(cases hd;done)|skip
    rename_i j
    have hd:(match Nat.beq i j with|true=>some ()|false=>none)=some z:=hd
    cases hb:Nat.beq i j with
    |false=>rw [hb] at hd;cases hd
    | true =>
      obtain rfl:=Nat.eq_of_beq_eq_true hb
      cases ee <;>first|exact hx.elim|exact hx
  | ret => cases e <;> first | (cases hd; done) | skip
           cases ee <;>first|exact hx.elim|exact hx
  | panic sh =>
    cases e <;>first|(cases hd;done)|skip
    rename_i v
    have hd:qcb [] sh v=some z:=hd
    cases ee <;>first|exact hx.elim|skip
    obtain⟨u,hc,hr⟩:=hx
    refine⟨u,hc, ?_⟩
    have V:HV [] h []:=⟨rfl,fun k m e=>by simp at e,fun k t fr e=>by simp at e⟩
    have r1:=V.rep hr (qei sh v z hd)
    refine r1.mono (I':=I') (h':=h') (μ':=μ') ⟨fun b x e=>by simp at e,fun b x y e=>by simp at e⟩ (fun _ g vs e hg=>⟨vs,hg,rfl⟩) ⟨fun _ _ _ _ hu=>hu,fun _ _=>rfl⟩ hI
theorem Ok.fin{c:Code}{K K':AX→qc→qa→Prop}(hk: ∀e s h,K e s h→K' e s h∨∃(a:CA) (z:a.ty.den),trC F.n0 e s h a=some z∧K' (a.ax z) (a.sl z) (a.hs z))(o:Ok E F c K s h):Ok E F c K' s h:=by
  unfold Ok at o ⊢
  intro w0 I0 μ0 h0 hn0 w I μ a S
  refine Code.wp_mono (fun ee a w hq=> ?_) (o w0 I0 μ0 h0 hn0 w I μ a S)
  obtain⟨x,I1,μ1,h1,s1,S1,hx,hK⟩:=hq
  rcases hk _ _ _ hK with hK|⟨ca,z,ht,hK⟩
  · exact⟨x,I1,μ1,h1,s1,S1,hx,hK⟩
  · unfold trC at ht
    split at ht
    · rename_i u v hu hv
      injection ht with ht
      subst ht
      obtain⟨I2,μ2,S2,hI⟩:=S1.dec hn0 hv
      refine⟨_,I2,μ2,_,_,S2, ?_,by simpa only [CA.ax,CA.sl,CA.hs,gt,zk] using hK⟩
      exact jcb S1.rel hI hu hx
    · cases ht
theorem jfs{x:XS}{e:AX}{z:x.ty.den}(hd:jjb x e=some z)(he:e≠.normal):jjf x z≠.normal:=by
  cases x with
  |normal=>cases e <;>first|exact absurd rfl he|cases hd
  |exit i=>intro e;cases e
  |ret=>intro e;cases e
  |panic s=>intro e;cases e
theorem q38{n0:Nat}{e:AX}{a:CA}{z:a.ty.den}(ht:trC n0 e s h a=some z)(he:e≠.normal):a.ax z≠.normal:=by
  unfold trC at ht
  split at ht
  · rename_i u v hu hv
    injection ht with ht
    subst ht
    unfold CA.ax
    rw [gt]
    exact jfs hu he
  · cases ht
theorem qyh{K:AX→qc→qa→Prop}{next:qc→qa→Prop}{e:AX}(he:e≠.normal)(hk:K e s h):q8m K next e s h:=by
  cases e <;>first|exact absurd rfl he|exact hk
theorem qmt{outs:List CA}{y:jt (gc outs)}{e:AX}(hy:q21 F.n0 outs e s h=some y): ∃(a:CA) (z:a.ty.den),trC F.n0 e s h a=some z∧q2z outs y (a.ax z) (a.sl z) (a.hs z):=by
  unfold q21 at hy
  have hp:=qo0 (P:=fun a z=>trC F.n0 e s h a=some z) (fun a z hz=>hz) hy
  obtain⟨a,z,e1,_⟩:=qn1 outs y
  rw [e1] at hp
  refine⟨a,z,hp, ?_⟩
  unfold q2z
  rw [e1]
  exact⟨rfl,rfl,rfl⟩
noncomputable def Cut.runs{U:Type}(E:Env)(F:Fp)(body:Code)(ks:List Nat)(n:Nat)(es:List (Ent U))(cs:List (Cut U))(u:U)(k:Nat)(S:SS)(outs:List CA)(self:S.ty.den→Option (jt (gc outs)))(x:S.ty.den):Option (jt (gc outs)):=
  match qu k 0 body with
  |some (true,i,c)=>(wt E F ks n i c .out (S.slots x) (S.heap x)).run u F.n0 es cs (jok F.n0 S outs self)
  |some (false,i,c)=>(wt E F ks n i c .out (S.slots x) (S.heap x)).run u F.n0 es cs (q21 F.n0 outs)
  |none=>none
noncomputable abbrev Cut.go{U:Type}(E:Env)(F:Fp)(body:Code)(ks:List Nat)(n:Nat)(es:List (Ent U))(cs:List (Cut U))(u:U)(c:Cut U)(self:c.S.ty.den→Option (jt (gc c.outs)))(x:c.S.ty.den):Option (jt (gc c.outs)):=
  Cut.runs E F body ks n es cs u c.k c.S c.outs self x
theorem ql1 : ∀ {c : Code} {k i : Nat} {b : Bool} {j : Nat} {p : Code}, qu k i c = some (b, j, p) → i < j ∧ j + nC p ≤ i + nC c ∧ ∀ m, j ≤ m → m < j + nC p → qu m j p = qu m i c := by
  intro c
  induction c with
  | seq x y ihx ihy =>
    intro k i b j p h
    rw [wz] at h
    simp only [nC]
    split at h
    · injection h with h; injection h with h1 h2; injection h2 with h2 h3
      subst h2 h3
      refine⟨by omega,by omega,fun m h1 h2=> ?_⟩
      rw [wz,qzi (by omega),jaa h1]
    · split at h
      · obtain ⟨q1, q2, q3⟩ := ihx h
        refine⟨by omega,by omega,fun m h1 h2=> ?_⟩
        rw [q3 m h1 h2,wz,qzi (by omega),jfl (by omega)]
      · obtain ⟨q1, q2, q3⟩ := ihy h
        refine⟨by omega,by omega,fun m h1 h2=> ?_⟩
        rw [q3 m h1 h2,wz,qzi (by omega),jaa (by omega)]
  | cond t x y ihx ihy =>
    intro k i b j p h
    rw [yq] at h
    simp only [nC]
    split at h
    · obtain ⟨q1, q2, q3⟩ := ihx h
      refine⟨by omega,by omega,fun m h1 h2=> ?_⟩
      rw [q3 m h1 h2,yq,jfl (by omega)]
    · obtain ⟨q1, q2, q3⟩ := ihy h
      refine⟨by omega,by omega,fun m h1 h2=> ?_⟩
      rw [q3 m h1 h2,yq,jaa (by omega)]
  |block l c ih=>intro k i b j p h;exact ih h
  | loop c ih =>
    intro k i b j p h
    rw [yr] at h
    simp only [nC]
    split at h
    · injection h with h; injection h with h1 h2; injection h2 with h2 h3
      subst h2 h3
      refine⟨by omega,by omega,fun m h1 h2=> ?_⟩
      rw [yr,qzi (by omega)]
    · obtain ⟨q1, q2, q3⟩ := ih h
      refine⟨by omega,by omega,fun m h1 h2=> ?_⟩
      rw [q3 m h1 h2,yr,qzi (by omega)]
  |_=>intro k i b j p h;cases h
theorem zo {U : Type} {u : U} {body : Code} {ks : List Nat} {n : Nat} {es : List (Ent U)} {cs : List (Cut U)} {k : Nat} {S : SS} {outs : List CA} (hE : EnvOK E) (hes : ug E u es) (hcs : qce E F body u cs)
    {self:S.ty.den→Option (jt (gc outs))} (hself: ∀x y,self x=some y→qfd E F body k S outs x y) {x:S.ty.den} {y:jt (gc outs)} (hr:Cut.runs E F body ks n es cs u k S outs self x=some y):qfd E F body k S outs x y:=by
  have co: ∀(k:Nat) (p:Bool×Nat×Code) (s:qc) (h:qa) (Q:AX→qc→qa→Prop),qu k 0 body=some p→CO E F body k s h Q→Ok E F (qnu p) Q s h:=by
    intro k p s h Q hp hco
    obtain⟨p',h1,h2⟩:=hco
    rw [hp] at h1;cases h1;exact h2
  unfold Cut.runs at hr
  unfold qfd
  split at hr
  · rename_i i c hp
    simp only [hp]
    obtain⟨_,_,hsub⟩:=ql1 hp
    let fp:AX→qc→qa→Prop:=fun e s h=>jok F.n0 S outs self e s h=some y
    have hh:=qkw (finP:=fp) hes hcs (fun e s h hy=>hy) _ hr
    have ok:=qhu (F:=F) hE co c i .out fp _ _ hsub (fun e s h hq=>hq) hh
    refine OkL.round (Ok.fin (fun e s h hK=> ?_) ok)
    cases e with
    | normal =>
      left
      have hK:(match qgv F.n0 S s h with|some x=>self x|none=>none)=some y:=hK
      show OkL E F c (q2z outs y) s h
      cases hd:qgv F.n0 S s h with
      |none=>rw [hd] at hK;cases hK
      | some x' =>
        rw [hd] at hK
        have hs:=hself x' y hK
        unfold qfd at hs
        simp only [hp] at hs
        exact OkL.dec hd hs
    | exit j =>
      obtain⟨a,z,h1,h2⟩:=qmt (F:=F) hK
      exact .inr ⟨a,z,h1,qyh (q38 h1 (by intro e;cases e)) h2⟩
    | ret =>
      obtain⟨a,z,h1,h2⟩:=qmt (F:=F) hK
      exact .inr ⟨a,z,h1,qyh (q38 h1 (by intro e;cases e)) h2⟩
    | panic v =>
      obtain⟨a,z,h1,h2⟩:=qmt (F:=F) hK
      exact .inr ⟨a,z,h1,qyh (q38 h1 (by intro e;cases e)) h2⟩
  · rename_i i c hp
    simp only [hp]
    obtain⟨_,_,hsub⟩:=ql1 hp
    let fp:AX→qc→qa→Prop:=fun e s h=>q21 F.n0 outs e s h=some y
    have hh:=qkw (finP:=fp) hes hcs (fun e s h hy=>hy) _ hr
    have ok:=qhu (F:=F) hE co c i .out fp _ _ hsub (fun e s h hq=>hq) hh
    exact Ok.fin (fun e s h hK=> .inr (qmt (F:=F) hK)) ok
  · cases hr
end
section
variable {E:Env} {F:Fp} {body:Code} {ks:List Nat} {n:Nat}
theorem jo4{fn:Func}{e:Ent Unit}(es:List (Ent Unit))(cs:List (Cut Unit))(hE:EnvOK E)(hf:E.P.funcs[e.f]? =some fn)(hb:fn.body.isSome=true)(hname:(fn.name== "runtime.NumGoroutine")=false)
    (hargs:Nat.ble e.ins.length fn.ntmps=true) (hes:ug E () es) (hcs:qce E (e.fp fn) (qx fn) () cs) (hG: ∀q,e.G () q=e.runs E fn ks n es cs () q):e.Sound E ():=
  fun x y h=>ku hE hf hb hname hargs hes hcs ((hG x).symm.trans h)
theorem qbn{k:Nat}{S:SS}{outs:List CA}(es:List (Ent Unit))(cs:List (Cut Unit)){Fl:(S.ty.den→Option (jt (gc outs)))→S.ty.den→Option (jt (gc outs))}(hE:EnvOK E)(hes:ug E () es)(hcs:qce E F body () cs)
    (hF: ∀self q,Fl self q=Cut.runs E F body ks n es cs () k S outs self q): ∀x y,wi (B:=fun _=>jt (gc outs)) Fl x=some y→qfd E F body k S outs x y:=
  zr (B:=fun _=>jt (gc outs)) fun u hu x y h=>zo hE hes hcs hu ((hF u x).symm.trans h)
end
end Go.AM
