import Derived.Test.YtjmmcdbogbpedaaGreatDoorBMFix
import Derived.Defers
import Derived.Recover
import Derived.WideLaws
namespace Go.AM
set_option linter.unusedSectionVars false
variable [Lay]
def qkd(fn:Func):Option (Nat×Nat×TypeId×Code):=
 match fn.body with
 | some (.seq (.region _ ops false) c) => match ops.toList with
  |[⟨some r,.call { callee:= .builtin .recover,args:=as,argTypes:=ts },_,_,_,none⟩,⟨some d,.binOp .neq t (.tmp r') (.const .nilIface) _,_,_,_,none⟩]=>
   match Nat.beq r' r&&Nat.blt r fn.ntmps&&Nat.blt d fn.ntmps&&Nat.beq fn.results.size 0&&Nat.beq as.size 0&&Nat.beq ts.size 0 with
   |true=>some (r,d,t,c)
   |false=>none
  |_=>none
 |_=>none
def jdp(K:qa→Tr)(e:AX)(_:qc)(h:qa):Tr:=
 match e with
 | .normal=>K h
 | .ret=>K h
 | .exit _=> .fail 24
 | .panic _=> .fail 24
def qup(E:Env)(g:Func)(args:List AV)(pn:Option AV)(h:qa)(K:qa→Tr):Tr:=
 match qkd g with
 |some (r,d,_,c)=>match pn with
  |none=>wa E ⟨g.ntmps,h.length,false⟩ [] 12 0 c (jdp K) ((d,.f)::(r,.niliface)::y8 0 args) h
  |some (.iface t x)=>wa E ⟨g.ntmps,h.length,false⟩ [] 12 0 c (jdp K) ((d,.t)::(r,.iface t x)::y8 0 args) h
  |some _=> .fail 25
 |none=> .fail 23
def dK(E:Env)(g:Func)(args:List AV)(e:AX)(s:qc)(h:qa):Tr:=
 match e with
 | .normal=>qup E g args none h fun h'=> .out .ret s h'
 | .ret=>qup E g args none h fun h'=> .out .ret s h'
 | .panic v=>qup E g args (some v) h fun h'=> .out .ret s h'
 | .exit _=> .fail 22
def q81:Code→Option (Oper×Nat)
 | .region _ ops false => match ops.toList with
  |[mk,⟨none,.defer { callee:= .value (.tmp t),args:=as,argTypes:=_ },_,_,_,none⟩]=>match mk.guard,as.toList with
   |none,[]=>some (mk,t)
   |_,_=>none
  |_=>none
 |_=>none
def qly (E : Env) (F : Fp) (g : FuncId) (gf : Func) : Code → qc → qa → Tr
 | .seq a b, s, h => match q81 a with
  | some (mk, t) => qur E F mk s h (fun s h => match lkp t s with
   | .fn (.func g') x c=>match Nat.beq g' g&&Nat.ble (x++c).length gf.ntmps with
    |true=>wa E ⟨F.nt,h.length,F.jn⟩ [] 12 0 b (dK E gf (x++c)) s h
    |false=> .fail 26
   |_=> .fail 27) (fun _ _ _=> .fail 28)
  |none=>wa E F [] 12 0 a (fun e s h=>match e with| .normal=>qly E F g gf b s h| .ret=> .out .ret s h| .panic v=> .out (.panic v) s h| .exit _=> .fail 29) s h
 |c,s,h=>wa E F [] 12 0 c .out s h
abbrev NC:Nat→qc→qa→(AX→qc→qa→Prop)→Prop:=fun _ _ _ _=>False
section
variable {E:Env} {F:Fp} {w:World} {I:Nat→Nat→Prop} {h:qa} {μ:Nat→Option Nat} {fin:AX→qc→qa→Prop}
theorem qb5[Dfr](hE:EnvOK E){F:Fp}{c:Code}{K:TK}{Kp:AX→qc→qa→Prop}{s:qc}{h:qa}(hK: ∀e s h,(K e s h).holds E NC fin→Kp e s h)(hh:(wa E F [] 12 0 c K s h).holds E NC fin):Ok E F c Kp s h:=
 qfr hE (body:=c) (fun _ _ _ _ _ _ hc=>hc.elim) c 0 K Kp s h (fun _ _ _=>rfl) hK hh
def uv(w:World)(I:Nat→Nat→Prop)(μ:Nat→Option Nat)(h:qa)(Kp:qa→Prop)(e:Ending)(u':FrameMode)(w':World):Prop:=
 ∃v h' I' μ',e= .returned v∧settle u'= .returning∧RelH w' I' μ' h'∧Fr w (Wr h μ) I w' (Wr h' μ') I'∧HM h μ h' μ'∧Kp h'
theorem qnw{P:Program}{t:TypeId}(hi:P.underlying t=some (.interface (P.methodsAt t))){a:Act}{dst:Option Tmp}{ty u:TypeId}{pos:String}{aft:Array Edge}{r:Nat}{v:Value}(hv:a.eval (.tmp r)=v)(b:Bool)
  (hb:(b=false∧v= .nilIface)∨(b=true∧∃t x,v= .iface t x)) (w:World):(execOp a.eval ⟨dst,.binOp .neq t (.tmp r) (.const .nilIface) u,ty,pos,aft,none⟩).run P w= .ok (.value (.bool b)) w:=by
 rcases hb with⟨rfl,rfl⟩|⟨rfl,t',x,rfl⟩
 ·refine v8 (by rw [hv]; rfl) ?_
  rw [hv]
  exact run_neq_nil_nil w t hi
 ·refine v8 (by rw [hv]; rfl) ?_
  rw [hv]
  exact run_neq_held_nil w t t' x hi
theorem qxp(hE:EnvOK E){g:FuncId}{gf:Func}{r d:Nat}{t:TypeId}{c:Code}(hg:E.P.funcs[g]? =some gf)(hc:qkd gf=some (r,d,t,c))(hi:E.P.underlying t=some (.interface (E.P.methodsAt t)))
  {args:List AV} {vals:Array Value} {rv:AV} {b:Bool} {v:Value} {u u1:FrameMode} (R:RelH w I μ h) (hv:qr w I h μ vals.toList args) (hargs:args.length≤gf.ntmps)
  (hrec: ∀(c₀:Frame) (cs:List Frame),c₀.mode=u→(recoverD (c₀::cs)=some (v,{ c₀ with mode:=u1 }::cs))∨(recoverD (c₀::cs)=none∧v= .nilIface∧u1=u)) (hu1:settle u1= .returning)
  (hrv:Rep w I h μ v rv) (hbv:(b=false∧v= .nilIface)∨(b=true∧∃t x,v= .iface t x)) {Kp:qa→Prop}
  (hk:Ok E ⟨gf.ntmps,h.length,false⟩ c (fun e _ h'=>match e with| .normal=>Kp h'| .ret=>Kp h'|_=>False) ((d,if b then .t else .f)::(r,rv)::y8 0 args) h):
  CallsD E.P g vals u w (uv w I μ h Kp):=by
 unfold qkd at hc
 split at hc
 ·rename_i id ops c' hb
  split at hc
  ·rename_i r0 as ts ty1 pos1 aft1 d0 t0 r' u0 ty2 pos2 aft2 hops
   split at hc
   ·rename_i hcond
    cases hc
    simp only [Bool.and_eq_true] at hcond
    obtain⟨⟨⟨⟨⟨h1,h2⟩,h3⟩,h4⟩,h5⟩,h6⟩:=hcond
    obtain rfl:=Nat.eq_of_beq_eq_true h1
    have hr: @LT.lt Nat _ r' gf.ntmps:=by simpa using h2
    have hd:d<gf.ntmps:=by simpa using h3
    have hres:gf.results= #[]:=by have:=Nat.eq_of_beq_eq_true h4;exact Array.eq_empty_of_size_eq_zero this
    have has:as= #[]:=by have:=Nat.eq_of_beq_eq_true h5;exact Array.eq_empty_of_size_eq_zero this
    have hts:ts= #[]:=by have:=Nat.eq_of_beq_eq_true h6;exact Array.eq_empty_of_size_eq_zero this
    subst has hts
    obtain⟨opl⟩:=ops
    simp only at hops
    subst hops
    have S0:=qq0 (j:=false) R hv hargs
    have S1:SR ⟨gf.ntmps,h.length,false⟩ w I μ h w I μ h _ _:=S0.put (d:=r') (v:=v) (x:=rv) hr hrv
    have S2:SR ⟨gf.ntmps,h.length,false⟩ w I μ h w I μ h _ ((d,if b then .t else .f)::(r',rv)::y8 0 args):=S1.put (d:=d) (v:= .bool b) (x:=if b then .t else .f) hd (by cases b;exact .f;exact .t)
    refine callsD_of_wpS hg hb fun c₀ cs hu=>wpS_seq (wpS_region ?_)
    show wpOpsS E.P _ _ [0,1] _ _ _
    have ev1:((Act.put ⟨vals++Array.replicate (gf.ntmps-vals.size) undef,[]⟩ (some r') v).eval (.tmp r'))=v:=by
     have:=vals.size
     have hsz:vals.size=args.length:=by simpa using hv.1
     show(Array.setIfInBounds _ r' v).getD r' undef=v
     simp [Array.getD_eq_getD_getElem?]
     omega
    have run2:=qnw (dst:=some d) (ty:=ty2) (u:=u0) (pos:=pos2) (aft:=aft2) hi ev1 b hbv w
    have fin2: ∀(cs':List Frame),cs'={ c₀ with mode:=u1 }::cs→wpOpsS E.P #[⟨some r',.call { callee:= .builtin .recover,args:= #[],argTypes:= #[] },ty1,pos1,aft1,none⟩,⟨some d,.binOp .neq t (.tmp r') (.const .nilIface) u0,ty2,pos2,aft2,none⟩]
      (Exit.thenS (c.wpS E.P (bodyPostS E.P gf c₀ cs (uv w I μ h Kp))) (bodyPostS E.P gf c₀ cs (uv w I μ h Kp))) [1] (Act.put ⟨vals++Array.replicate (gf.ntmps-vals.size) undef,[]⟩ (some r') v) cs' w:=by
     rintro cs' rfl
     simp only [wpOpsS,List.getElem?_toArray,List.getElem?_cons_succ,List.getElem?_cons_zero,Region.wanted,if_true,run2,Oper.upon,Exit.thenS]
     refine wpS_of_wp ?_
     unfold Ok at hk
     refine Code.wp_mono (fun e a' w' hq=> ?_) (hk w I μ h rfl w I μ _ S2)
     obtain⟨x,I',μ',h',s',S',hx,hk'⟩:=hq
     have key:Kp h'→a'.defers=[]∧∃u',({ c₀ with mode:=u1 }::cs:List Frame)={ c₀ with mode:=u' }::cs∧∃v,(results gf a'.tmps).run E.P w'= .ok v w'∧uv w I μ h Kp (.returned v) u' w':=by
      intro hK
      refine⟨S'.nd,u1,rfl,.tuple #[], ?_,.tuple #[],h',I',μ',rfl,hu1,S'.rel,S'.fr,S'.hm,hK⟩
      have hm:(gf.results.mapM fun r=>(match r with| .tmp t=>pure (a'.tmps.getD t undef)| .cell b t=>do loadVar t (←asAddr (a'.tmps.getD b undef)):Sem Value)).run E.P w'= .ok #[] w':=by
       rw [hres,Array.mapM_eq_mapM_toList]
       simp [Sem.run_pure]
      unfold results
      rw [Sem.run_bind]
      refine(congrArg (fun r=>Result.andThen r _) hm).trans ?_
      simp [Sem.run_pure]
     cases e with
     |normal=>cases x <;>first|exact key hk'|exact hx.elim
     |ret=>cases x <;>first|exact key hk'|exact hx.elim
     |exit i=>cases x <;>first|exact hk'.elim|exact hx.elim
     |panic ch=>cases x <;>first|exact hk'.elim|exact hx.elim
     |goto l=>cases x <;>exact hx.elim
     |outgrown=>cases x <;>exact hx.elim
    have run1:(execOp (Act.eval ⟨vals++Array.replicate (gf.ntmps-vals.size) undef,[]⟩) ⟨some r',.call { callee:= .builtin .recover,args:= #[],argTypes:= #[] },ty1,pos1,aft1,none⟩).run E.P w= .ok .recover w:=rfl
    unfold wpOpsS
    simp only [List.getElem?_toArray,List.getElem?_cons_zero,Region.wanted,if_true]
    rw [run1]
    simp only
    rcases hrec c₀ cs hu with hq|⟨hq,rfl,rfl⟩
    ·rw [hq]
     exact fin2 _ rfl
    ·rw [hq]
     refine fin2 _ ?_
     subst hu
     rfl
   ·cases hc
  ·cases hc
 ·cases hc
theorem q07(hE:EnvOK E){g:FuncId}{gf:Func}(hg:E.P.funcs[g]? =some gf)(hi: ∀r d t c,qkd gf=some (r,d,t,c)→E.P.underlying t=some (.interface (E.P.methodsAt t)))
  {args:List AV} {vals:Array Value} (R:RelH w I μ h) (hv:qr w I h μ vals.toList args) (hargs:args.length≤gf.ntmps) {K:qa→Tr} {Kp:qa→Prop} (hK: ∀h',(K h').holds E NC fin→Kp h')
  (hk:(qup E gf args none h K).holds E NC fin):CallsD E.P g vals .returning w (uv w I μ h Kp):=by
 unfold qup at hk
 split at hk
 ·rename_i r d t c hc
  simp only at hk
  refine qxp (b:=false) (v:= .nilIface) (rv:= .niliface) (u1:= .returning) hE hg hc (hi _ _ _ _ hc) R hv hargs (fun c₀ cs hu=> .inr ⟨?_,rfl,rfl⟩) rfl .niliface (.inl ⟨rfl,rfl⟩) ?_
  ·simp only [recoverD,hu]
  ·refine qb5 hE (fun e s h' hh => ?_) hk
   cases e <;>first|exact hK _ hh|exact hh.elim
 ·exact hk.elim
theorem q08(hE:EnvOK E){g:FuncId}{gf:Func}(hg:E.P.funcs[g]? =some gf)(hi: ∀r d t c,qkd gf=some (r,d,t,c)→E.P.underlying t=some (.interface (E.P.methodsAt t)))
  {args:List AV} {vals:Array Value} (R:RelH w I μ h) (hv:qr w I h μ vals.toList args) (hargs:args.length≤gf.ntmps) {K:qa→Tr} {Kp:qa→Prop} (hK: ∀h',(K h').holds E NC fin→Kp h')
  {v:Value} {x:AV} (hx:Rep w I h μ v x) (hk:(qup E gf args (some x) h K).holds E NC fin):CallsD E.P g vals (.panicking [{ v,recovered:=false }]) w (uv w I μ h Kp):=by
 unfold qup at hk
 split at hk
 ·rename_i r d t c hc
  split at hk
  ·rename_i heq;cases heq
  ·rename_i t' x' heq
   cases heq
   have hx':=hx
   cases hx' with
   | iface _ u _ _ =>
    refine qxp (b:=true) (u1:= .panicking [{ v:= .iface t' u,recovered:=true }]) hE hg hc (hi _ _ _ _ hc) R hv hargs (fun c₀ cs hu=> .inl ?_) rfl hx (.inr ⟨rfl,_,_,rfl⟩) ?_
    ·simp only [recoverD,hu]
    ·refine qb5 hE (fun e s h' hh => ?_) hk
     cases e <;>first|exact hK _ hh|exact hh.elim
  ·exact hk.elim
 ·exact hk.elim
theorem SR.off{w0:World}{I0:Nat→Nat→Prop}{μ0:Nat→Option Nat}{h0:qa}{a:Act}{s:qc}(S:SR F w0 I0 μ0 h0 w I μ h a s)(d:Deferred):
  @SR _ ⟨[d]⟩ ⟨F.nt,h.length,F.jn⟩ w I μ h w I μ h { a with defers:=[d] } s:=
 @SR.mk _ ⟨[d]⟩ _ _ _ _ _ _ _ _ _ _ _ S.rel (Fr.refl _ _ _) (HM.refl _ _) S.slots S.nt rfl
theorem qls{P:Program}{g:FuncId}(hent:ka P g)(fa fc:Array Value)(w:World):(invoke (.fn (.func g) fc) fa).run P w= .ok (.enter g (fa++fc)) w:=by
 obtain⟨fn,h1,h2,h3⟩:=hent
 show(callFunc g (fa++fc)).run P w=_
 unfold callFunc
 have hbn:fn.body.isNone=false:=by cases hb:fn.body <;>simp_all
 simp only [Sem.run_bind,run_program,Result.andThen_ok,h1,h3,hbn,Bool.false_eq_true,if_false,Sem.run_pure]
theorem q9y(hE:EnvOK E){fn:Func}{Q:ARes→qa→Prop}{w0:World}{I0:Nat→Nat→Prop}{μ0:Nat→Option Nat}{h0:qa}(hn0:h0.length=F.n0){e:Exit}{a:Act}
  (hq:CQ F w0 I0 μ0 h0 (fun e s h=>jx E fn.results.toList false F.n0 Q e s h) e a w):bodyPostD E.P fn (yr w0 I0 μ0 h0 Q) e a w:=by
 obtain⟨x,I,μ,h,s,S,hx,hk⟩:=hq
 have fin:(x= .normal∨x= .ret)→Leaves E.P fn a.tmps (yr w0 I0 μ0 h0 Q) a.defers .returning w:=by
  intro hxx
  rw [show a.defers=[] from S.nd]
  exact qjn hE hn0 S hxx (hn0▸hk)
 cases e with
 |normal=>cases x <;>first|exact fin (.inl rfl)|exact hx.elim
 |ret=>cases x <;>first|exact fin (.inr rfl)|exact hx.elim
 | panic chain =>
  cases x with
  |panic x=>
   obtain⟨v,rfl,hr⟩:=hx
   simp only [jx] at hk
   obtain⟨I2,μ2,h2,x2,hr2,hR2,hF2,hM2,hQ⟩:=qac (gen:=false) hn0 S hr hk
   show Leaves E.P fn a.tmps (yr w0 I0 μ0 h0 Q) a.defers (.panicking [{ v,recovered:=false }]) w
   rw [show a.defers=[] from S.nd]
   exact⟨.panic x2,h2,I2,μ2,hQ,⟨v,rfl,hr2⟩,hR2,hF2,hM2⟩
  |_=>exact hx.elim
 |exit i=>cases x <;>first|exact hk.elim|exact hx.elim
 |goto l=>cases x <;>exact hx.elim
 |outgrown=>cases x <;>exact hx.elim
theorem q09 (hE : EnvOK E) {fn : Func} {g : FuncId} {gf : Func} (hg : E.P.funcs[g]? = some gf) (hent : ka E.P g) (hi : ∀ r d t c, qkd gf = some (r, d, t, c) → E.P.underlying t = some (.interface (E.P.methodsAt t)))
  {Q:ARes→qa→Prop}: ∀(c:Code) (s:qc) (h:qa),(qly E F g gf c s h).holds E NC (fun e s h=>jx E fn.results.toList false F.n0 Q e s h)→
  ∀(w0:World) (I0:Nat→Nat→Prop) (μ0:Nat→Option Nat) (h0:qa),h0.length=F.n0→∀(w:World) (I:Nat→Nat→Prop) (μ:Nat→Option Nat) (a:Act),SR F w0 I0 μ0 h0 w I μ h a s→c.wp E.P (bodyPostD E.P fn (yr w0 I0 μ0 h0 Q)) a w:=by
 intro c
 have base: ∀(c:Code) (s:qc) (h:qa),(wa E F [] 12 0 c .out s h).holds E NC (fun e s h=>jx E fn.results.toList false F.n0 Q e s h)→
   ∀(w0:World) (I0:Nat→Nat→Prop) (μ0:Nat→Option Nat) (h0:qa),h0.length=F.n0→∀(w:World) (I:Nat→Nat→Prop) (μ:Nat→Option Nat) (a:Act),SR F w0 I0 μ0 h0 w I μ h a s→c.wp E.P (bodyPostD E.P fn (yr w0 I0 μ0 h0 Q)) a w:=by
  intro c s h hk w0 I0 μ0 h0 hn0 w I μ a S
  have o:=qb5 hE (fun e s h hh=>hh) hk
  unfold Ok at o
  exact Code.wp_mono (fun e a w hq=>q9y hE hn0 hq) (o w0 I0 μ0 h0 hn0 w I μ a S)
 induction c with
 | seq a b iha ihb =>
  intro s h hk w0 I0 μ0 h0 hn0 w I μ act S
  unfold qly at hk
  split at hk
  ·rename_i mk t hd
   unfold q81 at hd
   split at hd
   ·rename_i id ops
    split at hd
    ·rename_i mk' t' as ts ty pos aft hops
     split at hd
     ·rename_i hgd has
      cases hd
      obtain⟨opl⟩:=ops
      simp only at hops
      subst hops
      have has:as= #[]:=by
       obtain⟨l⟩:=as
       simp only at has
       subst has
       rfl
      subst has
      have hk:=qb6 (Kp:=fun s h=>(match lkp t s with
       | .fn (.func g') x c=>match Nat.beq g' g&&Nat.ble (x++c).length gf.ntmps with
        |true=>wa E ⟨F.nt,h.length,F.jn⟩ [] 12 0 b (dK E gf (x++c)) s h
        |false=> .fail 26
       |_=> .fail 27).holds E NC (fun e s h=>jx E fn.results.toList false F.n0 Q e s h)) (X:=fun _ _ _=> .fail 28) (Xp:=fun _ _ _=>False) (fun _ _ hh=>hh) (fun _ _ _ (hh:False)=>hh) hk
      refine wp_seq (wp_region_list ?_)
      unfold wpList
      rw [if_pos (by simp [Region.wanted,hgd])]
      refine .inl (qa3 hE S hk (fun a' w' I' μ' h' s' S' hh=> ?_) (fun _ _ _ _ _ _ _ _ _ _ hh=>hh.elim))
      split at hh
      ·rename_i g' x c hl
       split at hh
       ·rename_i hcond
        simp only [Bool.and_eq_true] at hcond
        obtain rfl:=Nat.eq_of_beq_eq_true hcond.1
        have hlen:(x++c).length≤gf.ntmps:=by simpa using hcond.2
        have rt:=S'.slots t
        rw [hl] at rt
        obtain⟨fa,fc,hfv,hcr⟩: ∃fa fc,a'.tmps.getD t undef= .func (.func g') fa fc∧qr w' I' h' μ' (fa++fc).toList (x++c):=by
         generalize hq:a'.tmps.getD t undef=q at rt
         cases rt with
         |fn _ fa fc _ _ ha hb h1 h2=>
          refine⟨fa,fc,rfl, ?_⟩
          have e1:qr w' I' h' μ' fa.toList x:=⟨by simpa using ha,fun k v c e1 e2=>h1 k v c (by simpa using e1) e2⟩
          have e2:qr w' I' h' μ' fc.toList c:=⟨by simpa using hb,fun k v c e1 e2=>h2 k v c (by simpa using e1) e2⟩
          simpa [Array.toList_append] using e1.app e2
        unfold wpList
        rw [if_pos (by simp [Region.wanted])]
        refine .inl ?_
        have hrun:(execOp a'.eval ⟨none,.defer { callee:= .value (.tmp t),args:= #[],argTypes:=ts },ty,pos,aft,none⟩).run E.P w'= .ok (.defer { target:= .fn (.func g') fc,args:=fa }) w':=by
         show(do pure (Next.defer (←resolve a'.eval { callee:= .value (.tmp t),args:= #[],argTypes:=ts } ty)):Sem Next).run E.P w'=_
         have hr:(resolve a'.eval { callee:= .value (.tmp t),args:= #[],argTypes:=ts } ty).run E.P w'= .ok { target:= .fn (.func g') fc,args:=fa } w':=by
          show(Deferred.ofValue (a'.eval (.tmp t)) (Array.map a'.eval #[])).run E.P w'=_
          rw [show a'.eval (.tmp t)= .func (.func g') fa fc from hfv]
          show Result.ok (⟨.fn (.func g') fc,fa++Array.map a'.eval #[]⟩:Deferred) w'=_
          simp
         rw [Sem.run_bind,hr]
         rfl
        unfold Oper.wp
        rw [hrun]
        show b.wp E.P (bodyPostD E.P fn (yr w0 I0 μ0 h0 Q)) { a' with defers:={ target:= .fn (.func g') fc,args:=fa }::a'.defers } w'
        rw [show a'.defers=[] from S'.nd]
        have S1:=S'.off (⟨.fn (.func g') fc,fa⟩:Deferred)
        have o:= @qb5 _ E _ (Dfr.mk [(⟨.fn (.func g') fc,fa⟩:Deferred)]) hE ⟨F.nt,h'.length,F.jn⟩ b _ (fun e s h=>(dK E gf (x++c) e s h).holds E NC (fun e s h=>jx E fn.results.toList false F.n0 Q e s h)) s' h' (fun _ _ _ hh=>hh) hh
        unfold Ok at o
        refine Code.wp_mono (fun e a2 w2 hq=> ?_) (o w' I' μ' h' rfl w' I' μ' _ S1)
        obtain⟨xx,I2,μ2,h2,s2,⟨R2,F2,M2,sl2,nt2,nd⟩,hx,hk2⟩:=hq
        have hcr2:=hcr.step' S'.rel F2 M2
        have nd:a2.defers=[{ target:= .fn (.func g') fc,args:=fa }]:=nd
        -- behind the closure
        have tail: ∀(u':FrameMode) (e:Ending) (w3:World),uv w2 I2 μ2 h2 (fun h3=>jx E fn.results.toList false F.n0 Q .ret s2 h3) e u' w3→
          (match e, u', w3 with
           | .returned _,u',w'=>Leaves E.P fn a2.tmps (yr w0 I0 μ0 h0 Q) [] (settle u') w'
           | .panicked chain,u',w'=>Leaves E.P fn a2.tmps (yr w0 I0 μ0 h0 Q) [] (raised u' chain) w'
           | .outgrown,_,w'=>yr w0 I0 μ0 h0 Q .outgrown w'):=by
         rintro u' e w3 ⟨v,h3,I3,μ3,rfl,hset,R3,F3,M3,hK3⟩
         show Leaves E.P fn a2.tmps (yr w0 I0 μ0 h0 Q) [] (settle u') w3
         rw [hset]
         have S3:SR F w0 I0 μ0 h0 w3 I3 μ3 h3 { a2 with defers:=[] } s2:=
          ⟨R3,(S'.fr.trans F2).trans F3,(S'.hm.trans M2).trans M3,fun i=>(sl2 i).step R2 F3 M3,nt2,rfl⟩
         exact @qjn _ E F w0 I0 h0 μ0 noDfr hE false fn Q w3 I3 μ3 h3 { a2 with defers:=[] } s2 .ret hn0 S3 (.inr rfl) (hn0▸hK3)
        have q3w:(xx= .normal∨xx= .ret)→Leaves E.P fn a2.tmps (yr w0 I0 μ0 h0 Q) a2.defers .returning w2:=by
         intro hxx
         rw [nd]
         refine leaves_cons (by simp) (qls hent fa fc w2) ?_
         have hkk:(qup E gf (x++c) none h2 fun h'=> .out .ret s2 h').holds E NC (fun e s h=>jx E fn.results.toList false F.n0 Q e s h):=by rcases hxx with rfl|rfl <;>exact hk2
         exact(q07 hE hg hi R2 hcr2 hlen (fin:=fun e s h=>jx E fn.results.toList false F.n0 Q e s h) (K:=fun h3=> .out .ret s2 h3) (Kp:=fun h3=>jx E fn.results.toList false F.n0 Q .ret s2 h3) (fun _ hh=>hh) hkk).mono fun e u' w3 hp=>tail u' e w3 hp
        cases e with
        |normal=>cases xx <;>first|exact q3w (.inl rfl)|exact hx.elim
        |ret=>cases xx <;>first|exact q3w (.inr rfl)|exact hx.elim
        | panic chain =>
         cases xx with
         |panic x'=>
          obtain⟨v,rfl,hr⟩:=hx
          show Leaves E.P fn a2.tmps (yr w0 I0 μ0 h0 Q) a2.defers (.panicking [{ v,recovered:=false }]) w2
          rw [nd]
          refine leaves_cons (by simp) (qls hent fa fc w2) ?_
          exact(q08 hE hg hi R2 hcr2 hlen (fin:=fun e s h=>jx E fn.results.toList false F.n0 Q e s h) (K:=fun h3=> .out .ret s2 h3) (Kp:=fun h3=>jx E fn.results.toList false F.n0 Q .ret s2 h3) (fun _ hh=>hh) hr hk2).mono fun e u' w3 hp=>tail u' e w3 hp
         |_=>exact hx.elim
        |exit i=>cases xx <;>first|exact hk2.elim|exact hx.elim
        |goto l=>cases xx <;>exact hx.elim
        |outgrown=>cases xx <;>exact hx.elim
       ·exact hh.elim
      ·exact hh.elim
     ·cases hd
    ·cases hd
   ·cases hd
  ·have o := qb5 hE (Kp := fun e s h => match e with
    | .normal=>(qly E F g gf b s h).holds E NC (fun e s h=>jx E fn.results.toList false F.n0 Q e s h)
    | .ret=>jx E fn.results.toList false F.n0 Q .ret s h
    | .panic v=>jx E fn.results.toList false F.n0 Q (.panic v) s h
    | .exit _=>False) (fun e s h hh=>by cases e <;>exact hh) hk
   unfold Ok at o
   refine wp_seq (Code.wp_mono (fun e a' w' hq=> ?_) (o w0 I0 μ0 h0 hn0 w I μ act S))
   obtain⟨x,I',μ',h',s',S',hx,hk'⟩:=hq
   cases e with
   |normal=>cases x <;>first|exact ihb s' h' hk' w0 I0 μ0 h0 hn0 w' I' μ' a' S'|exact hx.elim
   |ret=>cases x <;>first|exact q9y hE hn0 ⟨.ret,I',μ',h',s',S',hx,hk'⟩|exact hx.elim
   |panic ch=>cases x <;>first|exact q9y hE hn0 ⟨_,I',μ',h',s',S',hx,hk'⟩|exact hx.elim
   |exit i=>cases x <;>first|exact hk'.elim|exact hx.elim
   |goto l=>cases x <;>exact hx.elim
   |outgrown=>cases x <;>exact hx.elim
 |_=>exact fun s h hk=>base _ s h hk
noncomputable def Ent.runsD{U:Type}(E:Env)(fn:Func)(g:FuncId)(gf:Func)(es:List (Ent U))(u:U)(e:Ent U)(x:(xb (Sh.ty.tyL e.ins) (tyH e.hin)).den):Option (jb (qak e.outs)):=
 (qly E ⟨fn.ntmps,e.hin.length,false⟩ g gf (jo fn) (y8 0 (qd9.encL e.ins (qjc _ _ x))) (qi2 e.hin (qh1 _ _ x))).run u e.hin.length es [] (qxx E false fn.results.toList e.hin.length e.outs)
theorem jay{U R:Type}{u:U}{n0:Nat}{es:List (Ent U)}{fin:AX→qc→qa→Option R}{finP:AX→qc→qa→Prop}{r:R}(he:zj E u es)(hf: ∀e s h,fin e s h=some r→finP e s h):
  ∀(t:Tr),t.run u n0 es [] fin=some r→t.holds E NC finP:=by
 intro t
 induction t with
 |fail=>intro h;cases h
 | chk c t ih =>
  intro h
  have h:(@_root_.ite _ c.p c.d (t.run u n0 es [] fin) none)=some r:=h
  cases c with
  |mk p d=>
   cases d with
   |isTrue hp=>exact⟨hp,ih h⟩
   |isFalse hp=>cases h
 |ite b t e iht ihe=>
  intro h
  have h:(if b=true then t.run u n0 es [] fin else e.run u n0 es [] fin)=some r:=h
  refine ux (fun hb=>iht ?_) (fun hb=>ihe ?_)
  ·rw [if_pos hb] at h;exact h
  ·rw [if_neg (by rw [hb];simp)] at h;exact h
 |call g args h K ih=>intro hr;exact qag (fun x k hk=>ih x k hk) he hr
 |icall g args h K X ih ihx=>intro hr;exact gu (fun q v ws hk=>ih q v ws hk) (fun v h hk=>ihx v h hk) he hr
 |cut k s h K ih=>intro hr;cases hr
 |pick n K ih=>intro hr;exact fun j hj=>ih j ((qsk hr).2 j hj)
 |out e s h=>intro hr;exact hf _ _ _ hr
theorem jai{U:Type}{u:U}{fn:Func}{g:FuncId}{gf:Func}{e:Ent Unit}(es:List (Ent Unit))(hE:EnvOK E)(hf:E.P.funcs[e.f]? =some fn)(hb:fn.body.isSome=true)(hname:(fn.name== "runtime.NumGoroutine")=false)
  (hargs:Nat.ble e.ins.length fn.ntmps=true) (hg:E.P.funcs[g]? =some gf) (hgb:gf.body.isSome=true) (hgn:(gf.name== "runtime.NumGoroutine")=false)
  (hi: ∃t,(qkd gf).map (fun x=>x.2.2.1)=some t∧E.P.underlying t=some (.interface (E.P.methodsAt t)))
  (hes:zj E () es) (hG: ∀q,e.G () q=e.runsD E fn g gf es () q):e.Sound E ():=by
 intro x y hy
 rw [hG] at hy
 unfold qd0
 have hb':fn.body=some (jo fn):=by
  unfold jo
  cases hq:fn.body with
  |none=>rw [hq] at hb;cases hb
  |some c=>rfl
 unfold Ent.runsD at hy
 have hh:=jay (finP:=fun e' s h=>jx E fn.results.toList false e.hin.length (fun r k=>w8 e.outs y fun a z=>r=a.res z∧k=a.hs z) e' s h) hes (fun e' s h hy=>qta hy) _ hy
 unfold qh
 refine⟨⟨fn,hf,hb,hname⟩,fun w I μ vs R hv=>calls_of_wp_defers hf hb' ?_⟩
 have hl:(qd9.encL e.ins (qjc _ _ x)).length≤fn.ntmps:=by rw [qko];simpa using hargs
 have S:=qq0 (n:=fn.ntmps) (j:=false) R hv hl
 rw [qey] at S
 obtain⟨t,hi1,hi2⟩:=hi
 exact q09 hE hg ⟨gf,hg,hgb,hgn⟩ (fun r d t' c hc=>by rw [hc] at hi1;cases hi1;exact hi2) (jo fn) _ _ hh w I μ _ (by rw [qey]) w I μ _ S
end
end Go.AM
