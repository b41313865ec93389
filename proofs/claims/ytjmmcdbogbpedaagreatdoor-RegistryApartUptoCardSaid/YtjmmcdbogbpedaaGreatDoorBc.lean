import Derived.Test.YtjmmcdbogbpedaaGreatDoorBb
import Derived.Laws.Cover3
import Derived.Orders
namespace Go.AM
set_option linter.unusedSectionVars false
class Dfr where
  ds:List Deferred
instance noDfr:Dfr:=⟨[]⟩
variable [Lay]
inductive AX where
  |normal
  |exit (id:Nat)
  |ret
  |panic (v:AV)
inductive ARes where
  |ret (v:AV)
  |panic (v:AV)
def jfg(w:World)(I:Nat→Nat→Prop)(h:qa)(μ:Nat→Option Nat):Ending→ARes→Prop
  | .returned v,.ret x=>Rep w I h μ v x
  | .panicked chain,.panic x=> ∃v,chain=[{ v,recovered:=false }]∧Rep w I h μ v x
  |_,_=>False
def yr(w:World)(I:Nat→Nat→Prop)(μ:Nat→Option Nat)(h:qa)(Q:ARes→qa→Prop)(e:Ending)(w':World):Prop:=
  ∃r h' I' μ',Q r h'∧jfg w' I' h' μ' e r∧RelH w' I' μ' h'∧Fr w (Wr h μ) I w' (Wr h' μ') I'∧HM h μ h' μ'
def ka(P:Program)(f:FuncId):Prop:= ∃fn,P.funcs[f]? =some fn∧fn.body.isSome=true∧(fn.name== "runtime.NumGoroutine")=false
@[irreducible] def qh (E : Env) (f : FuncId) (args : List AV) (h : qa) (Q : ARes → qa → Prop) : Prop :=
  ka E.P f∧∀(w:World) (I:Nat→Nat→Prop) (μ:Nat→Option Nat) (vs:Array Value),RelH w I μ h→qr w I h μ vs.toList args→Calls E.P f vs w (yr w I μ h Q)
theorem qh.mono{E:Env}{f:FuncId}{args:List AV}{h:qa}{Q Q':ARes→qa→Prop}(c:qh E f args h Q)(hq: ∀r h',Q r h'→Q' r h'):qh E f args h Q':=by
  unfold qh at c ⊢
  exact⟨c.1,fun w I μ vs R hv=>(c.2 w I μ vs R hv).mono fun e w' ⟨r,h',I',μ',h1,h2⟩=>⟨r,h',I',μ',hq _ _ h1,h2⟩⟩
@[irreducible] def aIf (b:Bool) (p q:Prop):Prop:=(b=true→p)∧(b=false→q)
theorem ux{b:Bool}{p q:Prop}(hp:b=true→p)(hq:b=false→q):aIf b p q:=by unfold aIf;exact⟨hp,hq⟩
theorem v6{b:Bool}{p q:Prop}(h:aIf b p q):(b=true→p)∧(b=false→q):=by unfold aIf at h;exact h
section
universe u
variable {α:Sort u}
def nfV(v:AV)(K:AV→α):α:=
  match v with
  | .junk=>K .junk
  | .t=>K .t
  | .f=>K .f
  | .bool b=>K (.bool b)
  | .int k n=>K (.int k n)
  | .str s=>K (.str s)
  | .nilsl=>K .nilsl
  | .sl t l f=>K (.sl t l f)
  | .own t b f=>K (.own t b f)
  | .ptr b j=>K (.ptr b j)
  | .eptr t b i j=>K (.eptr t b i j)
  | .iptr t x j=>K (.iptr t x j)
  | .nilptr=>K .nilptr
  | .agg cs=>K (.agg cs)
  | .tup vs=>K (.tup vs)
  | .fn f a c=>K (.fn f a c)
  | .nilfn=>K .nilfn
  | .iface t v=>K (.iface t v)
  | .niliface=>K .niliface
  | .mptr b=>K (.mptr b)
  | .fmap k v l=>K (.fmap k v l)
theorem q4e(v:AV)(K:AV→α):nfV v K=K v:=by cases v <;>rfl
def nfL(l:List AV)(K:List AV→α):α:=
  match l with
  |[]=>K []
  |v::r=>nfV v fun v=>nfL r fun r=>K (v::r)
theorem qwg: ∀(l:List AV) (K:List AV→α),nfL l K=K l
  |[],_=>rfl
  |v::r,K=>by simp only [nfL,q4e,qwg r]
def qed(v:AV)(K:AV→α):α:=
  match v with
  | .agg cs=>nfL cs fun cs=>K (.agg cs)
  | .tup cs=>nfL cs fun cs=>K (.tup cs)
  | .fn f a c=>nfL a fun a=>nfL c fun c=>K (.fn f a c)
  |v=>nfV v K
theorem ym(v:AV)(K:AV→α):qed v K=K v:=by cases v <;>simp only [qed,q4e,qwg]
def qdp(l:List AV)(K:List AV→α):α:=
  match l with
  |[]=>K []
  |v::r=>qed v fun v=>qdp r fun r=>K (v::r)
theorem wv: ∀(l:List AV) (K:List AV→α),qdp l K=K l
  |[],_=>rfl
  |v::r,K=>by simp only [qdp,ym,wv r]
def nfR(v:AV)(K:AV→α):α:=
  match v with
  | .tup cs=>qdp cs fun cs=>K (.tup cs)
  |v=>qed v K
theorem qbt(v:AV)(K:AV→α):nfR v K=K v:=by cases v <;>simp only [nfR,ym,wv]
def nfB(b:AB)(K:AB→α):α:=
  match b with
  | .hole=>K .hole
  | .gone=>K .gone
  | .var cs=>nfL cs fun cs=>K (.var cs)
  | .arr t l f=>K (.arr t l f)
  | .mp k v l=>K (.mp k v l)
theorem jam(b:AB)(K:AB→α):nfB b K=K b:=by cases b <;>simp only [nfB,qwg]
def nfH(h:qa)(K:qa→α):α:=
  match h with
  |[]=>K []
  |b::r=>nfB b fun b=>nfH r fun r=>K (b::r)
theorem kv: ∀(h:qa) (K:qa→α),nfH h K=K h
  |[],_=>rfl
  |b::r,K=>by simp only [nfH,jam,kv r]
def nfN(n:Nat)(K:Nat→α):α:=
  match n with
  |0=>K 0|1=>K 1|2=>K 2|3=>K 3|4=>K 4|5=>K 5|6=>K 6|7=>K 7|8=>K 8|9=>K 9
  |10=>K 10|11=>K 11|12=>K 12|13=>K 13|14=>K 14|15=>K 15|16=>K 16|17=>K 17|18=>K 18|19=>K 19
  |20=>K 20|21=>K 21|22=>K 22|23=>K 23|24=>K 24|25=>K 25|26=>K 26|27=>K 27|28=>K 28|29=>K 29
  |n=>K n
theorem qrj(n:Nat)(K:Nat→α):nfN n K=K n:=by unfold nfN;split <;>rfl
end
def j6(E:Env)(s:qc):List Operand→List TypeId→List AV
  |x::xs,t::ts=>ev E s t x::j6 E s xs ts
  |_,_=>[]
def zb (ops : List Oper) (s : qc) (j : Nat) : Option (Nat × AV) :=
  match ops[j]? with
  | some o => match o.dst with
    |some d=>some (d,lkp d s)
    |none=>none
  |none=>none
def jw:AV:= .tup []
structure Fp where
  nt:Nat
  n0:Nat
  jn:Bool
def qa0 (F : Fp) (d : Option Nat) (v : AV) (s : qc) (h : qa) (K : qc → qa → Prop) : Prop :=
  match d with
  | some d => match Nat.blt d F.nt with
    |true=>K ((d,v)::s) h
    |false=>False
  |none=>K s h
def qy7(F:Fp)(d:Option Nat)(s:qc)(K:qc→qa→Prop)(X:AV→qc→qa→Prop)(r:ARes)(h:qa):Prop:=
  match r with
  | .ret v=>nfR v fun v=>nfH h fun h=>qa0 F d v s h K
  | .panic v=>X v s h
def q3q:BinOp→Option Bool
  | .eql=>some false
  | .neq=>some true
  |_=>none
def q0h (E : Env) (o : Oper) (s : qc) (h : qa) : Option (Bool × Nat) :=
  match o.op with
  | .binOp op t x (.const (.slice none 0 0)) _ =>
    match q3q op,(E.ti t).ud,ev E s t x with
    |some neg,.slice _,.sl _ l _=>some (neg,l.length)
    |some neg,.slice _,.nilsl=>some (neg,0)
    | some neg, .slice _, .own _ b _ => match qd h b with
      | .arr _ l _=>some (neg,l.length)
      |_=>none
    |_,_,_=>none
  |_=>none
def qk9 (E : Env) (o : Oper) (s : qc) : Option Nat :=
  match o.op with
  | .next x false => match ev E s 0 x with
    | .ptr b 0=>some b
    |_=>none
  |_=>none
def qcs(F:Fp)(d:Option Nat)(s:qc)(h:qa)(K:qc→qa→Prop)(b:Nat)(x:AB):Prop:=
  match x with
  | .mp (.pair .bool k) v l=>(l.tail=[]→qa0 F d (.tup [.f]) s h K)∧∀j,j<l.tail.length→qa0 F d (.tup [.t,.junk,.junk]) s (qe h b (.mp (.pair .bool k) v (qtj k v l j))) K
  |_=>False
def qju (E : Env) (F : Fp) (o : Oper) (s : qc) (h : qa) (K : qc → qa → Prop) (X : AV → qc → qa → Prop) : Prop :=
  match o.op with
  | .call { callee := .value fv, args := as, argTypes := ts } =>
    match Nat.beq as.size ts.size,ev E s 0 fv with
    | true, .fn (.func g) a c =>
      match E.raw.contains g with
      |true=>qdp (a++(j6 E s as.toList ts.toList++c)) fun vs=>qh E g vs h (qy7 F o.dst s K X)
      | false => qdp (a ++ (j6 E s as.toList ts.toList ++ c)) fun vs => qdp (vs.map (res (qd h))) fun ws =>
        nfH (qg h (frz (qd h) (qt vs))) fun h=>qh E g ws h (qy7 F o.dst s K X)
    |_,_=>False
  | .panic x => match ev E s 0 x with
    | .iface t v=>X (.iface t v) s h
    |_=>False
  | _ =>
    nfN h.length fun b0=>match fOp E o s h b0 with
    |some ⟨v,ws,cs⟩=>qnj cs (qed v fun v=>nfH (qg h ws) fun h=>qa0 F o.dst v s h K)
    | none => match q0h E o s h with
      |some (neg,n)=> ∀b:Bool,(b=true→n=0)→qa0 F o.dst (.bool (neg^^b)) s h K
      | none => match qk9 E o s with
        |some b=>qcs F o.dst s h K b (qd h b)
        |none=>False
def qjp (E : Env) (s : qc) (o : Oper) : Option (Nat × IntKind × Int × Nat) :=
  match o.op with
  | .indexAddr t x (.tmp d) => match (E.ti t).ud, ev E s 0 x, lkp d s with
    | .array n _,.ptr _ _,.int k z=>match Nat.ble n 16 with|true=>some (d,k,z,n)|false=>none
    |_,_,_=>none
  | .index t _ (.tmp d) => match (E.ti t).ud, lkp d s with
    | .array n _,.int k z=>match Nat.ble n 16 with|true=>some (d,k,z,n)|false=>none
    |_,_=>none
  |_=>none
def qqh(z:Int)(f:Int→Prop):Nat→Prop
  |0=>False
  |n+1=>aIf (decide (z=Int.ofNat n)) (f (Int.ofNat n)) (qqh z f n)
theorem qjv{z:Int}{f:Int→Prop}: ∀{n:Nat},qqh z f n→f z
  |0,h=>h.elim
  | n + 1, h => by
    obtain⟨h1,h2⟩:=v6 h
    cases hb:decide (z=Int.ofNat n) with
    |true=>have e:=of_decide_eq_true hb;have:=h1 hb;rw [←e] at this;exact this
    |false=>exact qjv (h2 hb)
def qnh(E:Env)(F:Fp)(o:Oper)(s:qc)(h:qa)(K:qc→qa→Prop)(X:AV→qc→qa→Prop):Prop:=
  match qjp E s o with
  |none=>qju E F o s h K X
  |some (d,k,z,n)=>qqh z (fun j=>qju E F o ((d,.int k j)::s) h K X) n
theorem qul{E:Env}{s:qc}{o:Oper}{d:Nat}{k:IntKind}{z:Int}{n:Nat}(h:qjp E s o=some (d,k,z,n)):lkp d s= .int k z:=by
  unfold qjp at h
  split at h
  · split at h
    · split at h
      · cases h;assumption
      · cases h
    · cases h
  · split at h
    · split at h
      · cases h;assumption
      · cases h
    · cases h
  · cases h
def qax (E : Env) (F : Fp) (ops : List Oper) (K : qc → qa → Prop) (X : AV → qc → qa → Prop) : List Oper → qc → qa → Prop
  |[],s,h=>K s h
  | o :: r, s, h =>
    match o.guard with
    |none=>qnh E F o s h (qax E F ops K X r) X
    | some (j, want) =>
      match zb ops s j with
      | some (d, v) =>
        match v,want with
        | .t,true=>qnh E F o s h (qax E F ops K X r) X
        | .f,false=>qnh E F o s h (qax E F ops K X r) X
        | .bool b,true=>aIf b (qnh E F o ((d,.t)::s) h (qax E F ops K X r) X) (qa0 F o.dst jw ((d,.f)::s) h (qax E F ops K X r))
        | .bool b,false=>aIf b (qa0 F o.dst jw ((d,.t)::s) h (qax E F ops K X r)) (qnh E F o ((d,.f)::s) h (qax E F ops K X r) X)
        | .t,false=>qa0 F o.dst jw s h (qax E F ops K X r)
        | .f,true=>qa0 F o.dst jw s h (qax E F ops K X r)
        | .tup [],_=>qa0 F o.dst jw s h (qax E F ops K X r)
        |_,_=>False
      |none=>False
section
variable {E:Env} {F:Fp} {w w0:World} {I I0:Nat→Nat→Prop} {h h0:qa} {μ μ0:Nat→Option Nat} {a:Act} {s:qc}
variable [Dfr]
structure SR (F:Fp) (w0:World) (I0:Nat→Nat→Prop) (μ0:Nat→Option Nat) (h0:qa) (w:World) (I:Nat→Nat→Prop) (μ:Nat→Option Nat) (h:qa) (a:Act) (s:qc):Prop where
  rel:RelH w I μ h
  fr:Fr w0 (Wr h0 μ0) I0 w (Wr h μ) I
  hm:HM h0 μ0 h μ
  slots:qy2 w I h μ a s
  nt:a.tmps.size=F.nt
  nd:a.defers=Dfr.ds
theorem SR.step{w':World}{I':Nat→Nat→Prop}{μ':Nat→Option Nat}{h':qa}(S:SR F w0 I0 μ0 h0 w I μ h a s)(R':RelH w' I' μ' h')(f:Fr w (Wr h μ) I w' (Wr h' μ') I')(m:HM h μ h' μ'):
    SR F w0 I0 μ0 h0 w' I' μ' h' a s:=
  ⟨R',S.fr.trans f,S.hm.trans m,fun i=>(S.slots i).step S.rel f m,S.nt,S.nd⟩
theorem SR.put{d:Nat}{v:Value}{x:AV}(S:SR F w0 I0 μ0 h0 w I μ h a s)(hd:d<F.nt)(r:Rep w I h μ v x):SR F w0 I0 μ0 h0 w I μ h (a.put (some d) v) ((d,x)::s):=by
  refine⟨S.rel,S.fr,S.hm,fun i=> ?_,by simp [Act.put,S.nt],S.nd⟩
  simp only [Act.put,lkp]
  cases hb:Nat.beq i d with
  | true =>
    obtain rfl:=Nat.eq_of_beq_eq_true hb
    simp only
    have:i<a.tmps.size:=by rw [S.nt];exact hd
    simpa [Array.getD_eq_getD_getElem?,this] using r
  | false =>
    have hne:d≠i:=by
      rintro rfl
      rw [Nat.beq_refl] at hb
      cases hb
    simp only
    have e:(a.tmps.setIfInBounds d v).getD i undef=a.tmps.getD i undef:=by
      simp only [Array.getD_eq_getD_getElem?,Array.getElem?_setIfInBounds_ne hne]
    rw [e]
    exact S.slots i
theorem SR.over{d:Nat}{x:AV}(S:SR F w0 I0 μ0 h0 w I μ h a s)(r:Rep w I h μ (a.tmps.getD d undef) x):SR F w0 I0 μ0 h0 w I μ h a ((d,x)::s):=by
  refine⟨S.rel,S.fr,S.hm,fun i=> ?_,S.nt,S.nd⟩
  simp only [lkp]
  cases hb:Nat.beq i d with
  |true=>obtain rfl:=Nat.eq_of_beq_eq_true hb;exact r
  |false=>exact S.slots i
def OQ'(F:Fp)(w0:World)(I0:Nat→Nat→Prop)(μ0:Nat→Option Nat)(h0:qa)(K:qc→qa→Prop)(X:AV→qc→qa→Prop)(e:Exit)(a:Act)(w:World):Prop:=
  ∃I μ h s,SR F w0 I0 μ0 h0 w I μ h a s∧((e= .normal∧K s h)∨∃v x,e= .panic [{ v,recovered:=false }]∧Rep w I h μ v x∧X x s h)
theorem qsm: ∀{cs:List DP} {p:Prop},q6d cs p→(∀c∈cs,c.p)∧p
  |[],p,h=>⟨fun _ hc=>by simp at hc,h⟩
  | c :: cs, p, h => by
    obtain⟨h1,h2⟩:=qsm h.2
    refine⟨fun d hd=> ?_,h2⟩
    rcases List.mem_cons.1 hd with e|e
    · subst e;exact h.1
    · exact h1 d e
theorem qj2{cs:List DP}{p:Prop}(h:qnj cs p):(∀c∈cs,c.p)∧p:=by
  apply qsm
  unfold qnj at h
  split at h <;>exact h
theorem zv{d:Option Nat}{v:Value}{x:AV}{K:qc→qa→Prop}(S:SR F w0 I0 μ0 h0 w I μ h a s)(r:Rep w I h μ v x)(hk:qa0 F d x s h K):
    ∃s',SR F w0 I0 μ0 h0 w I μ h (a.put d v) s'∧K s' h:=by
  unfold qa0 at hk
  cases d with
  |none=>exact⟨s,S,hk⟩
  | some d =>
    simp only at hk
    cases hb:Nat.blt d F.nt with
    | true =>
      rw [hb] at hk
      have hd:d<F.nt:=by simp only [Nat.blt,Nat.ble_eq] at hb;omega
      exact⟨_,S.put hd r,hk⟩
    |false=>rw [hb] at hk;exact hk.elim
theorem qct(hs:qy2 w I h μ a s): ∀(xs:List Operand) (ts:List TypeId),xs.length=ts.length→qr w I h μ (xs.map a.eval) (j6 E s xs ts)
  |[],[],_=>qr.nil
  |x::xs,t::ts,hl=>qr.cons (y5 hs t x) (qct hs xs ts (by simpa using hl))
  |[],_::_,hl=>by simp at hl
  |_::_,[],hl=>by simp at hl
theorem qr.app{v1 v2:List Value}{x1 x2:List AV}(r1:qr w I h μ v1 x1)(r2:qr w I h μ v2 x2):qr w I h μ (v1++v2) (x1++x2):=by
  refine⟨by simp [r1.1,r2.1],fun k v c e1 e2=> ?_⟩
  by_cases hk:k<v1.length
  · rw [List.getElem?_append_left hk] at e1
    rw [List.getElem?_append_left (by rw [←r1.1];exact hk)] at e2
    exact r1.2 k v c e1 e2
  · rw [List.getElem?_append_right (by omega)] at e1
    rw [List.getElem?_append_right (by rw [←r1.1];omega)] at e2
    rw [←r1.1] at e2
    exact r2.2 _ v c e1 e2
theorem qr.step'{w':World}{I':Nat→Nat→Prop}{μ':Nat→Option Nat}{h':qa}{vs:List Value}{as:List AV}(r:qr w I h μ vs as)(R:RelH w I μ h)(f:Fr w (Wr h μ) I w' (Wr h' μ') I')(m:HM h μ h' μ'):qr w' I' h' μ' vs as:=
  ⟨r.1,fun k v c e1 e2=>(r.2 k v c e1 e2).step R f m⟩
theorem qhb{P:Program}{dst:Option Tmp}{ty:TypeId}{pos:String}{aft:Array Edge}{gd:Option (Nat×Bool)}{fv:Operand}{as:Array Operand}{ts:Array TypeId}{g:FuncId}{fa fc:Array Value}
    (hfv:a.eval fv= .func (.func g) fa fc) (hent:ka P g):
    (execOp a.eval ⟨dst,.call { callee:= .value fv,args:=as,argTypes:=ts },ty,pos,aft,gd⟩).run P w= .ok (.enter g (fa++as.map a.eval++fc)) w:=by
  obtain⟨fn,h1,h2,h3⟩:=hent
  show(do let d←resolve a.eval { callee:= .value fv,args:=as,argTypes:=ts } ty;invoke d.target d.args:Sem Next).run P w=_
  have hr:(resolve a.eval { callee:= .value fv,args:=as,argTypes:=ts } ty).run P w= .ok { target:= .fn (.func g) fc,args:=fa++as.map a.eval } w:=by
    show(Deferred.ofValue (a.eval fv) (as.map a.eval)).run P w=_
    rw [hfv];rfl
  rw [Sem.run_bind,hr]
  show(callFunc g (fa++as.map a.eval++fc)).run P w=_
  unfold callFunc
  have hbn:fn.body.isNone=false:=by cases hb:fn.body <;>simp_all
  simp only [Sem.run_bind,run_program,Result.andThen_ok,h1,h3,hbn,Bool.false_eq_true,if_false,Sem.run_pure]
theorem qae (R : RelH w I μ h) {g : Nat → AB} {v : Value} {x : AV} (r : Rep w I h μ v x) (hfz : ∀ b ∈ jv x.cells, ∀ t l fr, g b = .arr t l fr → h[b]? = some (.arr t l false)) : Rep w I h μ v (res g x) := by
  have key: ∀c:AV,c∈x.cells→∀t b full,c= .own t b full→∀t' l fr,g b= .arr t' l fr→h[b]? =some (.arr t' l false):=by
    intro c hc t b full e
    subst e
    exact hfz b (qab _ _ _ _ hc)
  cases x with
  | agg cs =>
    cases r with
    | agg vs _ hl hc =>
      refine .agg vs _ (by simpa using hl) fun k v c e1 e2=> ?_
      rw [List.getElem?_map] at e2
      cases hq:cs[k]? with
      |none=>rw [hq] at e2;cases e2
      | some c0 =>
        rw [hq] at e2
        simp at e2
        subst e2
        exact qjm R (hc k v c0 e1 hq) (key c0 (List.mem_of_getElem? hq))
  |own t b full=>exact qjm R r (key _ (by simp [AV.cells]))
  |_=>exact r
theorem qwh (hE : EnvOK E) {o : Oper} {neg : Bool} {n : Nat} (S : SR F w0 I0 μ0 h0 w I μ h a s) (hn : q0h E o s h = some (neg, n)) :
    ∃b:Bool,(b=true→n=0)∧(execOp a.eval o).run E.P w= .ok (.value (.bool (neg^^b))) w:=by
  obtain⟨dst,op,ty,pos,aft,gd⟩:=o
  unfold q0h at hn
  simp only at hn
  split at hn
  · rename_i op t x u
    have go: ∀{neg:Bool} {e:TypeId} {q:Option Addr} {l c:Nat},q3q op=some neg→(E.ti t).ud= .slice e→a.eval x= .slice q l c→
        (execOp a.eval ⟨dst,.binOp op t x (.const (.slice none 0 0)) u,ty,pos,aft,gd⟩).run E.P w= .ok (.value (.bool (neg^^q.isNone))) w:=by
      intro neg e q l c ho hud hx
      have hu:=hE.und t (j7 (by rw [hud];rfl))
      rw [hud] at hu
      have hy:a.eval (.const (.slice none 0 0))= .slice none 0 0:=rfl
      have he:=run_equal_slice_nil (P:=E.P) w t e q l c hu
      unfold q3q at ho
      split at ho
      · cases ho
        refine v8 (by rw [hx,hy];rfl) ?_
        rw [hx,hy]
        show(do pure (Value.bool (←Op.equal t (.slice q l c) (.slice none 0 0))):Sem Value).run E.P w=_
        rw [Sem.run_bind,he]
        simp
      · cases ho
        refine v8 (by rw [hx,hy];rfl) ?_
        rw [hx,hy]
        show(do pure (Value.bool (!(←Op.equal t (.slice q l c) (.slice none 0 0)))):Sem Value).run E.P w=_
        rw [Sem.run_bind,he]
        simp
      · cases ho
    have r:=y5 (E:=E) S.slots t x
    split at hn
    · rename_i neg e t' l f ho hud hev
      cases hn
      rw [hev] at r
      generalize hq:a.eval x=q at r
      cases r with
      | sl _ _ _ ad m cap hr hf =>
        refine⟨ad.isNone,fun hb=> ?_,go ho hud hq⟩
        cases hr with
        | sl _ _ _ _ cs hcap hel hat =>
          cases hl:l.length with
          |zero=>rfl
          | succ k =>
            obtain⟨g,o,hg,_⟩:=hat (by omega)
            rw [hg] at hb
            cases hb
    · rename_i neg e ho hud hev
      cases hn
      rw [hev] at r
      generalize hq:a.eval x=q at r
      cases r
      exact⟨true,fun _=>rfl,go ho hud hq⟩
    · rename_i neg e t' b f ho hud hev
      rw [hev] at r
      split at hn
      · rename_i t2 l f2 hb
        cases hn
        obtain⟨ad,cap,hq,_,_,_,h5,_⟩:=yn (show GOK (qd h) h from fun b=> .inl rfl) r hb
        refine⟨ad.isNone,fun hb=> ?_,go ho hud hq⟩
        rcases h5 with⟨h5,_⟩|⟨q,us,e',h6,h7,_⟩
        · exact h5
        · rw [h7] at hb;cases hb
      · cases hn
    · cases hn
  · cases hn
theorem qwf {o : Oper} {b : Nat} {K : qc → qa → Prop} (S : SR F w0 I0 μ0 h0 w I μ h a s) (hn : qk9 E o s = some b) (hk : qcs F o.dst s h K b (qd h b)) :
    ∃v' w' h' μ' x,(execOp a.eval o).run E.P w= .ok (.value v') w'∧Rep w' I h' μ' v' x∧RelH w' I μ' h'∧Fr w (Wr h μ) I w' (Wr h' μ') I∧HM h μ h' μ'∧qa0 F o.dst x s h' K:=by
  obtain⟨dst,op,ty,pos,aft,gd⟩:=o
  unfold qk9 at hn
  simp only at hn
  split at hn
  · rename_i x
    split at hn
    · rename_i b' hev
      injection hn with hn
      subst hn
      have r:=y5 (E:=E) S.slots 0 x
      rw [hev] at r
      unfold qcs at hk
      split at hk
      · rename_i k v l hb
        obtain⟨v',w',x',h',μ',hrun,hr,hR,hF,hM,hx⟩:=S.rel.stepIt (ty:=ty) r (wm hb (by simp))
        refine⟨v',w',h',μ',x', ?_,hr,hR,hF,hM, ?_⟩
        · exact jk hrun
        · rcases hx with ⟨he, rfl, rfl⟩ | ⟨j, hj, rfl, rfl⟩
          · exact hk.1 he
          · exact hk.2 j hj
      · exact hk.elim
    · cases hn
  · cases hn
theorem qa3 (hE : EnvOK E) {o : Oper} {K : qc → qa → Prop} {X : AV → qc → qa → Prop} {next : Act → World → Prop} {Q : Exit → Act → World → Prop}
    (S:SR F w0 I0 μ0 h0 w I μ h a s) (hk:qju E F o s h K X)
    (hn: ∀a w I μ h s,SR F w0 I0 μ0 h0 w I μ h a s→K s h→next a w)
    (hQ: ∀a w I μ h s v x,SR F w0 I0 μ0 h0 w I μ h a s→Rep w I h μ v x→X x s h→Q (.panic [{ v,recovered:=false }]) a w):o.wp E.P a w next Q:=by
  have plain:(∀c,o.op≠.call c)∨(∃b as ts,o.op= .call { callee:= .builtin b,args:=as,argTypes:=ts })∨(∃r m as ts,o.op= .call { callee:= .invoke r m,args:=as,argTypes:=ts })→
      (nfN h.length fun b0=>match fOp E o s h b0 with
        |some ⟨v,ws,cs⟩=>qnj cs (qed v fun v=>nfH (qg h ws) fun h=>qa0 F o.dst v s h K)
        | none => match q0h E o s h with
          |some (neg,n)=> ∀b:Bool,(b=true→n=0)→qa0 F o.dst (.bool (neg^^b)) s h K
          | none => match qk9 E o s with
            |some b=>qcs F o.dst s h K b (qd h b)
            |none=>False)→o.wp E.P a w next Q:=by
    intro _ hk
    rw [qrj] at hk
    split at hk
    · rename_i v ws cs hf
      obtain⟨hc,hk⟩:=qj2 hk
      rw [ym,kv] at hk
      obtain⟨v',nx,w',I',μ',hrun,hnx,hr,hR,hF,hM⟩:=qol hE S.rel (Nat.le_refl _) (.inl (by simp)) S.slots hf hc
      have S':=S.step hR hF hM
      obtain⟨s',S'',hK⟩:=zv S' hr hk
      unfold Oper.wp
      rw [hrun]
      rcases hnx with rfl|⟨rfl,rfl⟩
      · exact hn _ _ _ _ _ _ S'' hK
      · exact hn _ _ _ _ _ _ S'' hK
    · split at hk
      · rename_i neg n hnt
        obtain⟨b,hb,hrun⟩:=qwh hE S hnt
        obtain⟨s',S'',hK⟩:=zv S (.bool _) (hk b hb)
        unfold Oper.wp
        rw [hrun]
        exact hn _ _ _ _ _ _ S'' hK
      · split at hk
        · rename_i b hnx
          obtain⟨v',w',h',μ',x,hrun,hr,hR,hF,hM,hk⟩:=qwf S hnx hk
          have S':=S.step hR hF hM
          obtain⟨s',S'',hK⟩:=zv S' hr hk
          unfold Oper.wp
          rw [hrun]
          exact hn _ _ _ _ _ _ S'' hK
        · exact hk.elim
  obtain⟨dst,op,ty,pos,aft,gd⟩:=o
  cases op with
  | call c =>
    obtain⟨cal,as,ts⟩:=c
    cases cal with
    |builtin b=>exact plain (.inr (.inl ⟨b,as,ts,rfl⟩)) hk
    |invoke r m=>exact plain (.inr (.inr ⟨r,m,as,ts,rfl⟩)) hk
    | value fv =>
      simp only [qju] at hk
      split at hk
      · rename_i g xa xc hsz hev
        have hsz:as.size=ts.size:=Nat.eq_of_beq_eq_true hsz
        have rf:=y5 (E:=E) S.slots 0 fv
        rw [hev] at rf
        obtain⟨fa,fc,hfv,hcr⟩: ∃fa fc,a.eval fv= .func (.func g) fa fc∧qr w I h μ (fa++as.map a.eval++fc).toList (xa++(j6 E s as.toList ts.toList++xc)):=by
          generalize hq:a.eval fv=q at rf
          cases rf with
          | fn _ fa fc _ _ ha hb h1 h2 =>
            refine⟨fa,fc,rfl, ?_⟩
            have e1:qr w I h μ fa.toList xa:=⟨by simpa using ha,fun k v c e1 e2=>h1 k v c (by simpa using e1) e2⟩
            have e2:qr w I h μ fc.toList xc:=⟨by simpa using hb,fun k v c e1 e2=>h2 k v c (by simpa using e1) e2⟩
            have e3:=qct (E:=E) S.slots as.toList ts.toList (by simpa using hsz)
            have:=e1.app (e3.app e2)
            simpa [Array.toList_append] using this
        have fin: ∀{vs:List AV} {w':World} {I':Nat→Nat→Prop} {μ':Nat→Option Nat} {h':qa},w'=w→SR F w0 I0 μ0 h0 w' I' μ' h' a s→qr w' I' h' μ' (fa++as.map a.eval++fc).toList vs→
            qh E g vs h' (qy7 F dst s K X)→Oper.wp E.P ⟨dst,.call { callee:= .value fv,args:=as,argTypes:=ts },ty,pos,aft,gd⟩ a w next Q:=by
          rintro vs w' I' μ' h' rfl S' hcr' hcall
          unfold qh at hcall
          obtain⟨hent,hcall⟩:=hcall
          unfold Oper.wp
          rw [qhb hfv hent]
          rw [Oper.upon_enter]
          refine(hcall _ _ _ _ S'.rel hcr').mono fun e w2 hp=> ?_
          obtain⟨r,h2,I2,μ2,hq,he,hR2,hF2,hM2⟩:=hp
          have S2:=S'.step hR2 hF2 hM2
          cases e with
          | returned v =>
            cases r with
            | ret x =>
              simp only [qy7,qbt,kv] at hq
              obtain⟨s',S3,hK⟩:=zv S2 he hq
              exact hn _ _ _ _ _ _ S3 hK
            |panic x=>exact he.elim
          | panicked chain =>
            cases r with
            |ret x=>exact he.elim
            | panic x =>
              obtain⟨v,rfl,he⟩:=he
              exact hQ _ _ _ _ _ _ v x S2 he hq
          |outgrown=>cases r <;>exact he.elim
        split at hk
        · rw [wv] at hk
          exact fin rfl S hcr hk
        · rw [wv, wv, kv] at hk
          obtain⟨I1,R1,F1,M1,_,hfz,_⟩:=g6 (qt (xa++(j6 E s as.toList ts.toList++xc))) I h S.rel (show qne (qd h) h from fun b=> .inl rfl)
          have S1:=S.step R1 F1 M1
          have hcr1:=hcr.step' S.rel F1 M1
          refine fin rfl S1 ⟨by simpa using hcr1.1,fun k v c e1 e2=> ?_⟩ hk
          rw [List.getElem?_map] at e2
          cases hq:(xa++(j6 E s as.toList ts.toList++xc))[k]? with
          |none=>rw [hq] at e2;cases e2
          | some c0 =>
            rw [hq] at e2
            simp at e2
            subst e2
            refine qae R1 (hcr1.2 k v c0 e1 hq) fun b hb t l fr hg=>hfz b ?_ t l fr hg
            exact vd _ c0 (List.mem_of_getElem? hq) b hb
      · exact hk.elim
  | panic x =>
    simp only [qju] at hk
    split at hk
    · rename_i t v hev
      have r:=y5 (E:=E) S.slots 0 x
      rw [hev] at r
      generalize hq:a.eval x=q at r
      cases r with
      | iface _ u _ hu =>
        unfold Oper.wp
        have hrun:(execOp a.eval ⟨dst,.panic x,ty,pos,aft,gd⟩).run E.P w= .halt (.panic (.iface t u)) w:=by
          show(do pure (Next.value (←Instr.panic (a.eval x))):Sem Next).run E.P w=_
          rw [hq]
          rfl
        rw [hrun]
        exact hQ _ _ _ _ _ _ (.iface t u) (.iface t v) S (.iface t u v hu) hk
    · exact hk.elim
  |_=>exact plain (.inl (fun c=>by simp)) hk
theorem qku{ops:Array Oper}{j d:Nat}{x:AV}(S:SR F w0 I0 μ0 h0 w I μ h a s)(hg:zb ops.toList s j=some (d,x)):
    yielded ops a.tmps j=(match a.tmps[d]? with|some (.bool b)=>some b|_=>none)∧Rep w I h μ (a.tmps.getD d undef) x:=by
  unfold zb at hg
  split at hg
  · rename_i o ho
    split at hg
    · rename_i d' hd
      cases hg
      refine⟨?_,S.slots d⟩
      have ho':ops[j]? =some o:=by simpa using ho
      simp only [yielded,ho',Option.bind_some,hd]
      rfl
    · cases hg
  · cases hg
theorem getD_some{a:Act}{d:Nat}{b:Bool}(h:a.tmps.getD d undef= .bool b):a.tmps[d]? =some (.bool b):=by
  rw [Array.getD_eq_getD_getElem?] at h
  cases hq:a.tmps[d]? with
  |none=>rw [hq] at h;cases h
  |some v=>rw [hq] at h;simp at h;rw [h]
theorem wn{ops:Array Oper}{j d:Nat}{x:AV}{b:Bool}(S:SR F w0 I0 μ0 h0 w I μ h a s)(hg:zb ops.toList s j=some (d,x))(hx:qnk x=some b):
    yielded ops a.tmps j=some b∧a.tmps.getD d undef= .bool b:=by
  obtain⟨h1,h2⟩:=qku S hg
  have h3:=qu h2 hx
  rw [getD_some h3] at h1
  exact⟨h1,h3⟩
theorem qvm(hE:EnvOK E){o:Oper}{K:qc→qa→Prop}{X:AV→qc→qa→Prop}{next:Act→World→Prop}{Q:Exit→Act→World→Prop}
    (S:SR F w0 I0 μ0 h0 w I μ h a s) (hk:qnh E F o s h K X)
    (hn: ∀a w I μ h s,SR F w0 I0 μ0 h0 w I μ h a s→K s h→next a w)
    (hQ: ∀a w I μ h s v x,SR F w0 I0 μ0 h0 w I μ h a s→Rep w I h μ v x→X x s h→Q (.panic [{ v,recovered:=false }]) a w):o.wp E.P a w next Q:=by
  unfold qnh at hk
  split at hk
  · exact qa3 hE S hk hn hQ
  · rename_i d k z n hs
    have hl:=qul hs
    have:=S.slots d
    rw [hl] at this
    exact qa3 hE (S.over this) (qjv hk) hn hQ
theorem uy (hE : EnvOK E) {ops : Array Oper} {K : qc → qa → Prop} {X : AV → qc → qa → Prop} : ∀ (l : List Oper) (a : Act) (w : World) (I : Nat → Nat → Prop) (μ : Nat → Option Nat) (h : qa) (s : qc),
    SR F w0 I0 μ0 h0 w I μ h a s→qax E F ops.toList K X l s h→wpList E.P ops (OQ' F w0 I0 μ0 h0 K X) l a w
  |[],a,w,I,μ,h,s,S,hk=>⟨I,μ,h,s,S,.inl ⟨rfl,hk⟩⟩
  | o :: r, a, w, I, μ, h, s, S, hk => by
    have run: ∀{s:qc},SR F w0 I0 μ0 h0 w I μ h a s→qnh E F o s h (qax E F ops.toList K X r) X→o.wp E.P a w (wpList E.P ops (OQ' F w0 I0 μ0 h0 K X) r) (OQ' F w0 I0 μ0 h0 K X):=by
      intro s S hk
      refine qvm hE S hk (fun a w I μ h s S hk=>uy hE r a w I μ h s S hk) (fun a w I μ h s v x S hr hx=>⟨I,μ,h,s,S,.inr ⟨v,x,rfl,hr,hx⟩⟩)
    have skip: ∀{s:qc},SR F w0 I0 μ0 h0 w I μ h a s→qa0 F o.dst jw s h (qax E F ops.toList K X r)→wpList E.P ops (OQ' F w0 I0 μ0 h0 K X) r (a.put o.dst undef) w:=by
      intro s S hk
      obtain⟨s',S',hK⟩:=zv (v:=undef) S (.tup #[] [] rfl (fun i v c h1 _=>by simp at h1)) hk
      exact uy hE r _ w I μ h s' S' hK
    have yes:Region.wanted o (yielded ops a.tmps)=true→o.wp E.P a w (wpList E.P ops (OQ' F w0 I0 μ0 h0 K X) r) (OQ' F w0 I0 μ0 h0 K X)→wpList E.P ops (OQ' F w0 I0 μ0 h0 K X) (o::r) a w:=by
      intro hw hwp
      unfold wpList
      rw [if_pos hw]
      exact .inl hwp
    have no:Region.wanted o (yielded ops a.tmps)=false→wpList E.P ops (OQ' F w0 I0 μ0 h0 K X) r (a.put o.dst undef) w→wpList E.P ops (OQ' F w0 I0 μ0 h0 K X) (o::r) a w:=by
      intro hw hwp
      unfold wpList
      rw [if_neg (by rw [hw];simp)]
      exact hwp
    simp only [qax] at hk
    split at hk
    · rename_i hg
      exact yes (by simp [Region.wanted,hg]) (run S hk)
    · rename_i j want hg
      have wanted: ∀q,yielded ops a.tmps j=q→Region.wanted o (yielded ops a.tmps)=(q==some want):=by
        intro q hq
        simp only [Region.wanted,hg,hq]
      split at hk
      · rename_i d v hgo
        split at hk
        · obtain ⟨hy, _⟩ := wn S hgo rfl
          exact yes (by rw [wanted _ hy];rfl) (run S hk)
        · obtain ⟨hy, _⟩ := wn S hgo rfl
          exact yes (by rw [wanted _ hy];rfl) (run S hk)
        · rename_i b
          obtain⟨hy,hv⟩:=wn (b:=b) S hgo rfl
          obtain⟨h1,h2⟩:=v6 hk
          cases b with
          |true=>exact yes (by rw [wanted _ hy];rfl) (run (S.over (by rw [hv];exact .t)) (h1 rfl))
          |false=>exact no (by rw [wanted _ hy];rfl) (skip (S.over (by rw [hv];exact .f)) (h2 rfl))
        · rename_i b
          obtain⟨hy,hv⟩:=wn (b:=b) S hgo rfl
          obtain⟨h1,h2⟩:=v6 hk
          cases b with
          |true=>exact no (by rw [wanted _ hy];rfl) (skip (S.over (by rw [hv];exact .t)) (h1 rfl))
          |false=>exact yes (by rw [wanted _ hy];rfl) (run (S.over (by rw [hv];exact .f)) (h2 rfl))
        · obtain ⟨hy, _⟩ := wn S hgo rfl
          exact no (by rw [wanted _ hy];rfl) (skip S hk)
        · obtain ⟨hy, _⟩ := wn S hgo rfl
          exact no (by rw [wanted _ hy];rfl) (skip S hk)
        · obtain ⟨h1, h2⟩ := qku S hgo
          have hy:yielded ops a.tmps j=none:=by
            rw [h1]
            generalize hq:a.tmps.getD d undef=q at h2
            cases h2 with
            | tup vs _ hl hc =>
              rw [Array.getD_eq_getD_getElem?] at hq
              cases hq2:a.tmps[d]? with
              |none=>rfl
              |some v=>rw [hq2] at hq;simp at hq;subst hq;rfl
          exact no (by rw [wanted _ hy];rfl) (skip S hk)
        · exact hk.elim
      · exact hk.elim
end
end Go.AM
namespace Go.AM
set_option linter.unusedSectionVars false
variable [Lay] [Dfr]
inductive Src where
  |old (m:Nat)
  |emp (t:Ty) (fr:Bool)
  |no (m:Nat)
def qx0:AB→Bool
  | .arr _ _ _=>true
  | .gone=>true
  |_=>false
def qb8(t':Ty)(l':List t'.den)(f':Bool)(t:Ty)(l:List t.den)(f:Bool):Prop:=
  match decEq t' t with
  |isTrue e=>(e▸l')=l∧(f'=f∨f=false)
  |isFalse _=>False
def gc(x:AV):AV→Prop
  | .bool b=>match x with| .t=>b=true| .f=>b=false| .bool a=>a=b|_=>False
  | .t=>match x with| .t=>True| .bool a=>a=true|_=>False
  | .f=>match x with| .f=>True| .bool a=>a=false|_=>False
  | .int k n=>match x with| .int k' n'=>k'=k∧n'=n|_=>False
  | .str l=>match x with| .str l'=>l'=l|_=>False
  | .sl t l f=>match x with| .sl t' l' f'=>qb8 t' l' f' t l f| .nilsl=>l=[]|_=>False
  |_=>False
def qv (ρ : List Src) (x : AV) : AV → Prop
  | .junk=>True
  | .own t k f => match ρ[k]? with
    |some (.old m)=>x= .own t m f∨(f=false∧x= .own t m true)
    |some (.emp t2 _)=>t2=t∧f=false∧(match x with| .nilsl=>True| .sl t' l f'=>t'=t∧l.length=0∧f'=true|_=>False)
    |_=>False
  | .ptr k j => match ρ[k]? with
    |some (.old m)=>x= .ptr m j
    |_=>False
  | .eptr t k i j => match ρ[k]? with
    |some (.old m)=>x= .eptr t m i j
    |_=>False
  | .mptr k => match ρ[k]? with
    |some (.old m)=>x= .mptr m
    |_=>False
  | .agg ys=>match x with| .agg xs=>viewL ρ xs ys|_=>False
  | .tup ys=>match x with| .tup xs=>viewL ρ xs ys|_=>False
  | .fn f as cs=>match x with| .fn f' as' cs'=>f'=f∧viewL ρ as' as∧viewL ρ cs' cs|_=>False
  | .iface t v=>match x with| .iface t' v'=>t'=t∧qv ρ v' v|_=>False
  | .bool b=>gc x (.bool b)
  | .t=>gc x .t
  | .f=>gc x .f
  | .int k n=>gc x (.int k n)
  | .str l=>gc x (.str l)
  | .sl t l f=>gc x (.sl t l f)
  |y=>x=y
where viewL (ρ:List Src) (xs:List AV):List AV→Prop
  |[]=>match xs with|[]=>True|_=>False
  | y :: ys => match xs with
    |x::xs=>qv ρ x y∧viewL ρ xs ys
    |[]=>False
def qiw(ρ:List Src)(x:AB):AB→Prop
  | .hole=>x= .hole
  | .gone=>True
  | .var ys=>match x with| .var xs=>qv.viewL ρ xs ys|_=>False
  | .arr t l fr=>x= .arr t l fr
  | .mp k v l=>x= .mp k v l
def qaw(ρ:List Src)(h:qa):List Src→qa→Prop
  |[],[]=>True
  | .old m::r,y::h'=>qiw ρ (qd h m) y∧qaw ρ h r h'
  | .emp t fr::r,y::h'=>y= .arr t [] fr∧qaw ρ h r h'
  | .no m::r,y::h'=>(y= .gone∧qx0 (qd h m)=true)∧qaw ρ h r h'
  |_,_=>False
def qyy(ρ:List Src)(s:qc):qc→Prop
  |[]=>True
  |(i,y)::r=>qv ρ (lkp i s) y∧qyy ρ s r
def qa6:Nat→Nat→List Src→qa→Bool
  |0,_,_,_=>true
  |n+1,k,.old m::r,y::h'=>Nat.beq m k&&(match y with| .gone=>false| .hole=>false|_=>true)&&qa6 n (k+1) r h'
  |n+1,k,.no m::r,_::h'=>Nat.beq m k&&qa6 n (k+1) r h'
  |_,_,_,_=>false
def inB(m:Nat):List Src→Bool
  |[]=>false
  | .old k::r=>Nat.beq k m||inB m r
  | .emp _ _::r=>inB m r
  | .no _::r=>inB m r
def xl:List Src→Bool
  |[]=>true
  | .emp _ _::r=>xl r
  | .no _::r=>xl r
  | .old m::r=> !inB m r&&xl r
def qdn(n0:Nat)(fz:List Nat)(ρ:List Src)(s:qc)(h:qa)(s':qc)(h':qa):Prop:=
  (qa6 n0 0 ρ h'&&xl ρ)=true∧qaw ρ (qg h (frz (qd h) fz)) ρ h'∧qyy ρ s s'
section
variable {F:Fp} {w w0:World} {I I0:Nat→Nat→Prop} {h h0 h':qa} {μ μ0:Nat→Option Nat} {a:Act} {s s':qc} {ρ:List Src}
theorem ut: ∀{r:List Src} {h':qa},qaw ρ h r h'→r.length=h'.length∧
    (∀(k m:Nat),r[k]? =some (.old m)→∃y,h'[k]? =some y∧qiw ρ (qd h m) y)∧(∀(k:Nat) (t:Ty) (fr:Bool),r[k]? =some (.emp t fr)→h'[k]? =some (.arr t [] fr))∧
    (∀(k m:Nat),r[k]? =some (.no m)→h'[k]? =some .gone∧qx0 (qd h m)=true)
  |[],[],_=>⟨rfl,fun k m h1=>by simp at h1,fun k t fr h1=>by simp at h1,fun k m h1=>by simp at h1⟩
  | .old m :: r, y :: h', hv => by
    obtain⟨h1,h2,h3,h4⟩:=ut hv.2
    refine⟨by simp [h1],fun k m' e=> ?_,fun k t fr e=> ?_,fun k m' e=> ?_⟩
    · cases k with
      |zero=>simp at e;subst e;exact⟨y,rfl,hv.1⟩
      |succ k=>exact h2 k m' (by simpa using e)
    · cases k with
      |zero=>simp at e
      |succ k=>exact h3 k t fr (by simpa using e)
    · cases k with
      |zero=>simp at e
      |succ k=>exact h4 k m' (by simpa using e)
  | .emp t0 fr0 :: r, y :: h', hv => by
    obtain⟨h1,h2,h3,h4⟩:=ut hv.2
    refine⟨by simp [h1],fun k m' e=> ?_,fun k t fr e=> ?_,fun k m' e=> ?_⟩
    · cases k with
      |zero=>simp at e
      |succ k=>exact h2 k m' (by simpa using e)
    · cases k with
      |zero=>simp at e;obtain⟨rfl,rfl⟩:=e;rw [hv.1];rfl
      |succ k=>exact h3 k t fr (by simpa using e)
    · cases k with
      |zero=>simp at e
      |succ k=>exact h4 k m' (by simpa using e)
  | .no m0 :: r, y :: h', hv => by
    obtain⟨h1,h2,h3,h4⟩:=ut hv.2
    refine⟨by simp [h1],fun k m' e=> ?_,fun k t fr e=> ?_,fun k m' e=> ?_⟩
    · cases k with
      |zero=>simp at e
      |succ k=>exact h2 k m' (by simpa using e)
    · cases k with
      |zero=>simp at e
      |succ k=>exact h3 k t fr (by simpa using e)
    · cases k with
      |zero=>simp at e;subst e;rw [hv.1.1];exact⟨rfl,hv.1.2⟩
      |succ k=>exact h4 k m' (by simpa using e)
  |[],_::_,hv=>hv.elim
  | .old _::_,[],hv=>hv.elim
  | .emp _ _::_,[],hv=>hv.elim
  | .no _::_,[],hv=>hv.elim
theorem qjh: ∀{r:List Src} {m k:Nat},r[k]? =some (.old m)→inB m r=true
  |[],_,_,h1=>by simp at h1
  | .old m' :: r, m, k, h1 => by
    cases k with
    |zero=>simp at h1;subst h1;simp [inB]
    |succ k=>simp [inB,qjh (r:=r) (k:=k) (by simpa using h1)]
  | .emp t _ :: r, m, k, h1 => by
    cases k with
    |zero=>simp at h1
    |succ k=>exact qjh (r:=r) (k:=k) (by simpa using h1)
  | .no _ :: r, m, k, h1 => by
    cases k with
    |zero=>simp at h1
    |succ k=>exact qjh (r:=r) (k:=k) (by simpa using h1)
theorem zy : ∀ {r : List Src}, xl r = true → ∀ (i j m : Nat), r[i]? = some (.old m) → r[j]? = some (.old m) → i = j
  |[],_,i,j,m,h1,_=>by simp at h1
  | .emp _ _ :: r, hn, i, j, m, h1, h2 => by
    cases i with
    |zero=>simp at h1
    | succ i =>
      cases j with
      |zero=>simp at h2
      | succ j =>
        have:=zy (r:=r) hn i j m (by simpa using h1) (by simpa using h2)
        omega
  | .no _ :: r, hn, i, j, m, h1, h2 => by
    cases i with
    |zero=>simp at h1
    | succ i =>
      cases j with
      |zero=>simp at h2
      | succ j =>
        have:=zy (r:=r) hn i j m (by simpa using h1) (by simpa using h2)
        omega
  | .old m' :: r, hn, i, j, m, h1, h2 => by
    simp only [xl,Bool.and_eq_true,Bool.not_eq_true'] at hn
    have hnot: ∀k:Nat,r[k]? ≠some (.old m'):=by
      intro k hk
      rw [qjh hk] at hn
      exact absurd hn.1 (by simp)
    cases i with
    | zero =>
      cases j with
      |zero=>rfl
      | succ j =>
        simp at h1 h2
        subst h1
        exact absurd h2 (hnot j)
    | succ i =>
      cases j with
      | zero =>
        simp at h1 h2
        subst h2
        exact absurd h1 (hnot i)
      | succ j =>
        have:=zy (r:=r) hn.2 i j m (by simpa using h1) (by simpa using h2)
        omega
theorem qg5: ∀{n k:Nat} {r:List Src} {h':qa},qa6 n k r h'=true→∀i,i<n→(r[i]? =some (.old (k+i))∧∃y,h'[i]? =some y∧j8 y)∨r[i]? =some (.no (k+i))
  |0,_,_,_,_,i,hi=>by omega
  | n + 1, k, .old m :: r, y :: h', hb, i, hi => by
    simp only [qa6,Bool.and_eq_true] at hb
    obtain⟨⟨h1,h2⟩,h3⟩:=hb
    have h1:m=k:=Nat.eq_of_beq_eq_true h1
    cases i with
    | zero =>
      refine .inl ⟨by simp [h1],y,rfl, ?_⟩
      cases y with
      |hole=>cases h2
      |gone=>cases h2
      |var=>trivial
      |arr=>trivial
      |mp=>trivial
    | succ i =>
      have:=qg5 (n:=n) (k:=k+1) h3 i (by omega)
      simpa [Nat.add_assoc,Nat.add_comm 1 i] using this
  | n + 1, k, .no m :: r, y :: h', hb, i, hi => by
    simp only [qa6,Bool.and_eq_true] at hb
    obtain⟨h1,h3⟩:=hb
    have h1:m=k:=Nat.eq_of_beq_eq_true h1
    cases i with
    |zero=>exact .inr (by simp [h1])
    | succ i =>
      have:=qg5 (n:=n) (k:=k+1) h3 i (by omega)
      simpa [Nat.add_assoc,Nat.add_comm 1 i] using this
  |n+1,k,[],_,hb,_,_=>by simp [qa6] at hb
  |n+1,k,.emp _ _::_,_,hb,_,_=>by simp [qa6] at hb
  |n+1,k,.old _::_,[],hb,_,_=>by simp [qa6] at hb
  |n+1,k,.no _::_,[],hb,_,_=>by simp [qa6] at hb
def wx(ρ:List Src)(μ:Nat→Option Nat):Nat→Option Nat:=fun k=>match ρ[k]? with|some (.old m)=>μ m|_=>none
structure HV (ρ:List Src) (h h':qa):Prop where
  len:ρ.length=h'.length
  old: ∀(k m:Nat),ρ[k]? =some (.old m)→∃y,h'[k]? =some y∧qiw ρ (qd h m) y
  emp: ∀(k:Nat) (t:Ty) (fr:Bool),ρ[k]? =some (.emp t fr)→h'[k]? =some (.arr t [] fr)
theorem HV.ptr(V:HV ρ h h'){k m g:Nat}(hk:ρ[k]? =some (.old m))(hp:zk h μ m g):zk h' (wx ρ μ) k g:=by
  obtain⟨x,hx,h1,h2⟩:=hp
  obtain⟨y,hy,hv⟩:=V.old k m hk
  rw [wu hx] at hv
  refine⟨y,hy, ?_,fun hg=> ?_⟩
  · rintro rfl
    exact h1 hv
  · simp only [wx, hk]
    refine h2 ?_
    rintro rfl
    cases y with
    |hole=>cases hv
    |gone=>exact hg rfl
    |var=>exact hv
    |arr=>cases hv
    |mp=>cases hv
theorem HV.own(V:HV ρ h h'){k m:Nat}{t:Ty}{full:Bool}{a:Option Addr}{n cap:Nat}(hk:ρ[k]? =some (.old m))(ho:qdt w h μ t m full a n cap):qdt w h' (wx ρ μ) t k full a n cap:=by
  obtain⟨x,hx,h1,h2⟩:=ho
  obtain⟨y,hy,hv⟩:=V.old k m hk
  rw [wu hx] at hv
  refine⟨y,hy, ?_, ?_⟩
  · rintro rfl
    exact h1 hv
  · rintro t' l fr rfl
    obtain⟨e1,e2,e3,e4,e5⟩:=h2 t' l fr hv
    refine⟨e1,e2,e3,e4, ?_⟩
    rcases e5 with e5|⟨g,vs,e,f1,f2,f3,f4⟩
    · exact .inl e5
    · exact .inr ⟨g,vs,e,by simp only [wx,hk];exact f1,f2,f3,f4⟩
theorem qw1(v:AV)(hs:(match v with| .bool _=>True| .t=>True| .f=>True| .int _ _=>True| .str _=>True| .sl _ _ _=>True|_=>False)):gc v v:=by
  cases v <;>first|exact hs.elim|trivial|rfl|exact⟨rfl,rfl⟩|skip
  rename_i t l f
  show qb8 t l f t l f
  unfold qb8
  split
  · rename_i e _
    exact⟨rfl,.inl rfl⟩
  · rename_i ne _
    exact ne rfl
theorem je {h' : qa} {μ' : Nat → Option Nat} {v : Value} {x y : AV} (ht : gc x y) (r : Rep w I h μ v x) : Rep w I h' μ' v y := by
  cases y with
  | bool b =>
    simp only [gc] at ht
    split at ht
    · cases r;subst ht;exact .bool _
    · cases r;subst ht;exact .bool _
    · cases r;subst ht;exact .bool _
    · exact ht.elim
  | t =>
    simp only [gc] at ht
    split at ht
    · cases r;exact .t
    · cases r;subst ht;exact .t
    · exact ht.elim
  | f =>
    simp only [gc] at ht
    split at ht
    · cases r;exact .f
    · cases r;subst ht;exact .f
    · exact ht.elim
  | int k n =>
    simp only [gc] at ht
    split at ht
    · cases r;obtain⟨rfl,rfl⟩:=ht;exact .int _ _
    · exact ht.elim
  | str l =>
    simp only [gc] at ht
    split at ht
    · cases r;subst ht;exact .str _
    · exact ht.elim
  | sl t l f =>
    simp only [gc] at ht
    split at ht
    · unfold qb8 at ht
      split at ht
      · rename_i e _
        subst e
        obtain⟨rfl,hf⟩:=ht
        cases r with
        | sl _ _ f' a n cap hr hf' =>
          refine .sl _ _ f a n cap hr fun h1=> ?_
          rcases hf with hf|hf
          · exact hf' (hf.trans h1)
          · rw [h1] at hf;cases hf
      · exact ht.elim
    · cases r
      subst ht
      exact .sl t [] f none 0 0 (.sl _ [] none 0 (fun _=>[]) (Nat.zero_le _) (fun i hi=>by simp at hi) (fun h0=>by simp at h0)) (fun _=>rfl)
    · exact ht.elim
  |_=>exact ht.elim
inductive VC (ρ:List Src):AV→AV→Prop where
  |tell (x y:AV) (ht:gc x y):VC ρ x y
  |junk (x:AV):VC ρ x .junk
  |same (x:AV) (hs:(match x with| .own _ _ _=>False| .ptr _ _=>False| .eptr _ _ _ _=>False| .agg _=>False| .tup _=>False| .fn _ _ _=>False| .iface _ _=>False| .mptr _=>False|_=>True)):VC ρ x x
  |own (t:Ty) (k m:Nat) (f:Bool) (hk:ρ[k]? =some (.old m)):VC ρ (.own t m f) (.own t k f)
  |ownW (t:Ty) (k m:Nat) (hk:ρ[k]? =some (.old m)):VC ρ (.own t m true) (.own t k false)
  |nil (t:Ty) (k:Nat) (fr:Bool) (hk:ρ[k]? =some (.emp t fr)):VC ρ .nilsl (.own t k false)
  |emp (t:Ty) (k:Nat) (fr:Bool) (l:List t.den) (hl:l.length=0) (hk:ρ[k]? =some (.emp t fr)):VC ρ (.sl t l true) (.own t k false)
  |ptr (k m j:Nat) (hk:ρ[k]? =some (.old m)):VC ρ (.ptr m j) (.ptr k j)
  |eptr (t:Ty) (k m i j:Nat) (hk:ρ[k]? =some (.old m)):VC ρ (.eptr t m i j) (.eptr t k i j)
  |mptr (k m:Nat) (hk:ρ[k]? =some (.old m)):VC ρ (.mptr m) (.mptr k)
  |agg (xs ys:List AV) (hl:xs.length=ys.length) (hv: ∀(i:Nat) (x y:AV),xs[i]? =some x→ys[i]? =some y→qv ρ x y):VC ρ (.agg xs) (.agg ys)
  |tup (xs ys:List AV) (hl:xs.length=ys.length) (hv: ∀(i:Nat) (x y:AV),xs[i]? =some x→ys[i]? =some y→qv ρ x y):VC ρ (.tup xs) (.tup ys)
  |fn (f:Fn) (as cs as' cs':List AV) (hl:as.length=as'.length) (hv: ∀(i:Nat) (x y:AV),as[i]? =some x→as'[i]? =some y→qv ρ x y) (hl2:cs.length=cs'.length)
      (hv2: ∀(i:Nat) (x y:AV),cs[i]? =some x→cs'[i]? =some y→qv ρ x y):VC ρ (.fn f as cs) (.fn f as' cs')
  |iface (t:TypeId) (v v':AV) (hv:qv ρ v v'):VC ρ (.iface t v) (.iface t v')
theorem yh: ∀(ys xs:List AV),qv.viewL ρ xs ys→xs.length=ys.length∧∀(i:Nat) (x y:AV),xs[i]? =some x→ys[i]? =some y→qv ρ x y
  |[],[],_=>⟨rfl,fun i x y h1=>by simp at h1⟩
  | y :: ys, x :: xs, hv => by
    simp only [qv.viewL] at hv
    obtain⟨h1,h2⟩:=yh ys xs hv.2
    refine⟨by simp [h1],fun i x' y' e1 e2=> ?_⟩
    cases i with
    |zero=>simp at e1 e2;subst e1;subst e2;exact hv.1
    |succ i=>exact h2 i x' y' (by simpa using e1) (by simpa using e2)
  |[],_::_,hv=>by simp [qv.viewL] at hv
  |_::_,[],hv=>by simp [qv.viewL] at hv
theorem jf {x y : AV} (hv : qv ρ x y) : VC ρ x y := by
  cases y with
  |junk=>exact .junk x
  | own t k f =>
    unfold qv at hv
    split at hv
    · rename_i m hk
      rcases hv with rfl|⟨rfl,rfl⟩
      · exact .own t k m f hk
      · exact .ownW t k m hk
    · rename_i t2 fr hk
      obtain⟨rfl,rfl,hx⟩:=hv
      split at hx
      · exact .nil _ k fr hk
      · obtain ⟨rfl, hl, rfl⟩ := hx
        exact .emp _ k fr _ hl hk
      · exact hx.elim
    · exact hv.elim
  | ptr k j =>
    unfold qv at hv
    split at hv
    · rename_i m hk;subst hv;exact .ptr k m j hk
    · exact hv.elim
  | eptr t k i j =>
    unfold qv at hv
    split at hv
    · rename_i m hk;subst hv;exact .eptr t k m i j hk
    · exact hv.elim
  | mptr k =>
    unfold qv at hv
    split at hv
    · rename_i m hk;subst hv;exact .mptr k m hk
    · exact hv.elim
  | agg ys =>
    unfold qv at hv
    split at hv
    · obtain⟨h1,h2⟩:=yh _ _ hv;exact .agg _ _ h1 h2
    · exact hv.elim
  | tup ys =>
    unfold qv at hv
    split at hv
    · obtain⟨h1,h2⟩:=yh _ _ hv;exact .tup _ _ h1 h2
    · exact hv.elim
  | fn f as cs =>
    unfold qv at hv
    split at hv
    · obtain ⟨rfl, ha, hb⟩ := hv
      obtain⟨h1,h2⟩:=yh _ _ ha
      obtain⟨h3,h4⟩:=yh _ _ hb
      exact .fn _ _ _ _ _ h1 h2 h3 h4
    · exact hv.elim
  | iface t v =>
    unfold qv at hv
    split at hv
    · obtain⟨rfl,hv⟩:=hv;exact .iface _ _ _ hv
    · exact hv.elim
  |bool b=>unfold qv at hv;exact .tell _ _ hv
  |t=>unfold qv at hv;exact .tell _ _ hv
  |f=>unfold qv at hv;exact .tell _ _ hv
  |int k n=>unfold qv at hv;exact .tell _ _ hv
  |str l=>unfold qv at hv;exact .tell _ _ hv
  |sl t l f=>unfold qv at hv;exact .tell _ _ hv
  |_=>unfold qv at hv;subst hv;exact .same _ trivial
theorem HV.rep(V:HV ρ h h'){v:Value}{x:AV}(r:Rep w I h μ v x): ∀{y:AV},qv ρ x y→Rep w I h' (wx ρ μ) v y:=by
  have lists: ∀{xs ys:List AV} (vs:Array Value),vs.size=xs.length→(∀(i:Nat) (v:Value) (c:AV),vs[i]? =some v→xs[i]? =some c→∀{y:AV},qv ρ c y→Rep w I h' (wx ρ μ) v y)→
      xs.length=ys.length→(∀(i:Nat) (x y:AV),xs[i]? =some x→ys[i]? =some y→qv ρ x y)→∀(i:Nat) (v:Value) (c:AV),vs[i]? =some v→ys[i]? =some c→Rep w I h' (wx ρ μ) v c:=by
    intro xs ys vs hl hc hxy hv i v c e1 e2
    have hi:i<xs.length:=by
      have:=(List.getElem?_eq_some_iff.1 e2).1
      omega
    have e3:xs[i]? =some xs[i]:=List.getElem?_eq_getElem hi
    exact hc i v _ e1 e3 (hv i _ c e3 e2)
  induction r with
  | agg vs cs hl hc ih =>
    intro y hv
    cases jf hv with
    |tell _ _ ht=>exact je (w:=w) (I:=I) (h:=h) (μ:=μ) ht (.agg vs cs hl hc)
    |junk=>exact .junk _
    |same _ hs=>exact hs.elim
    |agg _ ys hl' hv'=>exact .agg vs ys (hl.trans hl') (lists vs hl ih hl' hv')
  | tup vs cs hl hc ih =>
    intro y hv
    cases jf hv with
    |tell _ _ ht=>exact je (w:=w) (I:=I) (h:=h) (μ:=μ) ht (.tup vs cs hl hc)
    |junk=>exact .junk _
    |same _ hs=>exact hs.elim
    |tup _ ys hl' hv'=>exact .tup vs ys (hl.trans hl') (lists vs hl ih hl' hv')
  | fn f as cs xs ys ha hb h1 h2 ih1 ih2 =>
    intro y hv
    cases jf hv with
    |tell _ _ ht=>exact je (w:=w) (I:=I) (h:=h) (μ:=μ) ht (.fn f as cs xs ys ha hb h1 h2)
    |junk=>exact .junk _
    |same _ hs=>exact hs.elim
    |fn _ _ _ as' cs' hl hv1 hl2 hv2=>exact .fn f as cs as' cs' (ha.trans hl) (hb.trans hl2) (lists as ha ih1 hl hv1) (lists cs hb ih2 hl2 hv2)
  | iface t v x hx ih =>
    intro y hv
    cases jf hv with
    |tell _ _ ht=>exact je (w:=w) (I:=I) (h:=h) (μ:=μ) ht (.iface t v x hx)
    |junk=>exact .junk _
    |same _ hs=>exact hs.elim
    |iface _ _ v' hv'=>exact .iface t v v' (ih hv')
  | ptr b j g hp =>
    intro y hv
    cases jf hv with
    |tell _ _ ht=>exact je (w:=w) (I:=I) (h:=h) (μ:=μ) ht (.ptr b j g hp)
    |junk=>exact .junk _
    |same _ hs=>exact hs.elim
    |ptr k _ _ hk=>exact .ptr k j g (V.ptr hk hp)
  | mptr b g hp =>
    intro y hv
    cases jf hv with
    |tell _ _ ht=>exact je (w:=w) (I:=I) (h:=h) (μ:=μ) ht (.mptr b g hp)
    |junk=>exact .junk _
    |same _ hs=>exact hs.elim
    |mptr k _ hk=>exact .mptr k g (V.ptr hk hp)
  | eptr t b i j g hp =>
    intro y hv
    cases jf hv with
    |tell _ _ ht=>exact je (w:=w) (I:=I) (h:=h) (μ:=μ) ht (.eptr t b i j g hp)
    |junk=>exact .junk _
    |same _ hs=>exact hs.elim
    |eptr _ k _ _ _ hk=>exact .eptr t k i j g (V.ptr hk hp)
  | own t b full a n cap ho =>
    intro y hv
    cases jf hv with
    |tell _ _ ht=>exact je (w:=w) (I:=I) (h:=h) (μ:=μ) ht (.own t b full a n cap ho)
    |junk=>exact .junk _
    |same _ hs=>exact hs.elim
    |own _ k _ _ hk=>exact .own t k full a n cap (V.own hk ho)
    | ownW _ k _ hk =>
      obtain⟨x,h1,h2,h3⟩:=V.own hk ho
      refine .own t k false a n cap ⟨x,h1,h2,fun t' l fr e=> ?_⟩
      obtain⟨q1,q2,q3,_,q5⟩:=h3 t' l fr e
      exact⟨q1,q2,q3,fun hf=>(by cases hf),q5⟩
  | nilsl =>
    intro y hv
    cases jf hv with
    |tell _ _ ht=>exact je (w:=w) (I:=I) (h:=h) (μ:=μ) ht (.nilsl)
    |junk=>exact .junk _
    |same _ hs=>exact .nilsl
    | nil t k fr0 hk =>
      refine .own t k false none 0 0 ⟨_,V.emp k t fr0 hk,by simp,fun t' l fr e=> ?_⟩
      cases e
      exact⟨rfl,rfl,Nat.le_refl _,fun hf=>(by cases hf),.inl ⟨rfl,rfl⟩⟩
  | sl t l full a n cap hr hf =>
    intro y hv
    cases jf hv with
    |tell _ _ ht=>exact je (w:=w) (I:=I) (h:=h) (μ:=μ) ht (.sl t l full a n cap hr hf)
    |junk=>exact .junk _
    |same _ hs=>exact .sl t l full a n cap hr hf
    | emp _ k fr0 _ hl hk =>
      have hn:n=l.length:=by cases hr;rfl
      have hcap:cap=0:=by rw [hf rfl,hn,hl]
      subst hcap
      have hn0:n=0:=hn.trans hl
      subst hn0
      refine .own t k false a 0 0 ⟨_,V.emp k t fr0 hk,by simp,fun t' l' fr e=> ?_⟩
      cases e
      exact⟨rfl,rfl,Nat.le_refl _,fun hf=>(by cases hf),.inl ⟨rfl,rfl⟩⟩
  | junk v =>
    intro y hv
    cases jf hv with
    |tell _ _ ht=>exact je (w:=w) (I:=I) (h:=h) (μ:=μ) ht (.junk v)
    |junk=>exact .junk _
    |same _ hs=>exact .junk _
  | iptr t x j g o cs hr hc =>
    intro y hv
    cases jf hv with
    |tell _ _ ht=>exact je (w:=w) (I:=I) (h:=h) (μ:=μ) ht (.iptr t x j g o cs hr hc)
    |junk=>exact .junk _
    |same _ hs=>exact .iptr t x j g o cs hr hc
  | fmap k v l g es c hi hg hd =>
    intro y hv
    cases jf hv with
    |tell _ _ ht=>exact je (w:=w) (I:=I) (h:=h) (μ:=μ) ht (.fmap k v l g es c hi hg hd)
    |junk=>exact .junk _
    |same _ hs=>exact .fmap k v l g es c hi hg hd
  | t => intro y hv; cases jf hv with
    |tell _ _ ht=>exact je (w:=w) (I:=I) (h:=h) (μ:=μ) ht (.t)
    |junk=>exact .junk _
    |same _ hs=>exact .t
  | f => intro y hv; cases jf hv with
    |tell _ _ ht=>exact je (w:=w) (I:=I) (h:=h) (μ:=μ) ht (.f)
    |junk=>exact .junk _
    |same _ hs=>exact .f
  | bool b => intro y hv; cases jf hv with
    |tell _ _ ht=>exact je (w:=w) (I:=I) (h:=h) (μ:=μ) ht (.bool b)
    |junk=>exact .junk _
    |same _ hs=>exact .bool b
  | int k n => intro y hv; cases jf hv with
    |tell _ _ ht=>exact je (w:=w) (I:=I) (h:=h) (μ:=μ) ht (.int k n)
    |junk=>exact .junk _
    |same _ hs=>exact .int k n
  | str l => intro y hv; cases jf hv with
    |tell _ _ ht=>exact je (w:=w) (I:=I) (h:=h) (μ:=μ) ht (.str l)
    |junk=>exact .junk _
    |same _ hs=>exact .str l
  | nilptr => intro y hv; cases jf hv with
    |tell _ _ ht=>exact je (w:=w) (I:=I) (h:=h) (μ:=μ) ht (.nilptr)
    |junk=>exact .junk _
    |same _ hs=>exact .nilptr
  | nilfn => intro y hv; cases jf hv with
    |tell _ _ ht=>exact je (w:=w) (I:=I) (h:=h) (μ:=μ) ht (.nilfn)
    |junk=>exact .junk _
    |same _ hs=>exact .nilfn
  | niliface => intro y hv; cases jf hv with
    |tell _ _ ht=>exact je (w:=w) (I:=I) (h:=h) (μ:=μ) ht (.niliface)
    |junk=>exact .junk _
    |same _ hs=>exact .niliface
theorem qh4: ∀{s':qc},qyy ρ s s'→∀i,lkp i s'= .junk∨qv ρ (lkp i s) (lkp i s')
  |[],_,i=> .inl rfl
  | (j, y) :: r, hv, i => by
    simp only [lkp]
    cases hb:Nat.beq i j with
    | true =>
      obtain rfl:=Nat.eq_of_beq_eq_true hb
      exact .inr hv.1
    |false=>exact qh4 hv.2 i
theorem wz{x y:AB}(hv:qiw ρ x y)(ly:j8 y):j8 x:=by
  cases y with
  |hole=>cases ly
  |gone=>cases ly
  |var ys=>cases x <;>first|trivial|exact hv.elim
  |arr t l f=>obtain rfl:=hv;trivial
  |mp k v l=>obtain rfl:=hv;trivial
theorem qhe{b:Nat}(hl:j8 (qd h b)):h[b]? =some (qd h b):=wm rfl (by intro e;rw [e] at hl;cases hl)
theorem ql3 {h1 : qa} (R : RelH w I μ h1) (hH : qaw ρ h1 ρ h') (hnd : xl ρ = true) : RelH w I (wx ρ μ) h' ∧ (∀ q o, Wr h' (wx ρ μ) q o → Wr h1 μ q o) ∧ HV ρ h1 h' := by
  obtain⟨hlen,hold,hemp,hnon⟩:=ut hH
  have HVh:HV ρ h1 h':=⟨hlen,hold,hemp⟩
  -- where a block of the new q7m comes from
  have src: ∀(i:Nat) (y:AB),h'[i]? =some y→j8 y→(∃m,ρ[i]? =some (.old m)∧h1[m]? =some (qd h1 m)∧qiw ρ (qd h1 m) y)∨(∃t fr,ρ[i]? =some (.emp t fr)∧y= .arr t [] fr):=by
    intro i y hy ly
    have hi:i<ρ.length:=by
      have:=(List.getElem?_eq_some_iff.1 hy).1
      omega
    cases hq:ρ[i]? with
    |none=>rw [List.getElem?_eq_getElem hi] at hq;cases hq
    | some q =>
      cases q with
      | old m =>
        left
        obtain⟨y',hy',hv⟩:=hold i m hq
        rw [hy] at hy';cases hy'
        exact⟨m,rfl,qhe (wz hv ly),hv⟩
      | emp t fr =>
        right
        have:=hemp i t fr hq
        rw [hy] at this;cases this
        exact⟨t,_,rfl,rfl⟩
      | no m =>
        have:=(hnon i m hq).1
        rw [hy] at this;cases this
        exact ly.elim
  have hWr: ∀q o,Wr h' (wx ρ μ) q o→Wr h1 μ q o:=by
    rintro q o ⟨i,hi,hx⟩
    have: ∃y,h'[i]? =some y∧j8 y:=by
      rcases hx with⟨cs,hx⟩|⟨t',l',hx⟩|⟨t',l',hx,_⟩|⟨_,_,_,hx⟩
      · exact⟨_,hx,trivial⟩
      · exact⟨_,hx,trivial⟩
      · exact⟨_,hx,trivial⟩
      · exact⟨_,hx,trivial⟩
    obtain⟨y,hy,ly⟩:=this
    rcases src i y hy ly with⟨m,hm,hm2,hv⟩|⟨t,_,hm,_⟩
    · simp only [wx, hm] at hi
      refine⟨m,hi, ?_⟩
      rw [hm2]
      rcases hx with⟨cs,hx⟩|⟨t',l',hx⟩|⟨t',l',hx,ho⟩|⟨_,_,_,hx⟩ <;>rw [hy] at hx <;>cases hx
      · generalize qd h1 m = x at hv
        cases x <;>first|exact .inl ⟨_,rfl⟩|exact hv.elim
      · have hv : qd h1 m = _ := hv
        rw [hv];exact .inr (.inl ⟨_,_,rfl⟩)
      · have hv : qd h1 m = _ := hv
        rw [hv];exact .inr (.inr (.inl ⟨_,_,rfl,ho⟩))
      · have hv : qd h1 m = _ := hv
        rw [hv];exact .inr (.inr (.inr ⟨_,_,_,rfl⟩))
    · simp only [wx,hm] at hi;cases hi
  refine⟨⟨?_, ?_, ?_,fun q o hi hw=>R.disj q o hi (hWr q o hw),R.ilt,R.laid⟩,hWr,HVh⟩
  · intro i j x y g hi hj lx ly gi gj
    rcases src i x hi lx with⟨m,hm,hm2,hv⟩|⟨t,_,hm,_⟩
    · rcases src j y hj ly with ⟨m', hm', hm2', hv'⟩ | ⟨t, _, hm', _⟩
      · simp only [wx, hm] at gi
        simp only [wx,hm'] at gj
        have:=R.inj m m' _ _ g hm2 hm2' (wz hv lx) (wz hv' ly) gi gj
        subst this
        exact zy hnd i j m hm hm'
      · simp only [wx,hm'] at gj;cases gj
    · simp only [wx,hm] at gi;cases gi
  · intro i x g hi lx gi
    rcases src i x hi lx with⟨m,hm,hm2,hv⟩|⟨t,_,hm,_⟩
    · simp only [wx, hm] at gi
      exact R.lt m _ g hm2 (wz hv lx) gi
    · simp only [wx,hm] at gi;cases gi
  · intro i y hy
    cases y with
    |hole=>trivial
    |gone=>trivial
    | var ys =>
      rcases src i _ hy trivial with⟨m,hm,hm2,hv⟩|⟨t,_,hm,he⟩
      · have hb := R.blk m _ hm2
        generalize qd h1 m=x at hv hb
        cases x with
        | var xs =>
          obtain⟨g,vs,e,h1',h2,h3,h4⟩:=hb
          obtain⟨e1,e2⟩:=yh ys xs hv
          refine⟨g,vs,e,by simp only [wx,hm];exact h1',h2,h3.trans e1,fun k v c hvk hck=> ?_⟩
          have hk:k<xs.length:=by
            have:=(List.getElem?_eq_some_iff.1 hck).1
            omega
          have e3:xs[k]? =some xs[k]:=List.getElem?_eq_getElem hk
          exact HVh.rep (h4 k v _ hvk e3) (e2 k _ c e3 hck)
        |_=>exact hv.elim
      · cases he
    | arr t l f =>
      rcases src i _ hy trivial with⟨m,hm,hm2,hv⟩|⟨t',_,hm,he⟩
      · have hb := R.blk m _ hm2
        have hv:qd h1 m= .arr t l f:=hv
        rw [hv] at hb
        rcases hb with hb|⟨g,vs,e,h1',h2⟩
        · exact .inl hb
        · exact .inr ⟨g,vs,e,by simp only [wx,hm];exact h1',h2⟩
      · cases he;exact .inl rfl
    | mp k v l =>
      rcases src i _ hy trivial with⟨m,hm,hm2,hv⟩|⟨t',_,hm,he⟩
      · have hb := R.blk m _ hm2
        have hv:qd h1 m= .mp k v l:=hv
        rw [hv] at hb
        exact uc.mono (by simp only [wx,hm]) (fun _ _=>rfl) (fun _ _ h=>h) (fun _ _=>rfl) hb
      · cases he
theorem qdn.sr2 {fz : List Nat} (S : SR F w0 I0 μ0 h0 w I μ h a s) (hn0 : h0.length = F.n0) (V : qdn F.n0 fz ρ s h s' h') : ∃ I' μ', SR F w0 I0 μ0 h0 w I' μ' h' a s' ∧ ∀ g o, I g o → I' g o := by
  obtain⟨hB,hH,hS⟩:=V
  simp only [Bool.and_eq_true] at hB
  obtain⟨hbase,hnd⟩:=hB
  obtain⟨I1,R1,F1,M1,_,_,_⟩:=g6 fz I h S.rel (show qne (qd h) h from fun b=> .inl rfl)
  have S1:=S.step R1 F1 M1
  have hII:=F1.im
  clear R1 F1 M1
  generalize qg h (frz (qd h) fz)=h1 at S1 hH
  obtain⟨R2,hWr,HVh⟩:=ql3 S1.rel hH hnd
  obtain⟨_,hold,_,hnon⟩:=ut hH
  refine⟨I1,wx ρ μ,⟨R2, ?_, ?_, ?_,S1.nt,S1.nd⟩,hII⟩
  · exact⟨S1.fr.os,S1.fr.tape,S1.fr.output,S1.fr.size,S1.fr.same,S1.fr.part,S1.fr.nf,fun q o hw=>S1.fr.wr q o (hWr q o hw),S1.fr.im,S1.fr.im'⟩
  · have base : ∀ b, b < h0.length → (ρ[b]? = some (.old b) ∧ ∃ y, h'[b]? = some y ∧ j8 y ∧ h1[b]? = some (qd h1 b) ∧ qiw ρ (qd h1 b) y) ∨ (h'[b]? = some .gone ∧ qx0 (qd h1 b) = true) := by
      intro b hb
      rcases qg5 hbase b (by omega) with⟨e1,y,hy,ly⟩|e1
      · rw [Nat.zero_add] at e1
        obtain⟨y',hy',hv⟩:=hold b b e1
        rw [hy] at hy';cases hy'
        exact .inl ⟨e1,y,hy,ly,qhe (wz hv ly),hv⟩
      · rw [Nat.zero_add] at e1
        exact .inr (hnon b b e1)
    refine⟨fun b x hx=> ?_,fun b x y hx hy lx ly=> ?_⟩
    · have hb : b < h0.length := (List.getElem?_eq_some_iff.1 hx).1
      rcases base b hb with⟨e1,y,hy,ly,hz,hv⟩|⟨hy,hg⟩
      case inr=>
        refine⟨_,hy, ?_⟩
        obtain⟨z,hz',k⟩:=S1.hm.kept b x hx
        have hz0:qd h1 b=z:=wu hz'
        rw [hz0] at hg
        cases x with
        |hole=>trivial
        |gone=>rfl
        |var cs=>obtain⟨cs',rfl⟩:=k;cases hg
        |mp kt vt l=>exact .inl rfl
        |arr t l f=>exact .inl rfl
      refine⟨y,hy, ?_⟩
      obtain⟨z,hz',k⟩:=S1.hm.kept b x hx
      rw [hz] at hz';injection hz' with hz'
      rw [hz'] at hv
      cases x with
      |hole=>trivial
      | gone =>
        obtain rfl:=k
        cases y with
        |hole=>cases ly
        |gone=>rfl
        |var=>exact hv.elim
        |arr=>cases hv
        |mp=>cases hv
      | var cs =>
        obtain⟨cs',rfl⟩:=k
        cases y with
        |hole=>cases ly
        |gone=>cases ly
        |var ys=>exact⟨ys,rfl⟩
        |arr=>cases hv
        |mp=>cases hv
      | mp kt vt l =>
        rcases k with rfl|⟨l',rfl⟩
        · cases y with
          |hole=>cases ly
          |gone=>cases ly
          |var=>exact hv.elim
          |arr=>cases hv
          |mp=>cases hv
        · cases y with
          |hole=>cases ly
          |gone=>cases ly
          |var=>exact hv.elim
          |arr=>cases hv
          |mp=>cases hv;exact .inr ⟨_,rfl⟩
      | arr t l f =>
        rcases k with rfl|⟨l',f',rfl,hl⟩
        · cases y with
          |hole=>cases ly
          |gone=>cases ly
          |var=>exact hv.elim
          |arr=>cases hv
          |mp=>cases hv
        · cases y with
          |hole=>cases ly
          |gone=>cases ly
          |var=>exact hv.elim
          |arr=>cases hv;exact .inr ⟨_,_,rfl,hl⟩
          |mp=>cases hv
    · have hb : b < h0.length := (List.getElem?_eq_some_iff.1 hx).1
      rcases base b hb with⟨e1,y',hy',ly',hz,hv⟩|⟨hy',hg⟩
      case inr=>rw [hy] at hy';cases hy';exact ly.elim
      rw [hy] at hy';cases hy'
      have:=S1.hm.mu b x _ hx hz lx (wz hv ly)
      simp only [wx,e1]
      exact this
  · intro i
    rcases qh4 hS i with e|e
    · rw [e];exact .junk _
    · exact HVh.rep (S1.slots i) e
theorem qdn.sr{fz:List Nat}(S:SR F w0 I0 μ0 h0 w I μ h a s)(hn0:h0.length=F.n0)(V:qdn F.n0 fz ρ s h s' h'): ∃I' μ',SR F w0 I0 μ0 h0 w I' μ' h' a s':=by
  obtain⟨I',μ',S',_⟩:=V.sr2 S hn0
  exact⟨I',μ',S'⟩
end
end Go.AM
namespace Go.AM
set_option linter.unusedSectionVars false
variable [Lay] [Dfr]
def unN(ρ:List Nat)(n k:Nat):Nat:=match ρ[k]? with|some m=>m|none=>n+(k-ρ.length)
def unV(ρ:List Nat)(n:Nat):AV→AV
  | .own t b f=> .own t (unN ρ n b) f
  | .ptr b j=> .ptr (unN ρ n b) j
  | .mptr b=> .mptr (unN ρ n b)
  | .eptr t b i j=> .eptr t (unN ρ n b) i j
  | .agg cs=> .agg (unL cs)
  | .tup cs=> .tup (unL cs)
  | .fn f as cs=> .fn f (unL as) (unL cs)
  | .iface t v=> .iface t (unV ρ n v)
  |v=>v
where unL:List AV→List AV
  |[]=>[]
  |v::r=>unV ρ n v::unL r
def unB(ρ:List Nat)(n:Nat):AB→AB
  | .var cs=> .var (unV.unL ρ n cs)
  |x=>x
def unH(ρ:List Nat)(n:Nat):Nat→qa→List (Nat×AB)
  |_,[]=>[]
  |k,x::r=>(unN ρ n k,unB ρ n x)::unH ρ n (k+1) r
def unR(ρ:List Nat)(n:Nat):ARes→ARes
  | .ret v=> .ret (unV ρ n v)
  | .panic v=> .panic (unV ρ n v)
def qis:qa→Bool
  |[]=>true
  | .hole::_=>false
  | .gone::_=>false
  |_::r=>qis r
section
variable {E:Env} {F:Fp} {w w' w0:World} {I I' I0:Nat→Nat→Prop} {h h0 h' hs hs':qa} {μ μ' μ0 ν:Nat→Option Nat} {a:Act} {s s':qc} {ρ:List Nat} {n:Nat}
theorem qow: ∀{h:qa},qis h=true→∀(k:Nat) (x:AB),h[k]? =some x→j8 x
  |[],_,k,x,hx=>by simp at hx
  | y :: r, hl, k, x, hx => by
    cases k with
    | zero =>
      simp at hx
      subst hx
      cases y <;>first|trivial|(simp [qis] at hl)
    | succ k =>
      refine qow (h:=r) ?_ k x (by simpa using hx)
      cases y <;>first|exact hl|(simp [qis] at hl)
theorem qdb: ∀(l:List AV),(unV.unL ρ n l).length=l.length
  |[]=>rfl
  |v::r=>by simp [unV.unL,qdb r]
theorem qda: ∀(l:List AV) (i:Nat),(unV.unL ρ n l)[i]? =(l[i]?).map (unV ρ n)
  |[],i=>by simp [unV.unL]
  |v::r,0=>by simp [unV.unL]
  |v::r,i+1=>by simpa [unV.unL] using qda r i
theorem qqz(v:AB): ∀(h:qa) (b:Nat),b<h.length→(qe h b v).length=h.length
  |[],_,hb=>by simp at hb
  |x::r,0,_=>by simp [qe]
  |x::r,b+1,hb=>by simpa [qe] using qqz v r b (by simpa using hb)
theorem qtc(v:AB): ∀(h:qa),(qe h h.length v).length=h.length+1
  |[]=>rfl
  |x::r=>by simpa [qe] using qtc v r
theorem qyu(hnd:xl (ρ.map Src.old)=true)(hlt: ∀m∈ρ,m<n){i j:Nat}(h:unN ρ n i=unN ρ n j):i=j:=by
  have lt: ∀i m,ρ[i]? =some m→m<n:=fun i m hm=>hlt m (List.mem_of_getElem? hm)
  have ge: ∀{i:Nat},ρ[i]? =none→ρ.length≤i:=fun hi=>List.getElem?_eq_none_iff.1 hi
  unfold unN at h
  cases hi:ρ[i]? with
  | some m =>
    rw [hi] at h
    simp only at h
    cases hj:ρ[j]? with
    | some m' =>
      rw [hj] at h
      simp only at h
      subst h
      exact zy hnd i j m (by simp [hi]) (by simp [hj])
    | none =>
      rw [hj] at h
      simp only at h
      have:=lt i m hi
      omega
  | none =>
    rw [hi] at h
    simp only at h
    cases hj:ρ[j]? with
    | some m' =>
      rw [hj] at h
      simp only at h
      have:=lt j m' hj
      omega
    | none =>
      rw [hj] at h
      simp only at h
      have:=ge hi
      have:=ge hj
      omega
theorem qjq{k m:Nat}(hk:ρ[k]? =some m):unN ρ n k=m:=by simp [unN,hk]
theorem qr8{k:Nat}(hk:ρ.length≤k):unN ρ n k=n+(k-ρ.length):=by simp [unN,List.getElem?_eq_none_iff.2 hk]
theorem qyt (hnd : xl (ρ.map Src.old) = true) (hlt : ∀ m ∈ ρ, m < n) : ∀ (r : qa) (k : Nat) (hc : qa), hc.length = n + (k - ρ.length) →
    (∀(j:Nat) (y:AB),r[j]? =some y→(qg hc (unH ρ n k r))[unN ρ n (k+j)]? =some (unB ρ n y))∧(∀b,(∀j,j<r.length→unN ρ n (k+j)≠b)→(qg hc (unH ρ n k r))[b]? =hc[b]?)
  |[],k,hc,_=>⟨fun j y hj=>by simp at hj,fun b _=>rfl⟩
  | x :: r, k, hc, hl => by
    have hle:unN ρ n k≤hc.length∧(qe hc (unN ρ n k) (unB ρ n x)).length=n+(k+1-ρ.length):=by
      by_cases hk:k<ρ.length
      · have e : ρ[k]? = some ρ[k] := List.getElem?_eq_getElem hk
        rw [qjq e]
        have:=hlt ρ[k] (List.getElem_mem hk)
        rw [qqz _ _ _ (by omega)]
        omega
      · rw [qr8 (by omega), ← hl, qtc]
        omega
    obtain⟨ih1,ih2⟩:=qyt hnd hlt r (k+1) (qe hc (unN ρ n k) (unB ρ n x)) hle.2
    have e0:(qe hc (unN ρ n k) (unB ρ n x))[unN ρ n k]? =some (unB ρ n x):=by rw [qi _ _ _ _ hle.1,if_pos rfl]
    refine⟨fun j y hj=> ?_,fun b hb=> ?_⟩
    · cases j with
      | zero =>
        simp at hj
        subst hj
        simp only [unH,qg,Nat.add_zero]
        rw [ih2 _ fun j hj e=>by have:=qyu hnd hlt e;omega]
        exact e0
      | succ j =>
        have:=ih1 j y (by simpa using hj)
        simp only [unH,qg]
        rwa [show k+(j+1)=k+1+j by omega]
    · simp only [unH, qg]
      rw [ih2 b fun j hj e=>hb (j+1) (by simpa using hj) (by rw [←e];congr 1;omega)]
      rw [qi _ _ _ _ hle.1,if_neg]
      rintro rfl
      exact hb 0 (by simp) rfl
def WrB(x:Option AB)(o:Nat):Prop:=(∃cs,x=some (.var cs))∨(∃t l,x=some (.arr t l true))∨(∃t l,x=some (.arr t l false)∧l.length*t.sz≤o)∨(∃k v l,x=some (.mp k v l))
theorem q5r{z:AB}{o:Nat}(hx:WrB (some (unB ρ n z)) o):WrB (some z) o:=by
  unfold WrB at*
  cases z with
  |hole=>rcases hx with⟨_,hx⟩|⟨_,_,hx⟩|⟨_,_,hx,_⟩|⟨_,_,_,hx⟩ <;>cases hx
  |gone=>rcases hx with⟨_,hx⟩|⟨_,_,hx⟩|⟨_,_,hx,_⟩|⟨_,_,_,hx⟩ <;>cases hx
  |mp k v l=>exact hx
  |var cs=>exact .inl ⟨_,rfl⟩
  |arr t l f=>exact hx
theorem qyl{h:qa}{b o:Nat}{y:AB}(hy:h[b]? =some y)(hx:WrB (h[b]?) o):WrB (some y) o:=hy▸hx
theorem ur{y:AB}(l:j8 (unB ρ n y)):j8 y:=by cases y <;>first|trivial|exact l
theorem ja2(P1: ∀(k:Nat) (y:AB),hs[k]? =some y→h[unN ρ n k]? =some (unB ρ n y))(P2: ∀(k:Nat) (y:AB),hs[k]? =some y→μ (unN ρ n k)=ν k){v:Value}{x:AV}
    (r:Rep w I hs ν v x):Rep w I h μ v (unV ρ n x):=by
  have own: ∀{t:Ty} {b:Nat} {full:Bool} {a:Option Addr} {m cap:Nat},qdt w hs ν t b full a m cap→qdt w h μ t (unN ρ n b) full a m cap:=by
    rintro t b full a m cap ⟨x,hx,h1,h2⟩
    refine⟨unB ρ n x,P1 b x hx, ?_, ?_⟩
    · cases x <;>simp [unB] at h1 ⊢
    · intro t' l fr e
      have e:x= .arr t' l fr:=by cases x <;>simp [unB] at e ⊢ <;>exact e
      have:=h2 t' l fr e
      rw [P2 b x hx]
      exact this
  have ptr: ∀{b g:Nat},zk hs ν b g→zk h μ (unN ρ n b) g:=by
    rintro b g ⟨x,hx,h1,h2⟩
    refine⟨unB ρ n x,P1 b x hx, ?_,fun hg=> ?_⟩
    · cases x <;>simp [unB] at h1 ⊢
    · rw [P2 b x hx]
      refine h2 ?_
      rintro rfl
      exact hg rfl
  induction r with
  |junk v=>exact .junk v
  |t=>exact .t
  |f=>exact .f
  |bool b=>exact .bool b
  |int k n=>exact .int k n
  |str l=>exact .str l
  |nilsl=>exact .nilsl
  |sl t l full a n cap hr hf=>exact .sl t l full a n cap hr hf
  |own t b full a n cap ho=>exact .own t _ full a n cap (own ho)
  |ptr b j g hp=>exact .ptr _ j g (ptr hp)
  |eptr t b i j g hp=>exact .eptr t _ i j g (ptr hp)
  |iptr t x j g o cs hr hcs=>exact .iptr t x j g o cs hr hcs
  |nilptr=>exact .nilptr
  | agg vs cs hl hcs ih =>
    refine .agg vs _ (by rw [qdb];exact hl) fun i v c e1 e2=> ?_
    rw [qda] at e2
    cases hq:cs[i]? with
    |none=>rw [hq] at e2;cases e2
    |some c0=>rw [hq] at e2;simp at e2;subst e2;exact ih i v c0 e1 hq
  | tup vs cs hl hcs ih =>
    refine .tup vs _ (by rw [qdb];exact hl) fun i v c e1 e2=> ?_
    rw [qda] at e2
    cases hq:cs[i]? with
    |none=>rw [hq] at e2;cases e2
    |some c0=>rw [hq] at e2;simp at e2;subst e2;exact ih i v c0 e1 hq
  | fn f as cs xs ys ha hb h1 h2 ih1 ih2 =>
    refine .fn f as cs _ _ (by rw [qdb];exact ha) (by rw [qdb];exact hb) (fun i v c e1 e2=> ?_) (fun i v c e1 e2=> ?_)
    · rw [qda] at e2
      cases hq:xs[i]? with
      |none=>rw [hq] at e2;cases e2
      |some c0=>rw [hq] at e2;simp at e2;subst e2;exact ih1 i v c0 e1 hq
    · rw [qda] at e2
      cases hq:ys[i]? with
      |none=>rw [hq] at e2;cases e2
      |some c0=>rw [hq] at e2;simp at e2;subst e2;exact ih2 i v c0 e1 hq
  |nilfn=>exact .nilfn
  |iface t v x hv ih=>exact .iface t v _ ih
  |niliface=>exact .niliface
  |mptr b g hp=>exact .mptr _ g (ptr hp)
  |fmap k v l g es c hi hg hd=>exact .fmap k v l g es c hi hg hd
theorem qwb {Is : Nat → Nat → Prop} (R : RelH w I μ h) (hl : qis hs = true) (hnd : xl (ρ.map Src.old) = true) (hv : qaw (ρ.map Src.old) h (ρ.map Src.old) hs)
    {ν':Nat→Option Nat} (R':RelH w' Is ν' hs') (fr:Fr w (Wr hs (wx (ρ.map Src.old) μ)) I w' (Wr hs' ν') Is) (m:HM hs (wx (ρ.map Src.old) μ) hs' ν'):
    ∃ μ'', (∀ (v : Value) (x : AV), Rep w' Is hs' ν' v x → Rep w' Is (qg h (unH ρ h.length 0 hs')) μ'' v (unV ρ h.length x)) ∧ RelH w' Is μ'' (qg h (unH ρ h.length 0 hs')) ∧
      Fr w (Wr h μ) I w' (Wr (qg h (unH ρ h.length 0 hs')) μ'') Is∧HM h μ (qg h (unH ρ h.length 0 hs')) μ'':=by
  obtain⟨Rs,hWr,V⟩:=ql3 R hv hnd
  have hlen:ρ.length=hs.length:=by have:=V.len;simpa using this
  -- the few as they were
  have few: ∀(k m:Nat),ρ[k]? =some m→∃y,hs[k]? =some y∧j8 y∧qiw (ρ.map Src.old) (qd h m) y∧h[m]? =some (qd h m)∧j8 (qd h m):=by
    intro k m hk
    obtain⟨y,hy,hvy⟩:=V.old k m (by simp [hk])
    have ly:=qow hl k y hy
    have lx:=wz hvy ly
    exact⟨y,hy,ly,hvy,qhe lx,lx⟩
  have hlt: ∀m∈ρ,m<h.length:=by
    intro m hm
    obtain⟨k,hk⟩:=List.getElem?_of_mem hm
    obtain⟨_,_,_,_,e,_⟩:=few k m hk
    exact(List.getElem?_eq_some_iff.1 e).1
  have inj: ∀{i j:Nat},unN ρ h.length i=unN ρ h.length j→i=j:=fun e=>qyu hnd hlt e
  have hnu: ∀(k m:Nat),ρ[k]? =some m→wx (ρ.map Src.old) μ k=μ m:=fun k m hk=>by simp [wx,hk]
  have hnu0: ∀(k g:Nat),wx (ρ.map Src.old) μ k=some g→∃m,ρ[k]? =some m∧μ m=some g:=by
    intro k g hg
    cases hk:ρ[k]? with
    |none=>simp [wx,hk] at hg
    |some m=>exact⟨m,rfl,by rw [←hnu k m hk];exact hg⟩
  have hN:hs.length≤hs'.length:=by
    rcases Nat.lt_or_ge hs'.length hs.length with h1|h1
    · obtain ⟨y, hy, _⟩ := m.kept hs'.length hs[hs'.length] (List.getElem?_eq_getElem h1)
      simp at hy
    · exact h1
  obtain⟨g1,g2⟩:=qyt hnd hlt hs' 0 h (by simp)
  simp only [Nat.zero_add] at g1 g2
  generalize qg h (unH ρ h.length 0 hs')=h'' at g1 g2
  classical
  let μ'':Nat→Option Nat:=fun b=>if hb: ∃k,k<hs'.length∧unN ρ h.length k=b then ν' hb.choose else μ b
  have mu1: ∀k,k<hs'.length→μ'' (unN ρ h.length k)=ν' k:=by
    intro k hk
    have hb: ∃j,j<hs'.length∧unN ρ h.length j=unN ρ h.length k:=⟨k,hk,rfl⟩
    show(if hb:_ then _ else _)=_
    rw [dif_pos hb]
    rw [inj hb.choose_spec.2]
  have mu2: ∀b,(∀k,k<hs'.length→unN ρ h.length k≠b)→μ'' b=μ b:=by
    intro b hb
    show(if hb:_ then _ else _)=_
    rw [dif_neg]
    rintro⟨k,h1,h2⟩
    exact hb k h1 h2
  have P2: ∀(k:Nat) (y:AB),hs'[k]? =some y→μ'' (unN ρ h.length k)=ν' k:=fun k y hy=>mu1 k (List.getElem?_eq_some_iff.1 hy).1
  -- a block of the many, behind it
  have qhh: ∀(b:Nat) (y:AB),h''[b]? =some y→(∃k z,b=unN ρ h.length k∧hs'[k]? =some z∧y=unB ρ h.length z)∨((∀k,k<hs'.length→unN ρ h.length k≠b)∧h[b]? =some y):=by
    intro b y hy
    by_cases hb: ∃k,k<hs'.length∧unN ρ h.length k=b
    · obtain ⟨k, hk, rfl⟩ := hb
      have:=g1 k _ (List.getElem?_eq_getElem hk)
      rw [this] at hy
      cases hy
      exact .inl ⟨k,_,rfl,List.getElem?_eq_getElem hk,rfl⟩
    · have hb' : ∀ k, k < hs'.length → unN ρ h.length k ≠ b := fun k h1 h2 => hb ⟨k, h1, h2⟩
      rw [g2 b hb'] at hy
      exact .inr ⟨hb',hy⟩
  -- a block outside does not je7 an address with one of the few
  have apart: ∀(i:Nat) (x:AB) (g o:Nat),(∀k,k<hs'.length→unN ρ h.length k≠i)→h[i]? =some x→j8 x→μ i=some g→¬Wr hs (wx (ρ.map Src.old) μ) g o:=by
    rintro i x g o hi hx lx hg ⟨k,hk,hx2⟩
    obtain⟨mm,hm,hg2⟩:=hnu0 k g hk
    obtain⟨y,hy,ly,_,e2,lm⟩:=few k mm hm
    have:=R.inj i mm x _ g hx e2 lx lm hg hg2
    subst this
    have hk':k<hs.length:=(List.getElem?_eq_some_iff.1 hy).1
    exact hi k (by omega) (qjq hm)
  have wrO: ∀(k:Nat) (z:AB) (g:Nat),hs'[k]? =some z→j8 z→ν' k=some g→∃o,Wr hs' ν' g o:=by
    intro k z g hz lz hg
    cases z with
    |hole=>cases lz
    |gone=>cases lz
    |var cs=>exact⟨0,k,hg,.inl ⟨cs,hz⟩⟩
    | arr t l f =>
      cases f with
      |true=>exact⟨0,k,hg,.inr (.inl ⟨t,l,hz⟩)⟩
      |false=>exact⟨l.length*t.sz,k,hg,.inr (.inr (.inl ⟨t,l,hz,Nat.le_refl _⟩))⟩
    |mp kt vt l=>exact⟨0,k,hg,.inr (.inr (.inr ⟨kt,vt,l,hz⟩))⟩
  have mixed: ∀(i:Nat) (x:AB) (k:Nat) (z:AB) (g:Nat),(∀k,k<hs'.length→unN ρ h.length k≠i)→h[i]? =some x→j8 x→μ i=some g→hs'[k]? =some z→j8 z→ν' k=some g→False:=by
    intro i x k z g hi hx lx hg hz lz hg2
    obtain⟨o,ho⟩:=wrO k z g hz lz hg2
    rcases fr.wr g o ho with h1|h1
    · exact apart i x g o hi hx lx hg h1
    · have := R.lt i x g hx lx hg
      omega
  have reps: ∀(v:Value) (x:AV),Rep w' Is hs' ν' v x→Rep w' Is h'' μ'' v (unV ρ h.length x):=fun v x r=>ja2 g1 P2 r
  have HMh:HM h μ h'' μ'':=by
    refine⟨fun b x hx=> ?_,fun b x y hx hy lx ly=> ?_⟩
    · by_cases hb : ∃ k, k < hs'.length ∧ unN ρ h.length k = b
      · obtain ⟨k, hk, rfl⟩ := hb
        refine⟨_,g1 k _ (List.getElem?_eq_getElem hk), ?_⟩
        have hbn:unN ρ h.length k<h.length:=(List.getElem?_eq_some_iff.1 hx).1
        have hkr:k<ρ.length:=by
          rcases Nat.lt_or_ge k ρ.length with h1|h1
          · exact h1
          · rw [qr8 h1] at hbn;omega
        have ek:ρ[k]? =some ρ[k]:=List.getElem?_eq_getElem hkr
        obtain⟨y,hy,ly,hvy,e2,lm⟩:=few k _ ek
        rw [qjq ek] at hx
        rw [e2] at hx
        cases hx
        obtain⟨z,hz,kz⟩:=m.kept k y hy
        rw [List.getElem?_eq_getElem hk] at hz
        cases hz
        generalize qd h ρ[k]=x at hvy
        generalize hs'[k]=z at kz
        cases y with
        |hole=>cases ly
        |gone=>cases ly
        | var ys =>
          cases x with
          |var xs=>obtain⟨cs,rfl⟩:=kz;exact⟨_,rfl⟩
          |_=>exact hvy.elim
        | arr t l f =>
          have hvy:x= .arr t l f:=hvy
          subst hvy
          rcases kz with rfl|⟨l',f',rfl,hl'⟩
          · exact .inl rfl
          · exact .inr ⟨l',f',rfl,hl'⟩
        | mp kt vt l =>
          have hvy:x= .mp kt vt l:=hvy
          subst hvy
          rcases kz with rfl|⟨l',rfl⟩
          · exact .inl rfl
          · exact .inr ⟨l',rfl⟩
      · refine ⟨x, by rw [g2 b fun k h1 h2 => hb ⟨k, h1, h2⟩]; exact hx, ?_⟩
        cases x with
        |hole=>trivial
        |gone=>rfl
        |var cs=>exact⟨cs,rfl⟩
        |arr t l f=>exact .inr ⟨l,f,rfl,rfl⟩
        |mp kt vt l=>exact .inr ⟨l,rfl⟩
    · rcases qhh b y hy with ⟨k, z, rfl, hz, rfl⟩ | ⟨hb, _⟩
      · rw [P2 k z hz]
        have hbn:unN ρ h.length k<h.length:=(List.getElem?_eq_some_iff.1 hx).1
        have hkr:k<ρ.length:=by
          rcases Nat.lt_or_ge k ρ.length with h1|h1
          · exact h1
          · rw [qr8 h1] at hbn;omega
        have ek:ρ[k]? =some ρ[k]:=List.getElem?_eq_getElem hkr
        obtain⟨y0,hy0,ly0,_,_,_⟩:=few k _ ek
        rw [qjq ek,m.mu k y0 z hy0 hz ly0 (ur ly),hnu k _ ek]
      · exact mu2 b hb
  refine⟨μ'',reps,⟨?_, ?_, ?_, ?_,R'.ilt,R'.laid⟩, ?_,HMh⟩
  · intro i j x y g hi hj lx ly gi gj
    rcases qhh i x hi with⟨k,z,rfl,hz,rfl⟩|⟨hbi,hxi⟩
    · rw [P2 k z hz] at gi
      rcases qhh j y hj with⟨k2,z2,rfl,hz2,rfl⟩|⟨hbj,hxj⟩
      · rw [P2 k2 z2 hz2] at gj
        rw [R'.inj k k2 z z2 g hz hz2 (ur lx) (ur ly) gi gj]
      · rw [mu2 j hbj] at gj
        exact(mixed j y k z g hbj hxj ly gj hz (ur lx) gi).elim
    · rw [mu2 i hbi] at gi
      rcases qhh j y hj with⟨k2,z2,rfl,hz2,rfl⟩|⟨hbj,hxj⟩
      · rw [P2 k2 z2 hz2] at gj
        exact(mixed i x k2 z2 g hbi hxi lx gi hz2 (ur ly) gj).elim
      · rw [mu2 j hbj] at gj
        exact R.inj i j x y g hxi hxj lx ly gi gj
  · intro i x g hi lx gi
    rcases qhh i x hi with⟨k,z,rfl,hz,rfl⟩|⟨hbi,hxi⟩
    · rw [P2 k z hz] at gi
      exact R'.lt k z g hz (ur lx) gi
    · rw [mu2 i hbi] at gi
      exact Nat.lt_of_lt_of_le (R.lt i x g hxi lx gi) fr.size
  · intro i x hi
    rcases qhh i x hi with⟨k,z,rfl,hz,rfl⟩|⟨hbi,hxi⟩
    · have hb := R'.blk k z hz
      cases z with
      |hole=>trivial
      |gone=>trivial
      | var cs =>
        obtain⟨g,vs,e,h1,h2,h3,h4⟩:=hb
        refine⟨g,vs,e,(P2 k _ hz).trans h1,h2,by rw [qdb];exact h3,fun j v c e1 e2=> ?_⟩
        rw [qda] at e2
        cases hq:cs[j]? with
        |none=>rw [hq] at e2;cases e2
        |some c0=>rw [hq] at e2;simp at e2;subst e2;exact reps _ _ (h4 j v c0 e1 hq)
      | arr t l f =>
        rcases hb with hb|⟨g,vs,e,h1,h2,h3⟩
        · exact .inl hb
        · exact .inr ⟨g,vs,e,(P2 k _ hz).trans h1,h2,h3⟩
      | mp kt vt l =>
        exact uc.mono (P2 k _ hz) (fun _ _=>rfl) (fun _ _ h=>h) (fun _ _=>rfl) hb
    · have hb := R.blk i x hxi
      have same:j8 x→∀g,μ i=some g→w'.heap[g]? =w.heap[g]? :=fun lx g hg=>fr.same g (R.lt i x g hxi lx hg) fun o=>apart i x g o hbi hxi lx hg
      have hc:qxi w I w':=⟨fun g o u hi hu=>fr.cell (fun hw=>R.disj g o hi (hWr g o hw)) (R.ilt g o hi) hu,fun g hi=>fr.same g (R.ilt g 0 (hi 0)) fun o hw=>R.disj g o (hi o) (hWr g o hw)⟩
      cases x with
      |hole=>trivial
      |gone=>trivial
      |var cs=>exact hb.mono HMh fr.shape hc fr.im (fun _=>mu2 i hbi) (same trivial)
      |arr t l f=>exact hb.mono HMh fr.shape hc fr.im (fun _=>mu2 i hbi) (same trivial)
      |mp kt vt l=>exact hb.mono HMh fr.shape hc fr.im (fun _=>mu2 i hbi) (same trivial)
  · rintro g o hi ⟨b, hb, hx⟩
    have: ∃y,h''[b]? =some y∧j8 y:=by
      rcases hx with⟨cs,hx⟩|⟨t',l',hx⟩|⟨t',l',hx,_⟩|⟨_,_,_,hx⟩
      · exact⟨_,hx,trivial⟩
      · exact⟨_,hx,trivial⟩
      · exact⟨_,hx,trivial⟩
      · exact⟨_,hx,trivial⟩
    obtain⟨y,hy,ly⟩:=this
    rcases qhh b y hy with⟨k,z,rfl,hz,rfl⟩|⟨hbb,hxb⟩
    · rw [P2 k z hz] at hb
      refine R'.disj g o hi ⟨k,hb, ?_⟩
      rw [hz]
      exact q5r (qyl hy hx)
    · rw [mu2 b hbb] at hb
      have hW:Wr h μ g o:=⟨b,hb,by rw [hy,←hxb] at hx;exact hx⟩
      rcases fr.im' g o hi with h1|h1|h1
      · exact R.disj g o h1 hW
      · exact apart b y g o hbb hxb ly hb h1
      · have := R.lt b y g hxb ly hb
        omega
  · have wr : ∀ g o, Wr h'' μ'' g o → Wr h μ g o ∨ Wr hs' ν' g o := by
      rintro g o ⟨b,hb,hx⟩
      have: ∃y,h''[b]? =some y∧j8 y:=by
        rcases hx with⟨cs,hx⟩|⟨t',l',hx⟩|⟨t',l',hx,_⟩|⟨_,_,_,hx⟩
        · exact⟨_,hx,trivial⟩
        · exact⟨_,hx,trivial⟩
        · exact⟨_,hx,trivial⟩
        · exact⟨_,hx,trivial⟩
      obtain⟨y,hy,ly⟩:=this
      rcases qhh b y hy with⟨k,z,rfl,hz,rfl⟩|⟨hbb,hxb⟩
      · rw [P2 k z hz] at hb
        refine .inr ⟨k,hb, ?_⟩
        rw [hz]
        exact q5r (qyl hy hx)
      · rw [mu2 b hbb] at hb
        exact .inl ⟨b,hb,by rw [hy,←hxb] at hx;exact hx⟩
    refine⟨fr.os,fr.tape,fr.output,fr.size,fun g hg hn=>fr.same g hg fun o ho=>hn o (hWr g o ho),fun g vs e fz hg hv=> ?_,fr.nf,fun g o hw=> ?_,fr.im,fun g o hi=> ?_⟩
    · obtain ⟨vs', q1, q2, q3⟩ := fr.part g vs e fz hg hv
      exact⟨vs',q1,q2,fun o ho=>q3 o fun hw=>ho (hWr g o hw)⟩
    · rcases wr g o hw with h1 | h1
      · exact .inl h1
      · exact(fr.wr g o h1).imp (hWr g o) id
    · exact(fr.im' g o hi).imp id fun h1=>h1.imp (hWr g o) id
theorem qh.lift{f:FuncId}{args args':List AV}{Q:ARes→qa→Prop}(c:qh E f args' hs Q)(hb:(qis hs&&xl (ρ.map Src.old))=true)(hv:qaw (ρ.map Src.old) h (ρ.map Src.old) hs)
    (ha:qv.viewL (ρ.map Src.old) args args'):qh E f args h (fun r h''=> ∃r' hs',Q r' hs'∧r=unR ρ h.length r'∧h''=qg h (unH ρ h.length 0 hs')):=by
  unfold qh at c ⊢
  simp only [Bool.and_eq_true] at hb
  refine⟨c.1,fun w I μ vs R hcr=> ?_⟩
  obtain⟨Rs,_,V⟩:=ql3 R hv hb.2
  obtain⟨e1,e2⟩:=yh args' args ha
  have hcr':qr w I hs (wx (ρ.map Src.old) μ) vs.toList args':=by
    refine⟨hcr.1.trans e1,fun k v x hvk hxk=> ?_⟩
    have hk:k<args.length:=by
      have:=(List.getElem?_eq_some_iff.1 hxk).1
      omega
    exact V.rep (hcr.2 k v _ hvk (List.getElem?_eq_getElem hk)) (e2 k _ x (List.getElem?_eq_getElem hk) hxk)
  refine(c.2 w I _ vs Rs hcr').mono fun e w' hp=> ?_
  obtain⟨r',hs',Is,ν',hq,he,hR,hF,hM⟩:=hp
  obtain⟨μ'',q1,q2,q3,q4⟩:=qwb R hb.1 hb.2 hv hR hF hM
  refine⟨unR ρ h.length r',_,Is,μ'',⟨r',hs',hq,rfl,rfl⟩, ?_,q2,q3,q4⟩
  cases e with
  | returned v => cases r' with
    |ret x=>exact q1 _ _ he
    |panic x=>exact he.elim
  | panicked chain => cases r' with
    |ret x=>exact he.elim
    |panic x=>obtain⟨v,h1,h2⟩:=he;exact⟨v,h1,q1 _ _ h2⟩
  |outgrown=>cases r' <;>exact he.elim
end
end Go.AM
namespace Go.AM
set_option linter.unusedSectionVars false
variable [Lay] [Dfr]
structure Ft where
  rd:List Nat
  dst:Option Nat
  br:List Nat
  wb:List Nat
def wt:List Operand→List Nat
  |[]=>[]
  | .tmp t::r=>t::wt r
  |_::r=>wt r
def kg(E:Env)(ops:List Oper)(o:Oper):List Nat:=
  wt ((q8 E o).map (·.2))++(match o.op with| .call { callee:= .value fv,.. }=>wt [fv]|_=>[])++
  (match o.guard with
   | some (j, _) => match ops[j]? with
     |some q=>match q.dst with|some d=>[d]|none=>[]
     |none=>[]
   |none=>[])
def qoy:List Nat→List Nat→Bool
  |[],_=>false
  |x::r,l=>l.any (Nat.beq x)||qoy r l
def qxt(d:Option Nat)(l:List Nat):Bool:=match d with|some d=>l.any (Nat.beq d)|none=>false
def q83(d e:Option Nat):Bool:=match d,e with|some d,some e=>Nat.beq d e|_,_=>false
def xf(x y:Ft):Bool:=
  qxt x.dst y.rd||qxt y.dst x.rd||q83 x.dst y.dst||qoy x.wb y.br||qoy x.wb y.wb||qoy y.wb x.br
def xe(o:Oper):List Nat:=(o.after.toList.filter (Region.binds .any)).map (·.on)
def qj0(acc:List Nat):List Nat→Nat
  |[]=>0
  |e::r=>Nat.lor (Nat.lor (Nat.shiftLeft 1 e) (acc.getD e 0)) (qj0 acc r)
def qiz(acc:List Nat):List Oper→List Nat
  |[]=>acc
  |o::r=>qiz (acc++[qj0 acc (xe o)]) r
def qqt(m:Nat)(y:Ft):Nat→List Ft→Bool
  |_,[]=>true
  |i,x::r=>(!(xf x y)||Nat.testBit m i)&&qqt m y (i+1) r
def qev(ms:List Nat)(all:List Ft):Nat→List Ft→Bool
  |_,[]=>true
  |j,y::r=>qqt (ms.getD j 0) y 0 (all.take j)&&qev ms all (j+1) r
def qoa:Nat→List Oper→Bool
  |_,[]=>true
  |i,o::r=>(xe o).all (fun e=>Nat.blt e i)&&qoa (i+1) r
def dOK(ops:List Oper)(fts:List Ft)(B:Nat):Bool:=
  qoa 0 ops&&qev (qiz [] ops) fts 0 fts&&fts.all fun f=>f.wb.all fun b=>Nat.blt b B
@[irreducible] def qh7 (E : Env) (g : FuncId) (args : List AV) (br : List Nat) (h : qa) (v : AV) (ws : List (Nat × AB)) : Prop :=
  ∀h':qa,(∀b∈br,qd h' b=qd h b)→qh E g args h' (fun r h''=>r= .ret v∧h''=qg h' ws)
def qvp(o:Oper):Bool:=
  match o.op with
  | .alloc _=>true
  | .box _ _=>true
  | .buildSlice _ _ _=>true
  | .makeSlice _ _ _=>true
  | .call { callee:= .builtin .append,.. }=>true
  |_=>false
def yv (F : Fp) (d : Option Nat) (v : AV) (s : qc) (K : qc → Prop) : Prop :=
  match d with
  | some d => match Nat.blt d F.nt with
    |true=>K ((d,v)::s)
    |false=>False
  |none=>K s
def pOK(E:Env)(ops:List Oper)(fs:List Ft)(o:Oper)(B:Nat)(h:qa):Bool:=
  qoa 0 ops&&dOK (ops.take (fs.length+1)) (fs++[⟨kg E ops o,none,List.range B,[]⟩]) B&&Nat.ble h.length B&&((qiz [] ops).drop (fs.length+1)).all fun m=>Nat.testBit m fs.length
def gy (E : Env) (F : Fp) (ops : List Oper) (B : Nat) (o : Oper) (s : qc) (h : qa) (K : Ft → qc → qa → Prop) (P : AV → qa → Prop) : Prop :=
  match o.op with
  | .call { callee := .value fv, args := as, argTypes := ts } =>
    match Nat.beq as.size ts.size,ev E s 0 fv with
    | true, .fn (.func g) a c =>
      match E.raw.contains g with
      |true=>qdp (a++(j6 E s as.toList ts.toList++c)) fun vs=> ∃br v ws,qh7 E g vs br h v ws∧
          nfR v fun v=>nfH (qg h ws) fun h=>yv F o.dst v s fun s=>K ⟨kg E ops o,o.dst,br,ws.map (·.1)⟩ s h
      | false => qdp (a ++ (j6 E s as.toList ts.toList ++ c)) fun vs => qdp (vs.map (res (qd h))) fun us =>
        nfH (qg h (frz (qd h) (qt vs))) fun h1=>(∃br v ws,qh7 E g us br h1 v ws∧
          nfR v fun v=>nfH (qg h1 ws) fun h2=>yv F o.dst v s fun s=>K ⟨kg E ops o,o.dst,qt vs++br,(frz (qd h) (qt vs)).map (·.1)++ws.map (·.1)⟩ s h2)∨
          (qt vs=[]∧∃v h',qh E g us h1 (fun r h''=>r= .panic v∧h''=h')∧P v h')
    |_,_=>False
  | _ =>
    match qvp o with
    | true => nfN h.length fun b0 => match fOp E o s h b0 with
      |some ⟨v,ws,cs⟩=>qnj cs (qed v fun v=>nfH (qg h ws) fun h'=>yv F o.dst v s fun s'=>K ⟨kg E ops o,o.dst,qbx o (evs E s (q8 E o)),b0::ws.map (·.1)⟩ s' h')
      |none=>False
    | false => match fOp E o s h B with
      |some ⟨v,ws,cs⟩=>qnj cs (qed v fun v=>nfH (qg h ws) fun h'=>yv F o.dst v s fun s'=>K ⟨kg E ops o,o.dst,qbx o (evs E s (q8 E o)),ws.map (·.1)⟩ s' h')
      |none=>False
def drP(E:Env)(F:Fp)(ops:List Oper)(B:Nat)(X:AV→qa→Prop)(o:Oper)(fts:List Ft)(h:qa)(v:AV)(h':qa):Prop:=
  match pOK E ops fts.reverse o B h&&Nat.ble F.n0 h.length with
  |true=>X v h'
  |false=>False
def aDr (E : Env) (F : Fp) (ops : List Oper) (B : Nat) (K : qc → qa → Prop) (X : AV → qa → Prop) : List Oper → List Ft → qc → qa → Prop
  |[],fts,s,h=>match dOK ops fts.reverse B&&Nat.ble h.length B with|true=>K s h|false=>False
  | o :: r, fts, s, h =>
    match o.guard with
    |none=>gy E F ops B o s h (fun f=>aDr E F ops B K X r (f::fts)) (drP E F ops B X o fts h)
    | some (j, want) =>
      match zb ops s j with
      | some (d, v) =>
        match v,want with
        | .t,true=>gy E F ops B o s h (fun f=>aDr E F ops B K X r (f::fts)) (drP E F ops B X o fts h)
        | .f,false=>gy E F ops B o s h (fun f=>aDr E F ops B K X r (f::fts)) (drP E F ops B X o fts h)
        | .bool b,true=>aIf b (gy E F ops B o ((d,.t)::s) h (fun f=>aDr E F ops B K X r (f::fts)) (drP E F ops B X o fts h)) (yv F o.dst jw ((d,.f)::s) fun s=>aDr E F ops B K X r (⟨kg E ops o,o.dst,[],[]⟩::fts) s h)
        | .bool b,false=>aIf b (yv F o.dst jw ((d,.t)::s) fun s=>aDr E F ops B K X r (⟨kg E ops o,o.dst,[],[]⟩::fts) s h) (gy E F ops B o ((d,.f)::s) h (fun f=>aDr E F ops B K X r (f::fts)) (drP E F ops B X o fts h))
        | .t,false=>yv F o.dst jw s fun s=>aDr E F ops B K X r (⟨kg E ops o,o.dst,[],[]⟩::fts) s h
        | .f,true=>yv F o.dst jw s fun s=>aDr E F ops B K X r (⟨kg E ops o,o.dst,[],[]⟩::fts) s h
        | .tup [],_=>yv F o.dst jw s fun s=>aDr E F ops B K X r (⟨kg E ops o,o.dst,[],[]⟩::fts) s h
        |_,_=>False
      |none=>False
section
variable {E:Env} {F:Fp} {w w' w0:World} {I I' I0:Nat→Nat→Prop} {h h0 h' h2:qa} {μ μ' μ0:Nat→Option Nat} {a:Act} {s s':qc} {ops:Array Oper} {B:Nat}
theorem ug(v:AB): ∀(h:qa) (b i:Nat),qd (qe h b v) i=if i=b then v else qd h i
  |[],0,i=>by cases i <;>simp [qe,qd]
  |[],b+1,0=>by simp [qe,qd]
  | [], b + 1, i + 1 => by
    have:=ug v [] b i
    simp only [qe,qd,List.getD_cons_succ] at*
    rw [this]
    simp
  |x::r,0,i=>by cases i <;>simp [qe,qd]
  |x::r,b+1,0=>by simp [qe,qd]
  | x :: r, b + 1, i + 1 => by
    have:=ug v r b i
    simp only [qe,qd,List.getD_cons_succ] at*
    rw [this]
    simp
theorem yj: ∀(ws:List (Nat×AB)) (h:qa) (b:Nat),b∉ws.map (·.1)→qd (qg h ws) b=qd h b
  |[],_,_,_=>rfl
  | (c, x) :: r, h, b, hb => by
    simp only [List.map_cons,List.mem_cons,not_or] at hb
    simp only [qg]
    rw [yj r _ b hb.2,ug,if_neg hb.1]
theorem g7: ∀(ws:List (Nat×AB)) (h h':qa) (b:Nat),b∈ws.map (·.1)∨qd h b=qd h' b→qd (qg h ws) b=qd (qg h' ws) b
  |[],h,h',b,hb=>by simpa [qg] using hb
  | (c, x) :: r, h, h', b, hb => by
    simp only [qg]
    apply g7 r
    rw [ug,ug]
    by_cases e:b=c
    · right;simp [e]
    · simp only [List.map_cons, List.mem_cons] at hb
      rcases hb with(hb|hb)|hb
      · exact absurd hb e
      · exact .inl hb
      · right;simp [e,hb]
theorem qoo: ∀(ws:List (Nat×AB)) (h:qa),(∀p∈ws,p.1<h.length)→(qg h ws).length=h.length
  |[],_,_=>rfl
  | (c, x) :: r, h, hb => by
    simp only [qg]
    have h1:=qqz x h c (hb (c,x) (by simp))
    rw [qoo r _ fun p hp=>by rw [h1];exact hb p (by simp [hp]),h1]
theorem Rep.holes(H: ∀(b:Nat) (x:AB),h[b]? =some x→x≠.hole→h'[b]? =some x){v:Value}{x:AV}(r:Rep w I h μ v x):Rep w I h' μ v x:=by
  have own: ∀{t:Ty} {b:Nat} {full:Bool} {a:Option Addr} {m cap:Nat},qdt w h μ t b full a m cap→qdt w h' μ t b full a m cap:=by
    rintro t b full a m cap ⟨x,hx,h1,h2⟩
    exact⟨x,H b x hx h1,h1,h2⟩
  have ptr: ∀{b g:Nat},zk h μ b g→zk h' μ b g:=by
    rintro b g ⟨x,hx,h1,h2⟩
    exact⟨x,H b x hx h1,h1,h2⟩
  induction r with
  |junk v=>exact .junk v
  |t=>exact .t
  |f=>exact .f
  |bool b=>exact .bool b
  |int k n=>exact .int k n
  |str l=>exact .str l
  |nilsl=>exact .nilsl
  |sl t l full a n cap hr hf=>exact .sl t l full a n cap hr hf
  |own t b full a n cap ho=>exact .own t b full a n cap (own ho)
  |ptr b j g hp=>exact .ptr b j g (ptr hp)
  |eptr t b i j g hp=>exact .eptr t b i j g (ptr hp)
  |iptr t x j g o cs hr hcs=>exact .iptr t x j g o cs hr hcs
  |nilptr=>exact .nilptr
  |agg vs cs hl hcs ih=>exact .agg vs cs hl ih
  |tup vs cs hl hcs ih=>exact .tup vs cs hl ih
  |fn f as cs xs ys ha hb h1 h2 ih1 ih2=>exact .fn f as cs xs ys ha hb ih1 ih2
  |nilfn=>exact .nilfn
  |iface t v x hv ih=>exact .iface t v x ih
  |niliface=>exact .niliface
  |mptr b g hp=>exact .mptr b g (ptr hp)
  |fmap k v l g es c hi hg hd=>exact .fmap k v l g es c hi hg hd
theorem Wr.holes(H: ∀(b:Nat) (x:AB),h[b]? =some x→x≠.hole→h'[b]? =some x){g o:Nat}(hw:Wr h μ g o):Wr h' μ g o:=by
  obtain⟨i,hi,hx⟩:=hw
  refine⟨i,hi, ?_⟩
  rcases hx with⟨cs,hx⟩|⟨t,l,hx⟩|⟨t,l,hx,ho⟩|⟨kt,vt,l,hx⟩
  · exact .inl ⟨cs,H _ _ hx (by simp)⟩
  · exact .inr (.inl ⟨t,l,H _ _ hx (by simp)⟩)
  · exact .inr (.inr (.inl ⟨t,l,H _ _ hx (by simp),ho⟩))
  · exact .inr (.inr (.inr ⟨kt,vt,l,H _ _ hx (by simp)⟩))
theorem RelH.holes(H: ∀(b:Nat) (x:AB),h[b]? =some x→x≠.hole→h'[b]? =some x)(H': ∀(b:Nat) (x:AB),h'[b]? =some x→x≠.hole→h[b]? =some x)(R:RelH w I μ h):RelH w I μ h':=by
  have nl: ∀{x:AB},j8 x→x≠.hole:=by rintro x l rfl;exact l
  refine⟨fun i j x y g hi hj lx ly=>R.inj i j x y g (H' i x hi (nl lx)) (H' j y hj (nl ly)) lx ly,fun i x g hi lx=>R.lt i x g (H' i x hi (nl lx)) lx,fun i x hi=> ?_,fun g o hi hw=>R.disj g o hi (hw.holes H'),R.ilt,R.laid⟩
  cases x with
  |hole=>trivial
  |gone=>trivial
  | var cs =>
    obtain⟨g,vs,e,h1,h2,h3,h4⟩:=R.blk i _ (H' i _ hi (by simp))
    exact⟨g,vs,e,h1,h2,h3,fun k v c hv hc=>(h4 k v c hv hc).holes H⟩
  |arr t l f=>exact R.blk i _ (H' i _ hi (by simp))
  |mp kt vt l=>exact R.blk i _ (H' i _ hi (by simp))
def JOK (E : Env) (ops : Array Oper) (F : Fp) (B : Nat) (o : Oper) (s : qc) (h : qa) (v : AV) (ws : List (Nat × AB)) (f : Ft) : Prop :=
  (∀d,o.dst=some d→d<F.nt)∧f.dst=o.dst∧(∀p∈ws,p.1∈f.wb)∧
  ∀ (h2 : qa) (w : World) (I : Nat → Nat → Prop) (μ : Nat → Option Nat) (a : Act), RelH w I μ h2 → h2.length = B → h.length ≤ B → (∀ b, b ∈ f.br ∨ b ∈ f.wb → qd h2 b = qd h b) → a.defers = Dfr.ds →
    (∀d∈f.rd,Rep w I h2 μ (a.tmps.getD d undef) (lkp d s))→∀(next:Act→World→Prop) (Q:Exit→Act→World→Prop),
    (∀v' w' I' μ',Rep w' I' (qg h2 ws) μ' v' v→RelH w' I' μ' (qg h2 ws)→Fr w (Wr h2 μ) I w' (Wr (qg h2 ws) μ') I'→HM h2 μ (qg h2 ws) μ'→next (a.put o.dst v') w')→
    if Region.wanted o (yielded ops a.tmps) then o.wp E.P a w next Q∨(o.asks E.P a w∧LetsOut Q) else next (a.put o.dst undef) w
def qas(s:qc):List Nat→qc
  |[]=>[]
  |d::r=>(d,lkp d s)::qas s r
theorem yd(s:qc): ∀(l:List Nat) (d:Nat),d∈l→lkp d (qas s l)=lkp d s
  | x :: r, d, hd => by
    simp only [qas,lkp]
    cases hb:Nat.beq d x with
    |true=>obtain rfl:=Nat.eq_of_beq_eq_true hb;rfl
    | false =>
      refine yd s r d ?_
      rcases List.mem_cons.1 hd with e|e
      · subst e;rw [Nat.beq_refl] at hb;cases hb
      · exact e
theorem qfb(s:qc): ∀(l:List Nat) (d:Nat),lkp d (qas s l)= .junk∨d∈l
  |[],d=> .inl rfl
  | x :: r, d => by
    simp only [qas,lkp]
    cases hb:Nat.beq d x with
    |true=>obtain rfl:=Nat.eq_of_beq_eq_true hb;exact .inr (by simp)
    |false=>exact(qfb s r d).imp id fun h=>by simp [h]
theorem qez{s s':qc}{x:Operand}{t:TypeId}(hx: ∀d,x= .tmp d→lkp d s'=lkp d s):ev E s' t x=ev E s t x:=by
  cases x with
  |tmp d=>exact hx d rfl
  |_=>rfl
theorem qok{s s':qc}: ∀{l:List (TypeId×Operand)},(∀d,d∈wt (l.map (·.2))→lkp d s'=lkp d s)→evs E s' l=evs E s l
  |[],_=>rfl
  | (t, x) :: r, hl => by
    simp only [evs]
    rw [qez (fun d hd=>hl d (by subst hd;simp [wt])),qok (l:=r) fun d hd=>hl d (by cases x <;>simp [wt,hd])]
theorem qa5{s s':qc}: ∀{xs:List Operand} {ts:List TypeId},(∀d,d∈wt (((xs.zip ts).map fun p=>((p.2,p.1):TypeId×Operand)).map (·.2))→lkp d s'=lkp d s)→j6 E s' xs ts=j6 E s xs ts
  | x :: xs, t :: ts, hl => by
    simp only [j6]
    rw [qez (fun d hd=>hl d (by subst hd;simp [wt])),qa5 (xs:=xs) (ts:=ts) fun d hd=>hl d (by cases x <;>simp [wt] at hd ⊢ <;>simp [hd])]
  |[],_,_=>by cases ‹List TypeId› <;>rfl
  |_::_,[],_=>rfl
theorem qfv{h h2:qa}: ∀{l:List Nat},(∀b∈l,qd h2 b=qd h b)→qem h2 l=qem h l
  |[],_=>rfl
  |b::r,hl=>by simp only [qem];rw [hl b (by simp),qfv fun c hc=>hl c (by simp [hc])]
theorem qom{h h2:qa}: ∀{l:List Nat},(∀b∈l,qd h2 b=qd h b)→frz (qd h2) l=frz (qd h) l
  |[],_=>rfl
  |b::r,hl=>by simp only [frz];rw [hl b (by simp),qom fun c hc=>hl c (by simp [hc])]
theorem qej{l:List Nat}(hr: ∀d∈l,Rep w I h μ (a.tmps.getD d undef) (lkp d s)):qy2 w I h μ a (qas s l):=by
  intro i
  rcases qfb s l i with e|e
  · rw [e];exact .junk _
  · rw [yd s l i e];exact hr i e
theorem q3x {o : Oper} {j : Nat} {want : Bool} {d : Nat} {x : AV} (hg : o.guard = some (j, want)) (hgo : zb ops.toList s j = some (d, x)) : d ∈ kg E ops.toList o ∧ x = lkp d s ∧ ∀ tmps : Array Value, yielded ops tmps j = (match tmps[d]? with | some (.bool b) => some b | _ => none) := by
  unfold zb at hgo
  split at hgo
  · rename_i q hq
    split at hgo
    · rename_i d' hd
      cases hgo
      refine⟨?_,rfl,fun tmps=> ?_⟩
      · simp only [kg,hg,hq,hd];simp
      · have ho' : ops[j]? = some q := by simpa using hq
        simp only [yielded,ho',Option.bind_some,hd]
        rfl
    · cases hgo
  · cases hgo
theorem qov (hE : EnvOK E) {o : Oper} {b0 : Nat} {fr : FR} {wb : List Nat} (hf : fOp E o s h b0 = some fr) (hc : ∀ c ∈ fr.cs, c.p) (hd : ∀ d, o.dst = some d → d < F.nt)
    (hwant: ∀a:Act,(∀w I μ h2,(∀d∈kg E ops.toList o,Rep w I h2 μ (a.tmps.getD d undef) (lkp d s))→Region.wanted o (yielded ops a.tmps)=true))
    (hb:(b0=h.length∧b0∈wb)∨b0=B) (hws: ∀p∈fr.ws,p.1∈wb):JOK E ops F B o s h fr.v fr.ws ⟨kg E ops.toList o,o.dst,qbx o (evs E s (q8 E o)),wb⟩:=by
  refine⟨hd,rfl,hws,fun h2 w I μ a R hl hle hag hnd hr next Q hn=> ?_⟩
  rw [if_pos (hwant a w I μ h2 hr)]
  refine .inl ?_
  have hs:=qej (s:=s) (a:=a) hr
  have e1:evs E (qas s (kg E ops.toList o)) (q8 E o)=evs E s (q8 E o):=qok fun d hd=>yd s _ d (by simp only [kg,List.mem_append];exact .inl (.inl hd))
  have hf':fOp E o (qas s (kg E ops.toList o)) h2 b0=some fr:=by
    unfold fOp at hf ⊢
    rw [e1,qfv (h:=h) fun b hb=>hag b (.inl hb)]
    exact hf
  have hhole:b0≤h2.length∧(h2[b0]? =none∨h2[b0]? =some .hole):=by
    rcases hb with⟨e,hm⟩|e
    · refine ⟨by omega, ?_⟩
      have:=hag b0 (.inr hm)
      rw [e] at this ⊢
      have e0:qd h h.length= .hole:=by simp [qd]
      rw [e0] at this
      cases hq:h2[h.length]? with
      |none=>exact .inl rfl
      | some y =>
        right
        have:=wu hq
        simp_all
    · exact⟨by omega,.inl (List.getElem?_eq_none_iff.2 (by omega))⟩
  obtain⟨v',nx,w',I',μ',hrun,hnx,hrep,hR,hF,hM⟩:=qol hE R hhole.1 hhole.2 hs hf' hc
  unfold Oper.wp
  rw [hrun]
  rcases hnx with rfl|⟨rfl,rfl⟩
  · exact hn _ _ _ _ hrep hR hF hM
  · exact hn _ _ _ _ hrep hR hF hM
theorem qtl{o:Oper}(hd: ∀d,o.dst=some d→d<F.nt)
    (hwant: ∀a:Act,(∀w I μ h2,(∀d∈kg E ops.toList o,Rep w I h2 μ (a.tmps.getD d undef) (lkp d s))→Region.wanted o (yielded ops a.tmps)=false)):
    JOK E ops F B o s h jw [] ⟨kg E ops.toList o,o.dst,[],[]⟩:=by
  refine⟨hd,rfl,fun p hp=>by simp at hp,fun h2 w I μ a R hl hle hag hnd hr next Q hn=> ?_⟩
  rw [if_neg (by rw [hwant a w I μ h2 hr];simp)]
  exact hn undef w I μ (.tup #[] [] rfl (fun i v c h1 _=>by simp at h1)) R (Fr.refl _ _ _) (HM.refl _ _)
theorem qtk {dst : Option Tmp} {ty : TypeId} {pos : String} {aft : Array Edge} {gd : Option (Nat × Bool)} {fv : Operand} {as : Array Operand} {ts : Array TypeId} {g : FuncId} {xa xc us : List AV} {br owns : List Nat} {v : AV} {ws : List (Nat × AB)} (hd : ∀ d, dst = some d → d < F.nt)
    (hwant: ∀a:Act,(∀w I μ h2,(∀d∈kg E ops.toList ⟨dst,.call { callee:= .value fv,args:=as,argTypes:=ts },ty,pos,aft,gd⟩,Rep w I h2 μ (a.tmps.getD d undef) (lkp d s))→Region.wanted ⟨dst,.call { callee:= .value fv,args:=as,argTypes:=ts },ty,pos,aft,gd⟩ (yielded ops a.tmps)=true))
    (hsz:as.size=ts.size) (hev:ev E s 0 fv= .fn (.func g) xa xc)
    (hus:(owns=[]∧us=xa++(j6 E s as.toList ts.toList++xc))∨(owns=qt (xa++(j6 E s as.toList ts.toList++xc))∧us=(xa++(j6 E s as.toList ts.toList++xc)).map (res (qd h))))
    (hcall:qh7 E g us br (qg h (frz (qd h) owns)) v ws):
    JOK E ops F B ⟨dst,.call { callee:= .value fv,args:=as,argTypes:=ts },ty,pos,aft,gd⟩ s h v (frz (qd h) owns++ws)
      ⟨kg E ops.toList ⟨dst,.call { callee:= .value fv,args:=as,argTypes:=ts },ty,pos,aft,gd⟩,dst,owns++br,(frz (qd h) owns).map (·.1)++ws.map (·.1)⟩:=by
  refine⟨hd,rfl,fun p hp=> ?_,fun h2 w I μ a R hl hle hag hnd hr next Q hn=> ?_⟩
  · rcases List.mem_append.1 hp with hp | hp
    · exact List.mem_append_left _ (List.mem_map.2 ⟨p,hp,rfl⟩)
    · exact List.mem_append_right _ (List.mem_map.2 ⟨p,hp,rfl⟩)
  rw [if_pos (hwant a w I μ h2 hr)]
  refine .inl ?_
  have hs:=qej (s:=s) (a:=a) hr
  generalize hrd:kg E ops.toList ⟨dst,.call { callee:= .value fv,args:=as,argTypes:=ts },ty,pos,aft,gd⟩=rd at hs hr
  have inrd: ∀d,(d∈wt [fv]∨d∈wt (((as.toList.zip ts.toList).map fun p=>((p.2,p.1):TypeId×Operand)).map (·.2)))→d∈rd:=by
    intro d hd
    rw [←hrd]
    simp only [kg,List.mem_append,q8]
    rcases hd with hd|hd
    · exact .inl (.inr hd)
    · exact .inl (.inl hd)
  have e1:ev E (qas s rd) 0 fv= .fn (.func g) xa xc:=by
    rw [qez (s:=s) fun d hd=>yd s _ d (inrd d (.inl (by subst hd;simp [wt])))]
    exact hev
  have e2:j6 E (qas s rd) as.toList ts.toList=j6 E s as.toList ts.toList:=qa5 fun d hd=>yd s _ d (inrd d (.inr hd))
  have rf:=y5 (E:=E) hs 0 fv
  rw [e1] at rf
  obtain⟨fa,fc,hfv,hcr⟩: ∃fa fc,a.eval fv= .func (.func g) fa fc∧qr w I h2 μ (fa++as.map a.eval++fc).toList (xa++(j6 E s as.toList ts.toList++xc)):=by
    generalize hq:a.eval fv=q at rf
    cases rf with
    | fn _ fa fc _ _ ha hb h1 h2 =>
      refine⟨fa,fc,rfl, ?_⟩
      have e1:qr w I _ μ fa.toList xa:=⟨by simpa using ha,fun k v c e1 e2=>h1 k v c (by simpa using e1) e2⟩
      have e2':qr w I _ μ fc.toList xc:=⟨by simpa using hb,fun k v c e1 e2=>h2 k v c (by simpa using e1) e2⟩
      have e3:=qct (E:=E) hs as.toList ts.toList (by simpa using hsz)
      rw [e2] at e3
      have:=e1.app (e3.app e2')
      simpa [Array.toList_append] using this
  have hfz:frz (qd h2) owns=frz (qd h) owns:=qom fun b hb=>hag b (.inl (List.mem_append_left _ hb))
  obtain⟨I1,R1,F1,M1,_,hfzd,_⟩:=g6 owns I h2 R (show qne (qd h2) h2 from fun b=> .inl rfl)
  rw [hfz] at R1 F1 M1 hfzd
  have hcr1:=hcr.step' R F1 M1
  have hcr2:qr w I1 (qg h2 (frz (qd h) owns)) μ (fa++as.map a.eval++fc).toList us:=by
    rcases hus with⟨rfl,rfl⟩|⟨ho,rfl⟩
    · exact hcr1
    · refine ⟨by simpa using hcr1.1, fun k v c e1 e2 => ?_⟩
      rw [List.getElem?_map] at e2
      cases hq:(xa++(j6 E s as.toList ts.toList++xc))[k]? with
      |none=>rw [hq] at e2;cases e2
      | some c0 =>
        rw [hq] at e2
        simp at e2
        subst e2
        refine qae R1 (hcr1.2 k v c0 e1 hq) fun b hb t l fr hg=>hfzd b ?_ t l fr ?_
        · rw [ho];exact vd _ c0 (List.mem_of_getElem? hq) b hb
        · rw [hag b (.inl (List.mem_append_left _ (by rw [ho];exact vd _ c0 (List.mem_of_getElem? hq) b hb)))];exact hg
  unfold qh7 at hcall
  have hcall:=hcall (qg h2 (frz (qd h) owns)) fun b hb=>g7 _ _ _ b (.inr (hag b (.inl (List.mem_append_right _ hb))))
  unfold qh at hcall
  obtain⟨hent,hcall⟩:=hcall
  unfold Oper.wp
  rw [qhb hfv hent]
  rw [Oper.upon_enter]
  refine(hcall _ _ _ _ R1 hcr2).mono fun e w2 hp=> ?_
  obtain⟨r,h3,I2,μ2,⟨rfl,rfl⟩,he,hR2,hF2,hM2⟩:=hp
  rw [←vq] at he hR2 hF2 hM2
  cases e with
  |returned v'=>exact hn v' w2 I2 μ2 he hR2 (F1.trans hF2) (M1.trans hM2)
  |panicked chain=>exact he.elim
  |outgrown=>exact he.elim
def PJ (E : Env) (ops : Array Oper) (o : Oper) (s : qc) (h : qa) (X : AV → qa → Prop) : Prop :=
  ∀ (w : World) (I : Nat → Nat → Prop) (μ : Nat → Option Nat) (a : Act), RelH w I μ h → (∀ d ∈ kg E ops.toList o, Rep w I h μ (a.tmps.getD d undef) (lkp d s)) → ∀ (next : Act → World → Prop) (Q : Exit → Act → World → Prop),
    (∀v' x w' I' μ' h',Rep w' I' h' μ' v' x→RelH w' I' μ' h'→Fr w (Wr h μ) I w' (Wr h' μ') I'→HM h μ h' μ'→X x h'→Q (.panic [{ v:=v',recovered:=false }]) a w')→
    if Region.wanted o (yielded ops a.tmps) then o.wp E.P a w next Q∨(o.asks E.P a w∧LetsOut Q) else next (a.put o.dst undef) w
theorem q7s{dst:Option Tmp}{ty:TypeId}{pos:String}{aft:Array Edge}{gd:Option (Nat×Bool)}{fv:Operand}{as:Array Operand}{ts:Array TypeId}{g:FuncId}{xa xc:List AV}{v:AV}{h':qa}{X:AV→qa→Prop}
    (hwant: ∀a:Act,(∀w I μ h2,(∀d∈kg E ops.toList ⟨dst,.call { callee:= .value fv,args:=as,argTypes:=ts },ty,pos,aft,gd⟩,Rep w I h2 μ (a.tmps.getD d undef) (lkp d s))→Region.wanted ⟨dst,.call { callee:= .value fv,args:=as,argTypes:=ts },ty,pos,aft,gd⟩ (yielded ops a.tmps)=true))
    (hsz:as.size=ts.size) (hev:ev E s 0 fv= .fn (.func g) xa xc) (hown:qt (xa++(j6 E s as.toList ts.toList++xc))=[])
    (hcall:qh E g ((xa++(j6 E s as.toList ts.toList++xc)).map (res (qd h))) (qg h (frz (qd h) (qt (xa++(j6 E s as.toList ts.toList++xc))))) (fun r h''=>r= .panic v∧h''=h')) (hX:X v h'):
    PJ E ops ⟨dst,.call { callee:= .value fv,args:=as,argTypes:=ts },ty,pos,aft,gd⟩ s h X:=by
  intro w I μ a R hr next Q hn
  rw [if_pos (hwant a w I μ h hr)]
  refine .inl ?_
  rw [hown] at hcall
  have hcall:qh E g ((xa++(j6 E s as.toList ts.toList++xc)).map (res (qd h))) h (fun r h''=>r= .panic v∧h''=h'):=hcall
  have hs:=qej (s:=s) (a:=a) hr
  generalize hrd:kg E ops.toList ⟨dst,.call { callee:= .value fv,args:=as,argTypes:=ts },ty,pos,aft,gd⟩=rd at hs hr
  have inrd: ∀d,(d∈wt [fv]∨d∈wt (((as.toList.zip ts.toList).map fun p=>((p.2,p.1):TypeId×Operand)).map (·.2)))→d∈rd:=by
    intro d hd
    rw [←hrd]
    simp only [kg,List.mem_append,q8]
    rcases hd with hd|hd
    · exact .inl (.inr hd)
    · exact .inl (.inl hd)
  have e1:ev E (qas s rd) 0 fv= .fn (.func g) xa xc:=by
    rw [qez (s:=s) fun d hd=>yd s _ d (inrd d (.inl (by subst hd;simp [wt])))]
    exact hev
  have e2:j6 E (qas s rd) as.toList ts.toList=j6 E s as.toList ts.toList:=qa5 fun d hd=>yd s _ d (inrd d (.inr hd))
  have rf:=y5 (E:=E) hs 0 fv
  rw [e1] at rf
  obtain⟨fa,fc,hfv,hcr⟩: ∃fa fc,a.eval fv= .func (.func g) fa fc∧qr w I h μ (fa++as.map a.eval++fc).toList (xa++(j6 E s as.toList ts.toList++xc)):=by
    generalize hq:a.eval fv=q at rf
    cases rf with
    | fn _ fa fc _ _ ha hb h1 h2 =>
      refine⟨fa,fc,rfl, ?_⟩
      have e1:qr w I _ μ fa.toList xa:=⟨by simpa using ha,fun k v c e1 e2=>h1 k v c (by simpa using e1) e2⟩
      have e2':qr w I _ μ fc.toList xc:=⟨by simpa using hb,fun k v c e1 e2=>h2 k v c (by simpa using e1) e2⟩
      have e3:=qct (E:=E) hs as.toList ts.toList (by simpa using hsz)
      rw [e2] at e3
      have:=e1.app (e3.app e2')
      simpa [Array.toList_append] using this
  have hcr2:qr w I h μ (fa++as.map a.eval++fc).toList ((xa++(j6 E s as.toList ts.toList++xc)).map (res (qd h))):=by
    refine⟨by simpa using hcr.1,fun k v c e1 e2=> ?_⟩
    rw [List.getElem?_map] at e2
    cases hq:(xa++(j6 E s as.toList ts.toList++xc))[k]? with
    |none=>rw [hq] at e2;cases e2
    | some c0 =>
      rw [hq] at e2
      simp at e2
      subst e2
      refine qae R (hcr.2 k v c0 e1 hq) fun b hb=> ?_
      have:=vd _ c0 (List.mem_of_getElem? hq) b hb
      rw [hown] at this
      cases this
  unfold qh at hcall
  obtain⟨hent,hcall⟩:=hcall
  unfold Oper.wp
  rw [qhb hfv hent]
  rw [Oper.upon_enter]
  refine(hcall _ _ _ _ R hcr2).mono fun e w2 hp=> ?_
  obtain⟨r,h3,I2,μ2,⟨rfl,rfl⟩,he,hR2,hF2,hM2⟩:=hp
  cases e with
  |returned v'=>exact he.elim
  | panicked chain =>
    obtain⟨v',rfl,he⟩:=he
    exact hn v' v w2 I2 μ2 _ he hR2 hF2 hM2 hX
  |outgrown=>exact he.elim
theorem qy6 (hE : EnvOK E) {o : Oper} {K : Ft → qc → qa → Prop} {P : AV → qa → Prop} (hk : gy E F ops.toList B o s h K P)
    (hwant: ∀a:Act,(∀w I μ h2,(∀d∈kg E ops.toList o,Rep w I h2 μ (a.tmps.getD d undef) (lkp d s))→Region.wanted o (yielded ops a.tmps)=true)):
    (∃v ws f,JOK E ops F B o s h v ws f∧K f (qhy s o.dst v) (qg h ws))∨(PJ E ops o s h P∧∃v h',P v h'):=by
  have kp: ∀{d:Option Nat} {v:AV} {K:qc→Prop},yv F d v s K→(∀e,d=some e→e<F.nt)∧K (qhy s d v):=by
    intro d v K hk
    unfold yv at hk
    cases d with
    |none=>exact⟨fun e he=>(by cases he),hk⟩
    | some d =>
      simp only at hk
      cases hb:Nat.blt d F.nt with
      | true =>
        rw [hb] at hk
        refine⟨fun e he=> ?_,hk⟩
        cases he
        simp only [Nat.blt,Nat.ble_eq] at hb
        omega
      |false=>rw [hb] at hk;exact hk.elim
  have plain:(match qvp o with
      | true => nfN h.length fun b0 => match fOp E o s h b0 with
        |some ⟨v,ws,cs⟩=>qnj cs (qed v fun v=>nfH (qg h ws) fun h'=>yv F o.dst v s fun s'=>K ⟨kg E ops.toList o,o.dst,qbx o (evs E s (q8 E o)),b0::ws.map (·.1)⟩ s' h')
        |none=>False
      | false => match fOp E o s h B with
        |some ⟨v,ws,cs⟩=>qnj cs (qed v fun v=>nfH (qg h ws) fun h'=>yv F o.dst v s fun s'=>K ⟨kg E ops.toList o,o.dst,qbx o (evs E s (q8 E o)),ws.map (·.1)⟩ s' h')
        |none=>False)→∃v ws f,JOK E ops F B o s h v ws f∧K f (qhy s o.dst v) (qg h ws):=by
    intro hk
    split at hk
    · rw [qrj] at hk
      split at hk
      · rename_i v ws cs hf
        obtain⟨hc,hk⟩:=qj2 hk
        rw [ym,kv] at hk
        obtain⟨hd,hk⟩:=kp hk
        exact⟨v,ws,_,qov hE hf hc hd hwant (.inl ⟨rfl,by simp⟩) (fun p hp=>List.mem_cons_of_mem _ (List.mem_map.2 ⟨p,hp,rfl⟩)),hk⟩
      · exact hk.elim
    · split at hk
      · rename_i v ws cs hf
        obtain⟨hc,hk⟩:=qj2 hk
        rw [ym,kv] at hk
        obtain⟨hd,hk⟩:=kp hk
        exact⟨v,ws,_,qov hE hf hc hd hwant (.inr rfl) (fun p hp=>List.mem_map.2 ⟨p,hp,rfl⟩),hk⟩
      · exact hk.elim
  obtain⟨dst,op,ty,pos,aft,gd⟩:=o
  cases op with
  | call c =>
    obtain⟨cal,as,ts⟩:=c
    cases cal with
    |builtin b=>exact .inl (plain hk)
    |invoke r m=>exact .inl (plain hk)
    | value fv =>
      simp only [gy] at hk
      split at hk
      · rename_i g xa xc hsz hev
        have hsz:as.size=ts.size:=Nat.eq_of_beq_eq_true hsz
        split at hk
        · rw [wv] at hk
          obtain⟨br,v,ws,hcall,hk⟩:=hk
          rw [qbt,kv] at hk
          obtain⟨hd,hk⟩:=kp hk
          exact .inl ⟨v,ws,_,qtk (owns:=[]) (br:=br) hd hwant hsz hev (.inl ⟨rfl,rfl⟩) hcall,hk⟩
        · rw [wv, wv, kv] at hk
          rcases hk with⟨br,v,ws,hcall,hk⟩|⟨hown,v,h',hcall,hP⟩
          case inr=>exact .inr ⟨q7s hwant hsz hev hown hcall hP,v,h',hP⟩
          rw [qbt,kv] at hk
          obtain⟨hd,hk⟩:=kp hk
          refine .inl ⟨v,_,_,qtk (br:=br) hd hwant hsz hev (.inr ⟨rfl,rfl⟩) hcall, ?_⟩
          rw [vq]
          exact hk
      · exact hk.elim
  |_=>exact .inl (plain hk)
structure St where
  o:Oper
  s:qc
  h:qa
  v:AV
  ws:List (Nat×AB)
  f:Ft
def qnf(s s':qc):Prop:= ∀(w:World) (I:Nat→Nat→Prop) (h:qa) (μ:Nat→Option Nat) (d:Nat) (x:Value),Rep w I h μ x (lkp d s)→Rep w I h μ x (lkp d s')
inductive Run (E:Env) (ops:Array Oper) (F:Fp) (B:Nat):List Oper→qc→qa→List St→qc→qa→Prop where
  |nil (s:qc) (h:qa):Run E ops F B [] s h [] s h
  |cons (o:Oper) (r:List Oper) (s s':qc) (h:qa) (v:AV) (ws:List (Nat×AB)) (f:Ft) (sts:List St) (sf:qc) (hf:qa) (href:qnf s s') (hj:JOK E ops F B o s' h v ws f)
      (hr:Run E ops F B r (qhy s' o.dst v) (qg h ws) sts sf hf):Run E ops F B (o::r) s h (⟨o,s',h,v,ws,f⟩::sts) sf hf
theorem yg(s:qc):qnf s s:=fun _ _ _ _ _ _ r=>r
theorem qc4{d:Nat}{b:Bool}{x:AV}(hl:lkp d s= .bool b)(hx:(b=true∧x= .t)∨(b=false∧x= .f)):qnf s ((d,x)::s):=by
  intro w I h μ e v r
  simp only [lkp]
  cases hb:Nat.beq e d with
  | true =>
    obtain rfl:=Nat.eq_of_beq_eq_true hb
    rw [hl] at r
    have hv:=qu r rfl
    rcases hx with⟨rfl,rfl⟩|⟨rfl,rfl⟩
    · rw [hv];exact .t
    · rw [hv];exact .f
  |false=>exact r
def qy1(E:Env)(ops:Array Oper)(F:Fp)(B:Nat)(X:AV→qa→Prop)(l:List Oper)(fts:List Ft)(s:qc)(h:qa):Prop:=
  ∃(l1:List Oper) (o:Oper) (r:List Oper) (sts:List St) (sf:qc) (hf:qa) (s':qc),l=l1++o::r∧Run E ops F B l1 s h sts sf hf∧qnf sf s'∧PJ E ops o s' hf X∧pOK E ops.toList (fts.reverse++sts.map (·.f)) o B hf=true∧F.n0≤hf.length
theorem qy1.cons{E:Env}{ops:Array Oper}{F:Fp}{B:Nat}{X:AV→qa→Prop}{o:Oper}{r:List Oper}{fts:List Ft}{s s':qc}{h:qa}{v:AV}{ws:List (Nat×AB)}{f:Ft}(href:qnf s s')(hj:JOK E ops F B o s' h v ws f)
    (p:qy1 E ops F B X r (f::fts) (qhy s' o.dst v) (qg h ws)):qy1 E ops F B X (o::r) fts s h:=by
  obtain⟨l1,o',r',sts,sf,hf,s2,rfl,h1,h2,h3,h4,h5⟩:=p
  exact⟨o::l1,o',r',_,sf,hf,s2,rfl,.cons o l1 s s' h v ws f sts sf hf href hj h1,h2,h3,by simpa using h4,h5⟩
theorem qqg (hE : EnvOK E) {K : qc → qa → Prop} {X : AV → qa → Prop} : ∀ (l : List Oper) (fts : List Ft) (s : qc) (h : qa), aDr E F ops.toList B K X l fts s h →
    (∃sts sf hf,Run E ops F B l s h sts sf hf∧dOK ops.toList (fts.reverse++sts.map (·.f)) B=true∧hf.length≤B∧K sf hf)∨qy1 E ops F B X l fts s h
  | [], fts, s, h, hk => by
    simp only [aDr] at hk
    split at hk
    · rename_i hb
      simp only [Bool.and_eq_true] at hb
      exact .inl ⟨[],s,h,.nil s h,by simpa using hb.1,by simpa using hb.2,hk⟩
    · exact hk.elim
  | o :: r, fts, s, h, hk => by
    -- it runs
    have run: ∀{s':qc},qnf s s'→gy E F ops.toList B o s' h (fun f=>aDr E F ops.toList B K X r (f::fts)) (drP E F ops.toList B X o fts h)→
        (∀a:Act,(∀w I μ h2,(∀d∈kg E ops.toList o,Rep w I h2 μ (a.tmps.getD d undef) (lkp d s'))→Region.wanted o (yielded ops a.tmps)=true))→
        (∃sts sf hf,Run E ops F B (o::r) s h sts sf hf∧dOK ops.toList (fts.reverse++sts.map (·.f)) B=true∧hf.length≤B∧K sf hf)∨qy1 E ops F B X (o::r) fts s h:=by
      intro s' hr hk hw
      rcases qy6 hE hk hw with⟨v,ws,f,hj,hk⟩|⟨hp,v0,k0,hP0⟩
      · rcases qqg hE r _ _ _ hk with ⟨sts, sf, hf, h1, h2, h3, h4⟩ | hp
        · exact .inl ⟨_,sf,hf,.cons o r s s' h v ws f sts sf hf hr hj h1,by simpa using h2,h3,h4⟩
        · exact .inr (hp.cons hr hj)
      · refine .inr ?_
        have hb:(pOK E ops.toList fts.reverse o B h&&Nat.ble F.n0 h.length)=true:=by
          unfold drP at hP0
          split at hP0
          · assumption
          · exact hP0.elim
        refine⟨[],o,r,[],s,h,s',rfl,.nil s h,hr,fun w I μ a R hrd next Q hn=>hp w I μ a R hrd next Q fun v' x w' I' μ' h' q1 q2 q3 q4 q5=>hn v' x w' I' μ' h' q1 q2 q3 q4 ?_, ?_, ?_⟩
        · unfold drP at q5
          rw [hb] at q5
          exact q5
        · simp only [Bool.and_eq_true] at hb
          simpa using hb.1
        · simp only [Bool.and_eq_true] at hb
          exact Nat.le_of_ble_eq_true hb.2
    have skip: ∀{s':qc},qnf s s'→(yv F o.dst jw s' fun s=>aDr E F ops.toList B K X r (⟨kg E ops.toList o,o.dst,[],[]⟩::fts) s h)→
        (∀a:Act,(∀w I μ h2,(∀d∈kg E ops.toList o,Rep w I h2 μ (a.tmps.getD d undef) (lkp d s'))→Region.wanted o (yielded ops a.tmps)=false))→
        (∃sts sf hf,Run E ops F B (o::r) s h sts sf hf∧dOK ops.toList (fts.reverse++sts.map (·.f)) B=true∧hf.length≤B∧K sf hf)∨qy1 E ops F B X (o::r) fts s h:=by
      intro s' hr hk hw
      have hk':(∀d,o.dst=some d→d<F.nt)∧aDr E F ops.toList B K X r (⟨kg E ops.toList o,o.dst,[],[]⟩::fts) (qhy s' o.dst jw) h:=by
        unfold yv at hk
        cases hd:o.dst with
        |none=>rw [hd] at hk;exact⟨fun e he=>(by cases he),hk⟩
        | some d =>
          rw [hd] at hk
          simp only at hk
          cases hb:Nat.blt d F.nt with
          | true =>
            rw [hb] at hk
            refine⟨fun e he=> ?_,hk⟩
            have he:some d=some e:=he
            injection he with he
            subst he
            exact Nat.le_of_ble_eq_true hb
          |false=>rw [hb] at hk;exact hk.elim
      rcases qqg hE r _ _ _ hk'.2 with⟨sts,sf,hf,h1,h2,h3,h4⟩|hp
      · exact .inl ⟨_,sf,hf,.cons o r s s' h jw [] _ sts sf hf hr (qtl hk'.1 hw) h1,by simpa using h2,h3,h4⟩
      · exact .inr (hp.cons hr (qtl hk'.1 hw))
    simp only [aDr] at hk
    split at hk
    · rename_i hg
      exact run (yg s) hk fun a _=>by simp [Region.wanted,hg]
    · rename_i j want hg
      split at hk
      · rename_i d v hgo
        obtain⟨hrd,hv,hy⟩:=q3x (E:=E) hg hgo
        -- what the guard says, by what its slot bears
        have says: ∀{s':qc} {c:Bool} (x:AV),qnk x=some c→lkp d s'=x→∀a:Act,(∀w I μ h2,(∀e∈kg E ops.toList o,Rep w I h2 μ (a.tmps.getD e undef) (lkp e s'))→Region.wanted o (yielded ops a.tmps)=(some c==some want)):=by
          intro s' c x hx hl a w I μ h2 hr
          have h3:=qu (hl▸hr d hrd) hx
          have h4:=hy a.tmps
          rw [getD_some h3] at h4
          simp only [Region.wanted,hg,h4]
        have hl0: ∀(x:AV),lkp d ((d,x)::s)=x:=fun x=>by simp [lkp]
        split at hk
        · exact run (yg s) hk (says .t rfl hv.symm)
        · exact run (yg s) hk (says .f rfl hv.symm)
        · rename_i b
          obtain⟨h1,h2⟩:=v6 hk
          cases hb:b with
          |true=>exact run (qc4 hv.symm (.inl ⟨hb,rfl⟩)) (h1 hb) (says .t rfl (hl0 _))
          |false=>exact skip (qc4 hv.symm (.inr ⟨hb,rfl⟩)) (h2 hb) (says .f rfl (hl0 _))
        · rename_i b
          obtain⟨h1,h2⟩:=v6 hk
          cases hb:b with
          |true=>exact skip (qc4 hv.symm (.inl ⟨hb,rfl⟩)) (h1 hb) (says .t rfl (hl0 _))
          |false=>exact run (qc4 hv.symm (.inr ⟨hb,rfl⟩)) (h2 hb) (says .f rfl (hl0 _))
        · exact skip (yg s) hk (says .t rfl hv.symm)
        · exact skip (yg s) hk (says .f rfl hv.symm)
        · refine skip (yg s) hk fun a w I μ h2 hr => ?_
          have h3:=hr d hrd
          rw [←hv] at h3
          have h4:=hy a.tmps
          have:yielded ops a.tmps j=none:=by
            rw [h4]
            generalize hq:a.tmps.getD d undef=q at h3
            cases h3 with
            | tup vs _ hl hc =>
              rw [Array.getD_eq_getD_getElem?] at hq
              cases hq2:a.tmps[d]? with
              |none=>rfl
              |some v=>rw [hq2] at hq;simp at hq;subst hq;rfl
          simp only [Region.wanted,hg,this]
          rfl
        · exact hk.elim
      · exact hk.elim
end
end Go.AM
namespace Go.AM
set_option linter.unusedSectionVars false
variable [Lay] [Dfr]
section
variable {E:Env} {F:Fp} {w w' w0:World} {I I' I0:Nat→Nat→Prop} {h h0 h' h2 hf:qa} {μ μ' μ0:Nat→Option Nat} {a:Act} {s s' sf:qc} {ops:Array Oper} {B:Nat} {sts:List St}
theorem uk{x y:List Nat}{b:Nat}(hx:b∈x)(hy:b∈y):qoy x y=true:=by
  induction x with
  |nil=>cases hx
  | cons c r ih =>
    simp only [qoy,Bool.or_eq_true,List.any_eq_true]
    rcases List.mem_cons.1 hx with e|e
    · subst e;exact .inl ⟨b,hy,Nat.beq_refl b⟩
    · exact .inr (ih e)
theorem qkl{d:Option Nat}{l:List Nat}{e:Nat}(hd:d=some e)(hl:e∈l):qxt d l=true:=by
  subst hd
  simp only [qxt,List.any_eq_true]
  exact⟨e,hl,Nat.beq_refl e⟩
theorem qn3{acc:List Nat}: ∀{es:List Nat} {i:Nat},Nat.testBit (qj0 acc es) i=true→∃e∈es,i=e∨Nat.testBit (acc.getD e 0) i=true
  |[],i,hb=>by simp [qj0] at hb
  | e :: r, i, hb => by
    simp only [qj0] at hb
    change Nat.testBit ((1<<<e|||acc.getD e 0)|||qj0 acc r) i=true at hb
    rw [Nat.testBit_or,Nat.testBit_or,Bool.or_eq_true,Bool.or_eq_true] at hb
    rcases hb with(hb|hb)|hb
    · rw [Nat.one_shiftLeft, Nat.testBit_two_pow] at hb
      exact⟨e,by simp,.inl (of_decide_eq_true hb).symm⟩
    · exact⟨e,by simp,.inr hb⟩
    · obtain ⟨e', h1, h2⟩ := qn3 hb
      exact⟨e',by simp [h1],h2⟩
def yi(ops:List Oper)(L:Nat→Prop):Prop:= ∀k o,ops[k]? =some o→L k→∀e∈xe o,L e
theorem qj1 {all : List Oper} {L : Nat → Prop} (hc : yi all L) : ∀ (l : List Oper) (acc : List Nat), (∀ m, l[m]? = all[acc.length + m]?) →
    (∀k o i,k<acc.length→all[k]? =some o→Nat.testBit (acc.getD k 0) i=true→(∀e∈xe o,L e)→L i)→
    ∀k o i,all[k]? =some o→Nat.testBit ((qiz acc l).getD k 0) i=true→(∀e∈xe o,L e)→L i
  | [], acc, hl, ih, k, o, i, ho, hb, he => by
    simp only [qiz] at hb
    rcases Nat.lt_or_ge k acc.length with h1|h1
    · exact ih k o i h1 ho hb he
    · simp [List.getD_eq_getElem?_getD,List.getElem?_eq_none_iff.2 h1] at hb
  | q :: r, acc, hl, ih, k, o, i, ho, hb, he => by
    simp only [qiz] at hb
    refine qj1 hc r (acc++[qj0 acc (xe q)]) (fun m=> ?_) (fun k o i hk ho hb he=> ?_) k o i ho hb he
    · have := hl (m + 1)
      simp only [List.getElem?_cons_succ] at this
      rw [this]
      simp only [List.length_append,List.length_singleton]
      congr 1
      omega
    · simp only [List.length_append, List.length_singleton] at hk
      by_cases hk':k<acc.length
      · refine ih k o i hk' ho ?_ he
        rw [List.getD_eq_getElem?_getD,List.getElem?_append_left hk'] at hb
        rw [List.getD_eq_getElem?_getD]
        exact hb
      · have hk2 : k = acc.length := by omega
        subst hk2
        rw [List.getD_eq_getElem?_getD,List.getElem?_append_right (Nat.le_refl _)] at hb
        simp at hb
        have hq:all[acc.length]? =some q:=by have:=hl 0;simpa using this.symm
        rw [ho] at hq
        cases hq
        obtain⟨e,h1,h2⟩:=qn3 hb
        rcases h2 with h2|h2
        · subst h2;exact he i h1
        · rcases Nat.lt_or_ge e acc.length with h3 | h3
          · cases hq2 : all[e]? with
            | none =>
              have:all.length≤e:=List.getElem?_eq_none_iff.1 hq2
              have:=(List.getElem?_eq_some_iff.1 ho).1
              omega
            |some oe=>exact ih e oe i h3 hq2 h2 (hc e oe hq2 (he e h1))
          · simp [List.getD_eq_getElem?_getD,List.getElem?_eq_none_iff.2 h3] at h2
theorem qkc{m:Nat}{y:Ft}: ∀(l:List Ft) (k:Nat),qqt m y k l=true→∀(i:Nat) (x:Ft),l[i]? =some x→xf x y=true→Nat.testBit m (k+i)=true
  |[],_,_,i,x,hx,_=>by simp at hx
  | z :: r, k, hc, i, x, hx, hcl => by
    simp only [qqt,Bool.and_eq_true,Bool.or_eq_true,Bool.not_eq_true'] at hc
    cases i with
    | zero =>
      simp at hx
      subst hx
      rcases hc.1 with h1|h1
      · rw [hcl] at h1;cases h1
      · exact h1
    | succ i =>
      have:=qkc r (k+1) hc.2 i x (by simpa using hx) hcl
      rwa [show k+(i+1)=k+1+i by omega]
theorem qew {ms : List Nat} {all : List Ft} : ∀ (l : List Ft) (k : Nat), (∀ m, l[m]? = all[k + m]?) → qev ms all k l = true → ∀ (i j : Nat) (x y : Ft), k ≤ j → i < j → all[i]? = some x → all[j]? = some y → xf x y = true → Nat.testBit (ms.getD j 0) i = true
  | [], k, hl, _, i, j, x, y, hkj, _, _, hy, _ => by
    have:=hl (j-k)
    rw [show k+(j-k)=j by omega,hy] at this
    simp at this
  | z :: r, k, hl, hc, i, j, x, y, hkj, hij, hx, hy, hcl => by
    simp only [qev,Bool.and_eq_true] at hc
    by_cases e:j=k
    · subst e
      have hz:z=y:=by
        have:=hl 0
        rw [Nat.add_zero,hy] at this
        simpa using this
      subst hz
      have:=qkc _ 0 hc.1 i x (by rw [List.getElem?_take_of_lt hij];exact hx) hcl
      rwa [Nat.zero_add] at this
    · exact qew r (k+1) (fun m=>by have:=hl (m+1);simp only [List.getElem?_cons_succ] at this;rw [this];congr 1;omega) hc.2 i j x y (by omega) hij hx hy hcl
theorem qcu: ∀(l:List Oper) (k:Nat),qoa k l=true→∀(i:Nat) (o:Oper),l[i]? =some o→∀e∈xe o,e<k+i
  |[],_,_,i,o,ho,_,_=>by simp at ho
  | q :: r, k, hb, i, o, ho, e, he => by
    simp only [qoa,Bool.and_eq_true] at hb
    cases i with
    | zero =>
      simp at ho
      subst ho
      have:=List.all_eq_true.1 hb.1 e he
      exact Nat.le_of_ble_eq_true this
    | succ i =>
      have:=qcu r (k+1) hb.2 i o (by simpa using ho) e he
      omega
theorem qg6{ops:List Oper}{fts:List Ft}(hd:dOK ops fts B=true){L:Nat→Prop}(hc:yi ops L){i j:Nat}{x y:Ft}{o:Oper}(hij:i<j)(hx:fts[i]? =some x)(hy:fts[j]? =some y)(ho:ops[j]? =some o)
    (hcl:xf x y=true) (he: ∀e∈xe o,L e):L i:=by
  simp only [dOK,Bool.and_eq_true] at hd
  have hb:=qew fts 0 (fun m=>by simp) hd.1.2 i j x y (Nat.zero_le _) hij hx hy hcl
  exact qj1 hc ops [] (fun m=>by simp) (fun k o i hk=>by simp at hk) j o i ho hb he
def Sk(sts:List St)(sf:qc)(k:Nat):qc:=match sts[k]? with|some st=>st.s|none=>sf
def Hk(sts:List St)(hf:qa)(k:Nat):qa:=match sts[k]? with|some st=>st.h|none=>hf
theorem Run.get{l:List Oper}(r:Run E ops F B l s h sts sf hf):sts.length=l.length∧qnf s (Sk sts sf 0)∧Hk sts hf 0=h∧
    ∀k st,sts[k]? =some st→l[k]? =some st.o∧JOK E ops F B st.o st.s st.h st.v st.ws st.f∧qnf (qhy st.s st.o.dst st.v) (Sk sts sf (k+1))∧Hk sts hf (k+1)=qg st.h st.ws:=by
  induction r with
  |nil s h=>exact⟨rfl,yg s,rfl,fun k st hk=>by simp at hk⟩
  | cons o r s s' h v ws f sts sf hf href hj hr ih =>
    obtain⟨h1,h2,h3,h4⟩:=ih
    refine⟨by simp [h1],href,rfl,fun k st hk=> ?_⟩
    cases k with
    | zero =>
      simp at hk
      subst hk
      exact⟨rfl,hj,h2,h3⟩
    | succ k =>
      obtain⟨q1,q2,q3,q4⟩:=h4 k st (by simpa using hk)
      exact⟨by simpa using q1,q2,q3,q4⟩
def qxs(sts:List St)(j d:Nat):Prop:= ∃st,sts[j]? =some st∧st.o.dst=some d
def q75(sts:List St)(j b:Nat):Prop:= ∃st,sts[j]? =some st∧b∈st.f.wb
def qw5(L:Nat→Prop)(wr:Nat→Nat→Prop)(d k:Nat):Prop:=(∀j,j<k→wr j d→L j)∧(∀j,k≤j→wr j d→¬L j)
def qsh (F : Fp) (w0 : World) (I0 : Nat → Nat → Prop) (μ0 : Nat → Option Nat) (h0 : qa) (B : Nat) (sts : List St) (sf : qc) (hf : qa) (L : Nat → Prop) (a : Act) (w : World) : Prop :=
  ∃ I μ h2, RelH w I μ h2 ∧ Fr w0 (Wr h0 μ0) I0 w (Wr h2 μ) I ∧ HM h0 μ0 h2 μ ∧ a.tmps.size = F.nt ∧ a.defers = Dfr.ds ∧ h2.length = B ∧
    (∀d k,k≤sts.length→qw5 L (qxs sts) d k→Rep w I h2 μ (a.tmps.getD d undef) (lkp d (Sk sts sf k)))∧(∀b k,k≤sts.length→qw5 L (q75 sts) b k→qd h2 b=qd (Hk sts hf k) b)
structure Steps (E:Env) (ops:Array Oper) (F:Fp) (B:Nat) (l:List Oper) (s:qc) (h:qa) (sts:List St) (sf:qc) (hf:qa):Prop where
  run:Run E ops F B l s h sts sf hf
  order: ∀{L:Nat→Prop},yi l L→∀{i j:Nat} {x y:St},i<j→sts[i]? =some x→sts[j]? =some y→xf x.f y.f=true→(∀e∈xe y.o,L e)→L i
  wbB: ∀st∈sts,∀b∈st.f.wb,b<B
  le:hf.length≤B
theorem Steps.of(run:Run E ops F B ops.toList s h sts sf hf)(ok:dOK ops.toList (sts.map (·.f)) B=true)(le:hf.length≤B):Steps E ops F B ops.toList s h sts sf hf where
  run:=run
  order:=fun hc _ _ _ y hij hx hy hcl he=>qg6 ok hc hij (by simp [hx]) (by simp [hy]) (run.get.2.2.2 _ y hy).1 hcl he
  wbB:=fun st hst b hb=>by
    simp only [dOK,Bool.and_eq_true] at ok
    have:=List.all_eq_true.1 ok.2 st.f (List.mem_map.2 ⟨st,hst,rfl⟩)
    have:=List.all_eq_true.1 this b hb
    exact Nat.le_of_ble_eq_true this
  le:=le
theorem Steps.hk_le {l : List Oper} (T : Steps E ops F B l s h sts sf hf) : ∀ m k, k + m = sts.length → (Hk sts hf k).length ≤ B := by
  have grow: ∀(ws:List (Nat×AB)) (h:qa),h.length≤(qg h ws).length:=by
    have one: ∀(h:qa) (b:Nat) (v:AB),h.length≤(qe h b v).length:=by
      intro h
      induction h with
      |nil=>intro b v;simp
      | cons x r ih =>
        intro b v
        cases b with
        |zero=>simp [qe]
        |succ b=>simpa [qe] using ih b v
    intro ws
    induction ws with
    |nil=>intro h;exact Nat.le_refl _
    |cons p r ih=>intro h;exact Nat.le_trans (one h p.1 p.2) (ih _)
  intro m
  induction m with
  | zero =>
    intro k hk
    have:Hk sts hf k=hf:=by simp [Hk,List.getElem?_eq_none_iff.2 (show sts.length≤k by omega)]
    rw [this]
    exact T.le
  | succ m ih =>
    intro k hk
    have hk':k<sts.length:=by omega
    obtain⟨_,_,_,q⟩:=T.run.get.2.2.2 k _ (List.getElem?_eq_getElem hk')
    have:=ih (k+1) (by omega)
    rw [q] at this
    have e:Hk sts hf k=sts[k].h:=by simp [Hk,List.getElem?_eq_getElem hk']
    rw [e]
    exact Nat.le_trans (grow _ _) this
theorem qof {l : List Oper} (T : Steps E ops F B l s h sts sf hf) {L : Nat → Prop} (hc : yi l L) {i : Nat} {o : Oper} (ho : l[i]? = some o) (hi : ¬ L i) (he : ∀ e ∈ xe o, L e) (D : qsh F w0 I0 μ0 h0 B sts sf hf L a w)
    {next:Act→World→Prop} {Q:Exit→Act→World→Prop} (hn: ∀a w,qsh F w0 I0 μ0 h0 B sts sf hf (fun k=>L k∨k=i) a w→next a w):
    if Region.wanted o (yielded ops a.tmps) then o.wp E.P a w next Q∨(o.asks E.P a w∧LetsOut Q) else next (a.put o.dst undef) w:=by
  obtain⟨g1,_,_,g4⟩:=T.run.get
  have hin:i<sts.length:=by
    rw [g1]
    exact(List.getElem?_eq_some_iff.1 ho).1
  have hst:sts[i]? =some sts[i]:=List.getElem?_eq_getElem hin
  generalize hste:sts[i]=st at hst
  obtain⟨e1,J,e3,e4⟩:=g4 i st hst
  have eo:st.o=o:=by
    rw [ho] at e1
    exact(Option.some.inj e1).symm
  subst eo
  obtain⟨j1,j2,j3,J⟩:=J
  obtain⟨I,μ,h2,R,fr,hm,hnt,hnd,hlen,hS,hH⟩:=D
  have eS:Sk sts sf i=st.s:=by simp [Sk,hst]
  have eH:Hk sts hf i=st.h:=by simp [Hk,hst]
  -- those ahead that xf have come, those behind have not
  have before: ∀j x,j<i→sts[j]? =some x→xf x.f st.f=true→L j:=fun j x hj hx hcl=>T.order hc hj hx hst hcl he
  have behind: ∀j x,i<j→sts[j]? =some x→xf st.f x.f=true→¬L j:=by
    intro j x hj hx hcl hL
    have hx':=(g4 j x hx).1
    exact hi (T.order hc hj hst hx hcl (hc j x.o hx' hL))
  have upR: ∀d∈st.f.rd,qw5 L (qxs sts) d i:=by
    intro d hd
    refine⟨fun j hj ⟨x,hx,hxd⟩=>before j x hj hx ?_,fun j hj ⟨x,hx,hxd⟩=> ?_⟩
    · have := (g4 j x hx).2.1.2.1
      simp [xf,qkl (this.trans hxd) hd]
    · by_cases e : i = j
      · subst e;exact hi
      · have := (g4 j x hx).2.1.2.1
        exact behind j x (by omega) hx (by simp [xf,qkl (this.trans hxd) hd])
  have upB: ∀b,b∈st.f.br∨b∈st.f.wb→qw5 L (q75 sts) b i:=by
    intro b hb
    refine⟨fun j hj ⟨x,hx,hxb⟩=>before j x hj hx ?_,fun j hj ⟨x,hx,hxb⟩=> ?_⟩
    · rcases hb with hb | hb
      · simp [xf,uk hxb hb]
      · simp [xf,uk hxb hb]
    · by_cases e : i = j
      · subst e;exact hi
      · refine behind j x (by omega) hx ?_
        rcases hb with hb|hb
        · simp [xf,uk hxb hb]
        · simp [xf,uk hb hxb]
  have hle:st.h.length≤B:=by rw [←eH];exact T.hk_le (sts.length-i) i (by omega)
  have hwb: ∀p∈st.ws,p.1<B:=fun p hp=>T.wbB st (List.mem_of_getElem? hst) p.1 (j3 p hp)
  refine J h2 w I μ a R hlen hle (fun b hb=>by rw [hH b i (by omega) (upB b hb),eH]) hnd (fun d hd=>by have:=hS d i (by omega) (upR d hd);rwa [eS] at this) next Q fun v' w' I' μ' hrep hR hF hM=> ?_
  refine hn _ _ ⟨I',μ',qg h2 st.ws,hR,fr.trans hF,hm.trans hM,by cases st.o.dst <;>simp [Act.put,hnt],by cases st.o.dst <;>exact hnd, ?_,fun d k hk up=> ?_,fun b k hk up=> ?_⟩
  · rw [qoo _ _ fun p hp=>by rw [hlen];exact hwb p hp,hlen]
  · by_cases hdi : st.o.dst = some d
    · -- it is the one that was written now
      have hik:i<k:=by
        rcases Nat.lt_or_ge i k with h1|h1
        · exact h1
        · exact absurd (.inr rfl) (up.2 i h1 ⟨st,hst,hdi⟩)
      have no: ∀j,i<j→j<k→¬qxs sts j d:=by
        rintro j h1 h2 ⟨x,hx,hxd⟩
        rcases up.1 j h2 ⟨x,hx,hxd⟩ with h3|h3
        · refine behind j x h1 hx ?_ h3
          have e5:=(g4 j x hx).2.1.2.1
          simp [xf,q83,j2,hdi,e5,hxd]
        · omega
      have chain: ∀m,i+1+m≤k→Rep w' I' (qg h2 st.ws) μ' ((a.put st.o.dst v').tmps.getD d undef) (lkp d (Sk sts sf (i+1+m))):=by
        intro m
        induction m with
        | zero =>
          intro _
          refine e3 _ _ _ _ d _ ?_
          have hdlt:d<a.tmps.size:=by rw [hnt];exact j1 d hdi
          have ev:(a.put st.o.dst v').tmps.getD d undef=v':=by
            rw [hdi];simp [Act.put,hdlt]
          have el:lkp d (qhy st.s st.o.dst st.v)=st.v:=by rw [hdi];simp [qhy,lkp]
          rw [ev,el]
          exact hrep
        | succ m ih =>
          intro hm
          have hj:i+1+m<sts.length:=by omega
          obtain⟨_,_,q3,_⟩:=g4 (i+1+m) _ (List.getElem?_eq_getElem hj)
          have:=ih (by omega)
          have eSk:Sk sts sf (i+1+m)=sts[i+1+m].s:=by simp [Sk,List.getElem?_eq_getElem hj]
          rw [eSk] at this
          have nd:sts[i+1+m].o.dst≠some d:=fun e=>no (i+1+m) (by omega) (by omega) ⟨_,List.getElem?_eq_getElem hj,e⟩
          refine q3 _ _ _ _ d _ ?_
          have el:lkp d (qhy sts[i+1+m].s sts[i+1+m].o.dst sts[i+1+m].v)=lkp d sts[i+1+m].s:=by
            cases hq:sts[i+1+m].o.dst with
            |none=>rfl
            | some e =>
              have hne:d≠e:=by rintro rfl;exact nd hq
              simp only [qhy,lkp]
              cases hb:Nat.beq d e with
              |true=>exact absurd (Nat.eq_of_beq_eq_true hb) hne
              |false=>rfl
          rw [el]
          exact this
      have:=chain (k-(i+1)) (by omega)
      rwa [show i+1+(k-(i+1))=k by omega] at this
    · have up' : qw5 L (qxs sts) d k := by
        refine⟨fun j hj hw=>(up.1 j hj hw).resolve_right ?_,fun j hj hw hL=>up.2 j hj hw (.inl hL)⟩
        rintro rfl
        obtain⟨x,hx,hxd⟩:=hw
        rw [hst] at hx
        cases hx
        exact hdi hxd
      have:=(hS d k hk up').step R hF hM
      have ev:(a.put st.o.dst v').tmps.getD d undef=a.tmps.getD d undef:=by
        cases hq:st.o.dst with
        |none=>rfl
        | some e =>
          have hne:e≠d:=by rintro rfl;exact hdi hq
          simp [Act.put,Array.getElem?_setIfInBounds_ne hne]
      rw [ev]
      exact this
  · by_cases hbi : b ∈ st.f.wb
    · have hik : i < k := by
        rcases Nat.lt_or_ge i k with h1|h1
        · exact h1
        · exact absurd (.inr rfl) (up.2 i h1 ⟨st,hst,hbi⟩)
      have no: ∀j,i<j→j<k→¬q75 sts j b:=by
        rintro j h1 h2 ⟨x,hx,hxb⟩
        rcases up.1 j h2 ⟨x,hx,hxb⟩ with h3|h3
        · exact behind j x h1 hx (by simp [xf,uk hbi hxb]) h3
        · omega
      have chain: ∀m,i+1+m≤k→qd (qg h2 st.ws) b=qd (Hk sts hf (i+1+m)) b:=by
        intro m
        induction m with
        | zero =>
          intro _
          rw [Nat.add_zero,e4]
          refine g7 _ _ _ b (.inr ?_)
          rw [hH b i (by omega) (upB b (.inr hbi)),eH]
        | succ m ih =>
          intro hm
          have hj:i+1+m<sts.length:=by omega
          obtain⟨_,q2,_,q4⟩:=g4 (i+1+m) _ (List.getElem?_eq_getElem hj)
          rw [show i+1+(m+1)=i+1+m+1 by omega,q4,ih (by omega)]
          have eHk:Hk sts hf (i+1+m)=sts[i+1+m].h:=by simp [Hk,List.getElem?_eq_getElem hj]
          rw [eHk,yj]
          intro hmem
          obtain⟨p,hp,rfl⟩:=List.mem_map.1 hmem
          exact no (i+1+m) (by omega) (by omega) ⟨_,List.getElem?_eq_getElem hj,q2.2.2.1 p hp⟩
      have:=chain (k-(i+1)) (by omega)
      rwa [show i+1+(k-(i+1))=k by omega] at this
    · have up' : qw5 L (q75 sts) b k := by
        refine⟨fun j hj hw=>(up.1 j hj hw).resolve_right ?_,fun j hj hw hL=>up.2 j hj hw (.inl hL)⟩
        rintro rfl
        obtain⟨x,hx,hxd⟩:=hw
        rw [hst] at hx
        cases hx
        exact hbi hxd
      rw [yj _ _ _ fun hmem=>by obtain⟨p,hp,e⟩:=List.mem_map.1 hmem;exact hbi (e▸j3 p hp)]
      exact hH b k hk up'
end
end Go.AM
namespace Go.AM
set_option linter.unusedSectionVars false
variable [Lay] [Dfr]
section
variable {E:Env} {F:Fp} {w w' w0:World} {I I' I0:Nat→Nat→Prop} {h h0 h' h2 hf:qa} {μ μ' μ0:Nat→Option Nat} {a:Act} {s s' sf:qc} {ops:Array Oper} {B:Nat} {sts:List St}
def qs1(n0:Nat)(K:qc→qa→Prop)(s:qc)(h:qa):Prop:=match Nat.ble n0 h.length with|true=>K s h|false=>False
theorem qjg{listed:Array Bool}{i:Nat}(h:listed.getD i true=false):listed.getD i false=false:=by
  rcases Nat.lt_or_ge i listed.size with h'|h'
  · simp [h'] at h ⊢;exact h
  · simp [Array.getElem?_eq_none h'] at h
theorem qqx(m j:Nat):(Array.replicate m false).getD j false=false:=by
  rcases Nat.lt_or_ge j m with h|h
  · simp [h]
  · simp [Array.getD_eq_getD_getElem?,Array.getElem?_eq_none (show(Array.replicate m false).size≤j by simpa using h)]
theorem qcv{o:Oper}{e:Nat}:e∈xe o↔∃x∈o.after,Region.binds .any x=true∧x.on=e:=by
  simp only [xe,List.mem_map,List.mem_filter,Array.mem_toList_iff]
  constructor
  · rintro⟨x,⟨h1,h2⟩,h3⟩;exact⟨x,h1,h2,h3⟩
  · rintro⟨x,h1,h2,h3⟩;exact⟨x,⟨h1,h2⟩,h3⟩
def unl:List Bool→Nat
  |[]=>0
  |true::r=>unl r
  |false::r=>unl r+1
theorem qr9: ∀(l:List Bool) (i:Nat),l[i]? =some false→unl (l.set i true)+1=unl l
  |[],i,h=>by simp at h
  |b::r,0,h=>by simp at h;subst h;simp [unl]
  | b :: r, i + 1, h => by
    have:=qr9 r i (by simpa using h)
    cases b <;>simp [unl,this]
theorem ql2: ∀(l:List Bool),unl l=0→∀(i:Nat),i<l.length→l[i]? =some true
  |[],_,i,h=>by simp at h
  |true::r,hu,0,_=>rfl
  |true::r,hu,i+1,h=>by simpa using ql2 r (by simpa [unl] using hu) i (by simpa using h)
  |false::r,hu,i,_=>by simp [unl] at hu
theorem qyx(n:Nat):unl (List.replicate n false)=n:=by
  induction n with
  |zero=>rfl
  |succ n ih=>simp [List.replicate_succ,unl,ih]
theorem qkk {l : List Oper} (T : Steps E ops F B l s h sts sf hf) (S : SR F w0 I0 μ0 h0 w I μ h a s) : qsh F w0 I0 μ0 h0 B sts sf hf (fun _ => False) a w := by
  obtain⟨g1,g2,g3,g4⟩:=T.run.get
  have hle:h.length≤B:=by rw [←g3];exact T.hk_le sts.length 0 (by omega)
  have H1: ∀(b:Nat) (x:AB),h[b]? =some x→x≠.hole→(h++List.replicate (B-h.length) .hole)[b]? =some x:=by
    intro b x hx _
    rw [List.getElem?_append_left (List.getElem?_eq_some_iff.1 hx).1]
    exact hx
  have H2: ∀(b:Nat) (x:AB),(h++List.replicate (B-h.length) .hole)[b]? =some x→x≠.hole→h[b]? =some x:=by
    intro b x hx hne
    rcases Nat.lt_or_ge b h.length with h1|h1
    · rwa [List.getElem?_append_left h1] at hx
    · rw [List.getElem?_append_right h1, List.getElem?_replicate] at hx
      split at hx
      · cases hx;exact absurd rfl hne
      · cases hx
  have hg: ∀b,qd (h++List.replicate (B-h.length) .hole) b=qd h b:=by
    intro b
    unfold qd
    simp only [List.getD_eq_getElem?_getD]
    rcases Nat.lt_or_ge b h.length with h1|h1
    · rw [List.getElem?_append_left h1]
    · rw [List.getElem?_append_right h1, List.getElem?_eq_none_iff.2 h1, List.getElem?_replicate]
      split <;>rfl
  refine⟨I,μ,h++List.replicate (B-h.length) .hole,S.rel.holes H1 H2, ?_, ?_,S.nt,S.nd,by simp;omega,fun d k hk up=> ?_,fun b k hk up=> ?_⟩
  · exact⟨S.fr.os,S.fr.tape,S.fr.output,S.fr.size,S.fr.same,S.fr.part,S.fr.nf,fun g o hw=>S.fr.wr g o (hw.holes H2),S.fr.im,S.fr.im'⟩
  · refine ⟨fun b x hx => ?_, fun b x y hx hy lx ly => S.hm.mu b x y hx (H2 b y hy (by rintro rfl; exact ly)) lx ly⟩
    obtain⟨y,hy,k⟩:=S.hm.kept b x hx
    refine⟨y, ?_,k⟩
    rw [List.getElem?_append_left (List.getElem?_eq_some_iff.1 hy).1]
    exact hy
  · have chain : ∀ m, m ≤ k → Rep w I h μ (a.tmps.getD d undef) (lkp d (Sk sts sf m)) := by
      intro m
      induction m with
      |zero=>intro _;exact g2 _ _ _ _ d _ (S.slots d)
      | succ m ih =>
        intro hm
        have hj:m<sts.length:=by omega
        obtain⟨_,_,q3,_⟩:=g4 m _ (List.getElem?_eq_getElem hj)
        have:=ih (by omega)
        have eSk:Sk sts sf m=sts[m].s:=by simp [Sk,List.getElem?_eq_getElem hj]
        rw [eSk] at this
        have nd:sts[m].o.dst≠some d:=fun e=>up.1 m (by omega) ⟨_,List.getElem?_eq_getElem hj,e⟩
        refine q3 _ _ _ _ d _ ?_
        have el:lkp d (qhy sts[m].s sts[m].o.dst sts[m].v)=lkp d sts[m].s:=by
          cases hq:sts[m].o.dst with
          |none=>rfl
          | some e =>
            have hne:d≠e:=by rintro rfl;exact nd hq
            simp only [qhy,lkp]
            cases hb:Nat.beq d e with
            |true=>exact absurd (Nat.eq_of_beq_eq_true hb) hne
            |false=>rfl
        rw [el]
        exact this
    exact(chain k (Nat.le_refl _)).holes H1
  · rw [hg]
    have chain: ∀m,m≤k→qd h b=qd (Hk sts hf m) b:=by
      intro m
      induction m with
      |zero=>intro _;rw [g3]
      | succ m ih =>
        intro hm
        have hj:m<sts.length:=by omega
        obtain⟨_,q2,_,q4⟩:=g4 m _ (List.getElem?_eq_getElem hj)
        rw [q4,ih (by omega)]
        have eHk:Hk sts hf m=sts[m].h:=by simp [Hk,List.getElem?_eq_getElem hj]
        rw [eHk,yj]
        intro hmem
        obtain⟨p,hp,rfl⟩:=List.mem_map.1 hmem
        exact up.1 m (by omega) ⟨_,List.getElem?_eq_getElem hj,q2.2.2.1 p hp⟩
    exact chain k (Nat.le_refl _)
theorem q3j(hh:h0.length≤hf.length){L:Nat→Prop}(hL: ∀k,k<sts.length→L k)(D:qsh F w0 I0 μ0 h0 B sts sf hf L a w): ∃I μ,SR F w0 I0 μ0 h0 w I μ hf a sf:=by
  obtain⟨I,μ,h2,R,fr,hm,hnt,hnd,hlen,hS,hH⟩:=D
  have up: ∀(wr:Nat→Nat→Prop) (d:Nat),(∀j e,wr j e→j<sts.length)→qw5 L wr d sts.length:=fun wr d hw=>⟨fun j hj _=>hL j hj,fun j hj h1=>by have:=hw j d h1;omega⟩
  have hg: ∀b,qd h2 b=qd hf b:=by
    intro b
    have:=hH b sts.length (Nat.le_refl _) (up _ b fun j e ⟨x,hx,_⟩=>(List.getElem?_eq_some_iff.1 hx).1)
    rwa [show Hk sts hf sts.length=hf by simp [Hk]] at this
  have H1: ∀(b:Nat) (x:AB),h2[b]? =some x→x≠.hole→hf[b]? =some x:=fun b x hx hne=>wm ((hg b).symm.trans (wu hx)) hne
  have H2: ∀(b:Nat) (x:AB),hf[b]? =some x→x≠.hole→h2[b]? =some x:=fun b x hx hne=>wm ((hg b).trans (wu hx)) hne
  refine⟨I,μ,R.holes H1 H2, ?_, ?_,fun d=> ?_,hnt,hnd⟩
  · exact⟨fr.os,fr.tape,fr.output,fr.size,fr.same,fr.part,fr.nf,fun g o hw=>fr.wr g o (hw.holes H2),fr.im,fr.im'⟩
  · refine ⟨fun b x hx => ?_, fun b x y hx hy lx ly => hm.mu b x y hx (H2 b y hy (by rintro rfl; exact ly)) lx ly⟩
    obtain⟨y,hy,k⟩:=hm.kept b x hx
    by_cases e:y= .hole
    · subst e
      have hb:b<hf.length:=Nat.lt_of_lt_of_le (List.getElem?_eq_some_iff.1 hx).1 hh
      refine⟨.hole, ?_,k⟩
      rw [List.getElem?_eq_getElem hb]
      have h1:=hg b
      rw [wu hy] at h1
      have h2:=wu (List.getElem?_eq_getElem hb)
      rw [←h2,←h1]
    · exact⟨y,H1 b y hy e,k⟩
  · have := hS d sts.length (Nat.le_refl _) (up _ d fun j e ⟨x, hx, _⟩ => (List.getElem?_eq_some_iff.1 hx).1)
    rw [show Sk sts sf sts.length=sf by simp [Sk]] at this
    exact this.holes H1
theorem q3k (T : Steps E ops F B ops.toList s h sts sf hf) (hbk : qoa 0 ops.toList = true) {Q : Exit → Act → World → Prop} (hQ : ∀ a w (L : Nat → Prop), (∀ k, k < sts.length → L k) → qsh F w0 I0 μ0 h0 B sts sf hf L a w → Q .normal a w) :
    ∀(fuel:Nat) (listed:Array Bool) (a:Act) (w:World),listed.size=ops.size→yi ops.toList (fun k=>listed.getD k false=true)→unl listed.toList≤fuel→
    qsh F w0 I0 μ0 h0 B sts sf hf (fun k=>listed.getD k false=true) a w→wpAny E.P .any ops Q fuel listed a w:=by
  have hn:sts.length=ops.size:=by have:=T.run.get.1;simpa using this
  have hback: ∀(i:Nat) (o:Oper),ops[i]? =some o→∀e∈xe o,e<i:=by
    intro i o ho e he
    have:=qcu ops.toList 0 hbk i o (by simpa using ho) e he
    omega
  -- nothing may come: all have
  have fin: ∀(listed:Array Bool),listed.size=ops.size→Region.ready .any ops listed=[]→∀k,k<sts.length→listed.getD k false=true:=by
    intro listed hs hr k
    induction k using Nat.strongRecOn with
    | _ k ih =>
      intro hk
      cases hl:listed.getD k false with
      |true=>rfl
      | false =>
        exfalso
        have hko:k<ops.size:=by omega
        have hmem:k∈Region.ready .any ops listed:=by
          refine mem_ready.2 ⟨?_,ops[k],Array.getElem?_eq_getElem hko,fun e he hb=> ?_⟩
          · have hkl : k < listed.size := by omega
            simp [hkl] at hl ⊢
            exact hl
          · have := hback k ops[k] (Array.getElem?_eq_getElem hko) e.on (qcv.2 ⟨e, he, hb, rfl⟩)
            exact ih e.on this (by omega)
        rw [hr] at hmem
        cases hmem
  intro fuel
  induction fuel with
  | zero =>
    intro listed a w hs hc hu D
    have hall: ∀k,k<sts.length→listed.getD k false=true:=by
      intro k hk
      have hkl:k<listed.toList.length:=by simp;omega
      have:=ql2 listed.toList (by omega) k hkl
      have:listed[k]? =some true:=by simpa using this
      simp [Array.getD_eq_getD_getElem?,this]
    refine⟨?_,hQ a w _ hall D⟩
    apply List.eq_nil_iff_forall_not_mem.2
    intro j hj
    obtain⟨h1,o,ho,_⟩:=mem_ready.1 hj
    have hjo:=(Array.getElem?_eq_some_iff.1 ho).1
    have h2:=hall j (by omega)
    have hjl:j<listed.size:=by omega
    simp [hjl] at h1 h2
    rw [h1] at h2
    cases h2
  | succ fuel ih =>
    intro listed a w hs hc hu D
    refine⟨fun hr=>hQ a w _ (fin listed hs hr) D,fun i hi=> ?_⟩
    obtain⟨h1,o,ho,hall⟩:=mem_ready.1 hi
    have hio:=(Array.getElem?_eq_some_iff.1 ho).1
    have hil:i<listed.size:=by omega
    have he: ∀e∈xe o,listed.getD e false=true:=by
      intro e he
      obtain⟨x,hx,hb,rfl⟩:=qcv.1 he
      exact hall x hx hb
    have hset:(fun k=>(listed.setIfInBounds i true).getD k false=true)=(fun k=>listed.getD k false=true∨k=i):=by
      funext k
      apply propext
      by_cases e:k=i
      · subst e
        simp [hil]
      · rw [getD_set_ne false (fun e' => e e'.symm)]
        simp [e]
    unfold wpOp
    simp only [ho]
    refine qof T hc (by simpa using ho) (by rw [qjg h1];simp) he D fun a' w' D'=>ih (listed.setIfInBounds i true) a' w' (by simp [hs]) ?_ ?_ (by rw [hset];exact D')
    · rw [hset]
      intro k ok hk hL e hee
      rcases hL with hL|rfl
      · exact .inl (hc k ok hk hL e hee)
      · have : ok = o := by
          have h3:ops[k]? =some ok:=by simpa using hk
          rw [ho] at h3
          exact(Option.some.inj h3).symm
        subst this
        exact .inl (he e hee)
    · have hf' : listed.toList[i]? = some false := by
        have:=qjg h1
        simp [hil] at this
        simp [hil,this]
      have:=qr9 listed.toList i hf'
      simp only [Array.toList_setIfInBounds]
      omega
theorem qvy {l1 r : List Oper} {o : Oper} {X : AV → qa → Prop} (T : Steps E ops F B l1 s h sts sf hf) (hl : ops.toList = l1 ++ o :: r) (href : qnf sf s') (hpj : PJ E ops o s' hf X) (hok : pOK E ops.toList (sts.map (·.f)) o B hf = true)
    (hh:h0.length≤hf.length) {Q:Exit→Act→World→Prop} (hQ: ∀a w I μ h v x,SR F w0 I0 μ0 h0 w I μ h a []→Rep w I h μ v x→X x h→Q (.panic [{ v,recovered:=false }]) a w):
    ∀(fuel:Nat) (listed:Array Bool) (a:Act) (w:World),listed.size=ops.size→yi ops.toList (fun k=>listed.getD k false=true)→unl listed.toList≤fuel→(∀k,listed.getD k false=true→k<sts.length)→
    qsh F w0 I0 μ0 h0 B sts sf hf (fun k=>listed.getD k false=true) a w→wpAny E.P .any ops Q fuel listed a w:=by
  have hlen:=T.run.get.1
  simp only [pOK,Bool.and_eq_true,List.length_map] at hok
  obtain⟨⟨⟨hbk,hdk⟩,hfB⟩,hlater⟩:=hok
  have hop:ops.toList[sts.length]? =some o:=by rw [hl,hlen,List.getElem?_append_right (Nat.le_refl _)];simp
  have hpsz:sts.length<ops.size:=by simpa using(List.getElem?_eq_some_iff.1 hop).1
  have hback: ∀(i:Nat) (o:Oper),ops[i]? =some o→∀e∈xe o,e<i:=by
    intro i o ho e he
    have:=qcu ops.toList 0 hbk i o (by simpa using ho) e he
    omega
  have htake: ∀k,k<sts.length→l1[k]? =ops.toList[k]? :=by
    intro k hk
    rw [hl,List.getElem?_append_left (by omega)]
  -- what stands behind it waits for it
  have late: ∀(L:Nat→Prop),yi ops.toList L→∀i oi,sts.length<i→ops[i]? =some oi→(∀e∈xe oi,L e)→L sts.length:=by
    intro L hc i oi hi ho he
    have hb:Nat.testBit ((qiz [] ops.toList).getD i 0) sts.length=true:=by
      have hlenA: ∀(l:List Oper) (acc:List Nat),(qiz acc l).length=acc.length+l.length:=by
        intro l
        induction l with
        |nil=>intro acc;simp [qiz]
        |cons q r ih=>intro acc;simp only [qiz,ih,List.length_append,List.length_cons,List.length_nil];omega
      have hi2:i<(qiz [] ops.toList).length:=by rw [hlenA];simpa using(Array.getElem?_eq_some_iff.1 ho).1
      have:=List.all_eq_true.1 hlater ((qiz [] ops.toList)[i]) (by
        refine List.mem_of_getElem? (i:=i-(sts.length+1)) ?_
        rw [List.getElem?_drop,show sts.length+1+(i-(sts.length+1))=i by omega,List.getElem?_eq_getElem hi2])
      rw [List.getD_eq_getElem?_getD,List.getElem?_eq_getElem hi2]
      exact this
    exact qj1 hc ops.toList [] (fun m=>by simp) (fun k o i hk=>by simp at hk) i oi sts.length (by simpa using ho) hb he
  -- something may come always
  have fin: ∀(listed:Array Bool),listed.size=ops.size→Region.ready .any ops listed=[]→∀k,k<ops.size→listed.getD k false=true:=by
    intro listed hs hr k
    induction k using Nat.strongRecOn with
    | _ k ih =>
      intro hk
      cases hl:listed.getD k false with
      |true=>rfl
      | false =>
        exfalso
        have hmem:k∈Region.ready .any ops listed:=by
          refine mem_ready.2 ⟨?_,ops[k],Array.getElem?_eq_getElem hk,fun e he hb=> ?_⟩
          · have hkl : k < listed.size := by omega
            simp [hkl] at hl ⊢
            exact hl
          · have := hback k ops[k] (Array.getElem?_eq_getElem hk) e.on (qcv.2 ⟨e, he, hb, rfl⟩)
            exact ih e.on this (by omega)
        rw [hr] at hmem
        cases hmem
  -- it comes
  have comes: ∀(L:Nat→Prop) (a:Act) (w:World),yi ops.toList L→(∀k,L k→k<sts.length)→(∀e∈xe o,L e)→qsh F w0 I0 μ0 h0 B sts sf hf L a w→∀(next:Act→World→Prop),
      if Region.wanted o (yielded ops a.tmps) then o.wp E.P a w next Q∨(o.asks E.P a w∧LetsOut Q) else next (a.put o.dst undef) w:=by
    intro L a w hc hL he D next
    obtain⟨I,μ,h2,R,fr,hm,hnt,hnd,hl2,hS,hH⟩:=D
    have hcl:yi (ops.toList.take (sts.length+1)) L:=by
      intro k ok hk hLk e hee
      have hk':ops.toList[k]? =some ok:=by
        rw [List.getElem?_take] at hk
        split at hk
        · exact hk
        · cases hk
      exact hc k ok hk' hLk e hee
    have ord: ∀j x,sts[j]? =some x→xf x.f ⟨kg E ops.toList o,none,List.range B,[]⟩=true→L j:=by
      intro j x hx hcx
      have hj:=(List.getElem?_eq_some_iff.1 hx).1
      refine qg6 hdk hcl (i:=j) (j:=sts.length) (x:=x.f) (y:=⟨kg E ops.toList o,none,List.range B,[]⟩) (o:=o) hj ?_ ?_ ?_ hcx he
      · rw [List.getElem?_append_left (by simpa using hj)]
        simp [hx]
      · rw [List.getElem?_append_right (by simp)]
        simp
      · rw [List.getElem?_take, if_pos (by omega)]
        exact hop
    have eH:Hk sts hf sts.length=hf:=by simp [Hk]
    have eS:Sk sts sf sts.length=sf:=by simp [Sk]
    have hg: ∀b,qd h2 b=qd hf b:=by
      intro b
      have:=hH b sts.length (Nat.le_refl _) ⟨fun j hj ⟨x,hx,hb⟩=>ord j x hx (by
        have hbB:=T.wbB x (List.mem_of_getElem? hx) b hb
        simp [xf,uk hb (List.mem_range.2 hbB)]),fun j hj _ hLj=>by have:=hL j hLj;omega⟩
      rwa [eH] at this
    have H1: ∀(b:Nat) (x:AB),h2[b]? =some x→x≠.hole→hf[b]? =some x:=fun b x hx hne=>wm ((hg b).symm.trans (wu hx)) hne
    have H2: ∀(b:Nat) (x:AB),hf[b]? =some x→x≠.hole→h2[b]? =some x:=fun b x hx hne=>wm ((hg b).trans (wu hx)) hne
    have R':=R.holes H1 H2
    have fr':Fr w0 (Wr h0 μ0) I0 w (Wr hf μ) I:=⟨fr.os,fr.tape,fr.output,fr.size,fr.same,fr.part,fr.nf,fun g o hw=>fr.wr g o (hw.holes H2),fr.im,fr.im'⟩
    have hm':HM h0 μ0 hf μ:=by
      refine⟨fun b x hx=> ?_,fun b x y hx hy lx ly=>hm.mu b x y hx (H2 b y hy (by rintro rfl;exact ly)) lx ly⟩
      obtain⟨y,hy,k⟩:=hm.kept b x hx
      by_cases e:y= .hole
      · subst e
        have hb:b<hf.length:=Nat.lt_of_lt_of_le (List.getElem?_eq_some_iff.1 hx).1 hh
        refine⟨.hole, ?_,k⟩
        rw [List.getElem?_eq_getElem hb]
        have h1:=hg b
        rw [wu hy] at h1
        have h2:=wu (List.getElem?_eq_getElem hb)
        rw [←h2,←h1]
      · exact⟨y,H1 b y hy e,k⟩
    refine hpj w I μ a R' (fun d hd=> ?_) next Q fun v' x w' I' μ' h' q1 q2 q3 q4 q5=> ?_
    · refine href _ _ _ _ d _ ?_
      have:=hS d sts.length (Nat.le_refl _) ⟨fun j hj ⟨x,hx,hxd⟩=>ord j x hx (by
        have:=(T.run.get.2.2.2 j x hx).2.1.2.1
        simp [xf,qkl (this.trans hxd) hd]),fun j hj _ hLj=>by have:=hL j hLj;omega⟩
      rw [eS] at this
      exact this.holes H1
    · exact hQ a w' I' μ' h' v' x ⟨q2,fr'.trans q3,hm'.trans q4,fun i=> .junk _,hnt,hnd⟩ q1 q5
  intro fuel
  induction fuel with
  | zero =>
    intro listed a w hs hc hu hlt D
    have hkl:sts.length<listed.toList.length:=by simp;omega
    have:=ql2 listed.toList (by omega) sts.length hkl
    have:listed[sts.length]? =some true:=by simpa using this
    have:=hlt sts.length (by simp [Array.getD_eq_getD_getElem?,this])
    omega
  | succ fuel ih =>
    intro listed a w hs hc hu hlt D
    refine⟨fun hr=> ?_,fun i hi=> ?_⟩
    · have := hlt sts.length (fin listed hs hr sts.length hpsz)
      omega
    · obtain ⟨h1, oi, ho, hall⟩ := mem_ready.1 hi
      have hio:=(Array.getElem?_eq_some_iff.1 ho).1
      have hil:i<listed.size:=by omega
      have he: ∀e∈xe oi,listed.getD e false=true:=by
        intro e he
        obtain⟨x,hx,hb,rfl⟩:=qcv.1 he
        exact hall x hx hb
      have hset:(fun k=>(listed.setIfInBounds i true).getD k false=true)=(fun k=>listed.getD k false=true∨k=i):=by
        funext k
        apply propext
        by_cases e:k=i
        · subst e
          simp [hil]
        · rw [getD_set_ne false (fun e' => e e'.symm)]
          simp [e]
      unfold wpOp
      simp only [ho]
      rcases Nat.lt_trichotomy i sts.length with hi'|hi'|hi'
      · refine qof T (L := fun k => listed.getD k false = true) (fun k ok hk hL e hee => ?_) (i := i) (o := oi) ?_ (by rw [qjg h1]; simp) he D fun a' w' D' => ih (listed.setIfInBounds i true) a' w' (by simp [hs]) ?_ ?_ ?_ (by rw [hset]; exact D')
        · have hk2 : k < sts.length := by rw [hlen]; exact (List.getElem?_eq_some_iff.1 hk).1
          exact hc k ok (by rw [←htake k hk2];exact hk) hL e hee
        · rw [htake i hi'];simpa using ho
        · rw [hset]
          intro k ok hk hL e hee
          rcases hL with hL|rfl
          · exact .inl (hc k ok hk hL e hee)
          · have : ok = oi := by
              have h3:ops[k]? =some ok:=by simpa using hk
              rw [ho] at h3
              exact(Option.some.inj h3).symm
            subst this
            exact .inl (he e hee)
        · have hf' : listed.toList[i]? = some false := by
            have:=qjg h1
            simp [hil] at this
            simp [hil,this]
          have:=qr9 listed.toList i hf'
          simp only [Array.toList_setIfInBounds]
          omega
        · intro k hk
          have:listed.getD k false=true∨k=i:=by
            have:=congrFun hset k
            exact this▸hk
          rcases this with h3|rfl
          · exact hlt k h3
          · exact hi'
      · subst hi'
        have:oi=o:=by
          have h3:ops[sts.length]? =some o:=by simpa using hop
          rw [ho] at h3
          exact Option.some.inj h3
        subst this
        exact comes _ a w hc hlt he D _
      · have := hlt sts.length (late _ hc i oi hi' ho he)
        omega
theorem qfx (hE : EnvOK E) (hm : E.P.follows .mixedOrders = true) (hn0 : h0.length = F.n0) {id : Nat} {K : qc → qa → Prop} {Q : Exit → Act → World → Prop} {X : AV → qa → Prop} (hk : aDr E F ops.toList B (qs1 F.n0 K) X ops.toList [] s h)
    (S:SR F w0 I0 μ0 h0 w I μ h a s) (hQ: ∀a w I μ h s,SR F w0 I0 μ0 h0 w I μ h a s→K s h→Q .normal a w)
    (hX: ∀a w I μ h v x,SR F w0 I0 μ0 h0 w I μ h a []→Rep w I h μ v x→X x h→Q (.panic [{ v,recovered:=false }]) a w):(Code.region id ops true).wp E.P Q a w:=by
  obtain⟨Rd,Fd⟩:=S.rel.drew
  have S':SR F w0 I0 μ0 h0 w.drew I μ h a s:=by
    refine⟨Rd,S.fr.trans Fd,S.hm,fun d=>(S.slots d).step S.rel Fd (HM.refl _ _),S.nt,S.nd⟩
  have hnone:(fun k=>(Array.replicate ops.size false).getD k false=true)=(fun _:Nat=>False):=by
    funext k
    rw [qqx]
    simp
  rcases qqg hE _ _ _ _ hk with⟨sts,sf,hf,hr,hd,hle,hbK⟩|⟨l1,o,r,sts,sf,hf,s',hl,hr,href,hpj,hok,hn⟩
  · obtain ⟨hb, hK⟩ : Nat.ble F.n0 hf.length = true ∧ K sf hf := by
      unfold qs1 at hbK
      split at hbK
      · rename_i hb;exact⟨hb,hbK⟩
      · exact hbK.elim
    have hd':dOK ops.toList (sts.map (·.f)) B=true:=by simpa using hd
    have T:Steps E ops F B ops.toList s h sts sf hf:=Steps.of hr hd' hle
    refine wp_region_any hm (q3k (w0:=w0) (I0:=I0) (μ0:=μ0) (h0:=h0) T (by simp only [dOK,Bool.and_eq_true] at hd';exact hd'.1.1) (fun a w L hL D=> ?_) ops.size _ a w.drew (by simp) ?_ (by simp [qyx]) ?_)
    · obtain ⟨I', μ', S2⟩ := q3j (by rw [hn0]; exact Nat.le_of_ble_eq_true hb) hL D
      exact hQ _ _ _ _ _ _ S2 hK
    · intro k o _ hL
      rw [qqx] at hL
      cases hL
    · rw [hnone]
      exact qkk T S'
  · have hlen := hr.get.1
    have hok':pOK E ops.toList (sts.map (·.f)) o B hf=true:=by simpa using hok
    have hok2:=hok'
    simp only [pOK,Bool.and_eq_true,List.length_map] at hok2
    obtain⟨⟨⟨hbk,hdk⟩,hfB⟩,_⟩:=hok2
    have htake: ∀k,k<sts.length→l1[k]? =ops.toList[k]? :=by
      intro k hk
      rw [hl,List.getElem?_append_left (by omega)]
    have T:Steps E ops F B l1 s h sts sf hf:=by
      refine⟨hr,fun {L} hc {i j x y} hij hx hy hcl he=> ?_,fun st hst b hb=> ?_,Nat.le_of_ble_eq_true hfB⟩
      · have hj := (List.getElem?_eq_some_iff.1 hy).1
        have bk: ∀k ok,k<sts.length→ops.toList[k]? =some ok→∀e∈xe ok,e<k:=by
          intro k ok _ hok e hee
          have:=qcu ops.toList 0 hbk k ok hok e hee
          omega
        have hoj:ops.toList[j]? =some y.o:=by rw [←htake j hj];exact(hr.get.2.2.2 j y hy).1
        have hcl':yi (ops.toList.take (sts.length+1)) (fun k=>L k∧k<sts.length):=by
          intro k ok hk hLk e hee
          have hk':ops.toList[k]? =some ok:=by
            rw [List.getElem?_take] at hk
            split at hk
            · exact hk
            · cases hk
          have:=bk k ok hLk.2 hk' e hee
          exact⟨hc k ok (by rw [htake k hLk.2];exact hk') hLk.1 e hee,by omega⟩
        refine(qg6 hdk hcl' hij (x:=x.f) (y:=y.f) (o:=y.o) ?_ ?_ ?_ hcl fun e hee=>⟨he e hee, ?_⟩).1
        · rw [List.getElem?_append_left (by simp;omega)];simp [hx]
        · rw [List.getElem?_append_left (by simp;omega)];simp [hy]
        · rw [List.getElem?_take,if_pos (by omega)];exact hoj
        · have := bk j y.o hj hoj e hee
          omega
      · simp only [dOK, Bool.and_eq_true] at hdk
        have:=List.all_eq_true.1 hdk.2 st.f (List.mem_append_left _ (List.mem_map.2 ⟨st,hst,rfl⟩))
        have:=List.all_eq_true.1 this b hb
        exact Nat.le_of_ble_eq_true this
    refine wp_region_any hm (qvy (w0:=w0) (I0:=I0) (μ0:=μ0) (h0:=h0) T hl href hpj hok' (by rw [hn0];exact hn) hX ops.size _ a w.drew (by simp) ?_ (by simp [qyx]) ?_ ?_)
    · intro k o _ hL
      rw [qqx] at hL
      cases hL
    · intro k hk
      rw [qqx] at hk
      cases hk
    · rw [hnone]
      exact qkk T S'
end
end Go.AM
namespace Go.AM
set_option linter.unusedSectionVars false
variable [Lay] [Dfr]
def q9j(w:World)(I:Nat→Nat→Prop)(h:qa)(μ:Nat→Option Nat):Exit→AX→Prop
  | .normal,.normal=>True
  | .exit i,.exit j=>i=j
  | .ret,.ret=>True
  | .panic chain,.panic x=> ∃v,chain=[{ v,recovered:=false }]∧Rep w I h μ v x
  |_,_=>False
def CQ(F:Fp)(w0:World)(I0:Nat→Nat→Prop)(μ0:Nat→Option Nat)(h0:qa)(K:AX→qc→qa→Prop)(e:Exit)(a:Act)(w:World):Prop:=
  ∃x I μ h s,SR F w0 I0 μ0 h0 w I μ h a s∧q9j w I h μ e x∧K x s h
@[irreducible] def Ok (E : Env) (F : Fp) (c : Code) (K : AX → qc → qa → Prop) (s : qc) (h : qa) : Prop :=
  ∀(w0:World) (I0:Nat→Nat→Prop) (μ0:Nat→Option Nat) (h0:qa),h0.length=F.n0→∀(w:World) (I:Nat→Nat→Prop) (μ:Nat→Option Nat) (a:Act),SR F w0 I0 μ0 h0 w I μ h a s→c.wp E.P (CQ F w0 I0 μ0 h0 K) a w
structure LoopAt (X:Type) where
  inv:X→Prop
  st:X→qc×qa
  m:X→Nat
def q03(K:AX→qc→qa→Prop)(next:qc→qa→Prop)(e:AX)(s:qc)(h:qa):Prop:=
  match e with
  | .normal=>next s h
  | .exit i=>K (.exit i) s h
  | .ret=>K .ret s h
  | .panic v=>K (.panic v) s h
def qj9(id:Nat)(K:AX→qc→qa→Prop)(e:AX)(s:qc)(h:qa):Prop:=
  match e with
  | .normal=>K .normal s h
  | .exit i=>match Nat.beq i id with|true=>K .normal s h|false=>K (.exit i) s h
  | .ret=>K .ret s h
  | .panic v=>K (.panic v) s h
def qam(id:Nat):Code→Nat
  | .seq a b=>qam id a+qam id b
  | .cond _ a b=>qam id a+qam id b
  | .block _ c=>qam id c
  | .loop c=>qam id c
  | .exit j=>match Nat.beq j id with|true=>1|false=>0
  |_=>0
def qw8:Code→Nat
  | .skip=>1
  | .seq a b=>match qw8 a with|0=>0|_=>qw8 b
  | .cond _ a b=>qw8 a+qw8 b
  | .block id c=>qw8 c+qam id c
  | .region _ _ _=>1
  |_=>0
@[irreducible] def jn (n0:Nat) (k:qc→qa→Prop) (s:qc) (h:qa):Prop:=k s h∨∃(fz:List Nat) (ρ:List Src) (s':qc) (h':qa),qdn n0 fz ρ s h s' h'∧k s' h'
def jbt(j:Bool)(n0:Nat)(k:qc→qa→Prop)(s:qc)(h:qa):Prop:=
  match j with
  |true=>jn n0 k s h
  |false=>k s h
def zn (E : Env) (F : Fp) : Code → (AX → qc → qa → Prop) → qc → qa → Prop
  | .skip,K,s,h=>K .normal s h
  | .seq a b,K,s,h=>zn E F a (q03 K (jbt (F.jn&&Nat.ble 2 (qw8 a)) F.n0 (zn E F b K))) s h
  | .cond c a b, K, s, h =>
    match ev E s 0 c with
    | .t=>zn E F a K s h
    | .f=>zn E F b K s h
    | .bool t=>aIf t (zn E F a K s h) (zn E F b K s h)
    |_=>False
  | .block id c,K,s,h=>zn E F c (qj9 id K) s h
  | .loop c,K,s,h=> ∃(X:Type) (L:LoopAt X) (x0:X) (fz:List Nat) (ρ:List Src),L.inv x0∧qdn F.n0 fz ρ s h (L.st x0).1 (L.st x0).2∧
      ∀x,L.inv x→zn E F c (q03 K fun s h=> ∃(y:X) (fz:List Nat) (ρ:List Src),L.inv y∧L.m y<L.m x∧qdn F.n0 fz ρ s h (L.st y).1 (L.st y).2) (L.st x).1 (L.st x).2
  | .exit i,K,s,h=>K (.exit i) s h
  | .ret,K,s,h=>K .ret s h
  | .region _ ops false,K,s,h=>qax E F ops.toList (K .normal) (fun v=>K (.panic v)) ops.toList s h
  | .region _ ops true,K,s,h=>aDr E F ops.toList (h.length+ops.size) (qs1 F.n0 (K .normal)) (fun v h=>K (.panic v) [] h) ops.toList [] s h
  |_,_,_,_=>False
section
variable {E:Env} {F:Fp} {w w0:World} {I I0:Nat→Nat→Prop} {h h0 h':qa} {μ μ0:Nat→Option Nat} {a:Act} {s s':qc}
theorem CQ.mono{K K':AX→qc→qa→Prop}(hk: ∀x s h,K x s h→K' x s h){e:Exit}{a:Act}{w:World}(hq:CQ F w0 I0 μ0 h0 K e a w):CQ F w0 I0 μ0 h0 K' e a w:=by
  obtain⟨x,I,μ,h,s,S,hx,hk'⟩:=hq
  exact⟨x,I,μ,h,s,S,hx,hk _ _ _ hk'⟩
theorem qu9 {P : Program} {c : Code} {Q : Exit → Act → World → Prop} {Y : Type} (J : Y → Act → World → Prop) (m : Y → Nat)
    (round: ∀y a w,J y a w→c.wp P (Exit.then (fun a' w'=> ∃z,J z a' w'∧m z<m y) Q) a w) {y:Y} {a:Act} {w:World} (h0:J y a w):(Code.loop c).wp P Q a w:=by
  intro b k cs
  have key: ∀n y a w,m y=n→J y a w→∃e a' w',Q e a' w'∧Arrives P (lone (b.at a (.code c:: .inLoop c::k)) cs w) b k cs e a' w':=by
    intro n
    induction n using Nat.strongRecOn with
    | _ n ih =>
      intro y a w hn hJ
      obtain⟨e,a₁,w₁,hq,harr⟩:=round y a w hJ b (.inLoop c::k) cs
      cases e with
      | normal =>
        obtain⟨z,hJ1,hlt⟩:=hq
        obtain⟨e₂,a₂,w₂,hq₂,harr₂⟩:=ih (m z) (hn▸hlt) z a₁ w₁ rfl hJ1
        exact⟨e₂,a₂,w₂,hq₂,.of_steps (Steps.trans harr (.one step_inLoop)) harr₂⟩
      |exit id=>exact⟨_,a₁,w₁,hq,.pass (x:= .inLoop c) rfl (fun _ _=> .inl (by simp)) harr⟩
      |goto l=>exact⟨_,a₁,w₁,hq,.pass (x:= .inLoop c) rfl (fun _ _=> .inl (by simp)) harr⟩
      |ret=>exact⟨_,a₁,w₁,hq,.pass (x:= .inLoop c) rfl (fun _ _=> .inl (by simp)) harr⟩
      |panic ch=>exact⟨_,a₁,w₁,hq,.pass (x:= .inLoop c) rfl (fun _ _=> .inl (by simp)) harr⟩
      |outgrown=>exact⟨_,a₁,w₁,hq,.pass (x:= .inLoop c) rfl (fun _ _=> .inl (by simp)) harr⟩
  obtain⟨e,a',w',hq,harr⟩:=key _ y a w rfl h0
  exact⟨e,a',w',hq,.of_steps (.one step_loop) harr⟩
theorem qfn{K:AX→qc→qa→Prop}{next:qc→qa→Prop}{N:Act→World→Prop}(hn: ∀a w I μ h s,SR F w0 I0 μ0 h0 w I μ h a s→next s h→N a w){e:Exit}{a:Act}{w:World}
    (hq:CQ F w0 I0 μ0 h0 (q03 K next) e a w):Exit.then N (CQ F w0 I0 μ0 h0 K) e a w:=by
  obtain⟨x,I,μ,h,s,S,hx,hk⟩:=hq
  cases e with
  | normal =>
    cases x with
    |normal=>exact hn _ _ _ _ _ _ S hk
    |_=>exact hx.elim
  | exit i =>
    cases x with
    |exit j=>exact⟨.exit j,I,μ,h,s,S,hx,hk⟩
    |_=>exact hx.elim
  | ret =>
    cases x with
    |ret=>exact⟨.ret,I,μ,h,s,S,hx,hk⟩
    |_=>exact hx.elim
  | panic chain =>
    cases x with
    |panic v=>exact⟨.panic v,I,μ,h,s,S,hx,hk⟩
    |_=>exact hx.elim
  |goto l=>cases x <;>exact hx.elim
  |outgrown=>cases x <;>exact hx.elim
theorem qka {K : AX → qc → qa → Prop} {id : Nat} {e : Exit} {a : Act} {w : World} (hq : CQ F w0 I0 μ0 h0 (qj9 id K) e a w) : Exit.inBlock id (CQ F w0 I0 μ0 h0 K) e a w := by
  obtain⟨x,I,μ,h,s,S,hx,hk⟩:=hq
  cases e with
  | normal =>
    cases x with
    |normal=>exact⟨.normal,I,μ,h,s,S,hx,hk⟩
    |_=>exact hx.elim
  | exit i =>
    cases x with
    | exit j =>
      obtain rfl:i=j:=hx
      simp only [qj9] at hk
      simp only [Exit.inBlock]
      split at hk
      · rename_i hb
        rw [if_pos (Nat.eq_of_beq_eq_true hb)]
        exact⟨.normal,I,μ,h,s,S,trivial,hk⟩
      · rename_i hb
        rw [if_neg (by rintro rfl;rw [Nat.beq_refl] at hb;cases hb)]
        exact⟨.exit i,I,μ,h,s,S,rfl,hk⟩
    |_=>exact hx.elim
  | ret =>
    cases x with
    |ret=>exact⟨.ret,I,μ,h,s,S,hx,hk⟩
    |_=>exact hx.elim
  | panic chain =>
    cases x with
    |panic v=>exact⟨.panic v,I,μ,h,s,S,hx,hk⟩
    |_=>exact hx.elim
  |goto l=>cases x <;>exact hx.elim
  |outgrown=>cases x <;>exact hx.elim
theorem qt5{K:AX→qc→qa→Prop}{e:Exit}{a:Act}{w:World}(hq:OQ' F w0 I0 μ0 h0 (K .normal) (fun v=>K (.panic v)) e a w):CQ F w0 I0 μ0 h0 K e a w:=by
  obtain⟨I,μ,h,s,S,hq⟩:=hq
  rcases hq with⟨rfl,hk⟩|⟨v,x,rfl,hr,hk⟩
  · exact⟨.normal,I,μ,h,s,S,trivial,hk⟩
  · exact⟨.panic x,I,μ,h,s,S,⟨v,rfl,hr⟩,hk⟩
theorem q1q (hE : EnvOK E) (hn0 : h0.length = F.n0) : ∀ (c : Code) (K : AX → qc → qa → Prop) (s : qc) (h : qa) (w : World) (I : Nat → Nat → Prop) (μ : Nat → Option Nat) (a : Act), SR F w0 I0 μ0 h0 w I μ h a s →
    zn E F c K s h→c.wp E.P (CQ F w0 I0 μ0 h0 K) a w:=by
  intro c
  induction c with
  |skip=>intro K s h w I μ a S hk;exact wp_skip ⟨.normal,I,μ,h,s,S,trivial,hk⟩
  | seq x y ihx ihy =>
    intro K s h w I μ a S hk
    refine wp_seq (Code.wp_mono (fun e a w hq=> ?_) (ihx _ s h w I μ a S hk))
    refine qfn (fun a w I μ h s S hk=> ?_) hq
    cases hj:(F.jn&&Nat.ble 2 (qw8 x)) with
    |false=>rw [hj] at hk;exact ihy K s h w I μ a S hk
    | true =>
      rw [hj] at hk
      have hk:jn F.n0 (zn E F y K) s h:=hk
      unfold jn at hk
      rcases hk with hk|⟨fz,ρ,s',h',hv,hk⟩
      · exact ihy K s h w I μ a S hk
      · obtain ⟨I', μ', S'⟩ := hv.sr S hn0
        exact ihy K s' h' w I' μ' a S' hk
  | cond c x y ihx ihy =>
    intro K s h w I μ a S hk
    simp only [zn] at hk
    have r:=y5 (E:=E) S.slots 0 c
    split at hk
    · rename_i he
      rw [he] at r
      exact wp_cond_true (qu r rfl) (ihx K s h w I μ a S hk)
    · rename_i he
      rw [he] at r
      exact wp_cond_false (qu r rfl) (ihy K s h w I μ a S hk)
    · rename_i t he
      rw [he] at r
      obtain⟨h1,h2⟩:=v6 hk
      refine wp_cond_split (qu r rfl) (fun ht=>ihx K s h w I μ a S (h1 ht)) (fun ht=>ihy K s h w I μ a S (h2 ht))
    · exact hk.elim
  | block id c ih =>
    intro K s h w I μ a S hk
    exact wp_block (Code.wp_mono (fun e a w hq=>qka hq) (ih _ s h w I μ a S hk))
  | loop c ih =>
    intro K s h w I μ a S hk
    obtain⟨X,L,x0,fz,ρ,hi,hv,hround⟩:=hk
    let J:X→Act→World→Prop:=fun x a w=>L.inv x∧∃I μ,SR F w0 I0 μ0 h0 w I μ (L.st x).2 a (L.st x).1
    refine qu9 J L.m (fun x a w hJ=> ?_) (y:=x0) ⟨hi,hv.sr S hn0⟩
    obtain⟨hix,I,μ,S⟩:=hJ
    refine Code.wp_mono (fun e a w hq=> ?_) (ih _ _ _ w I μ a S (hround x hix))
    refine qfn (fun a w I μ h s S hk=> ?_) hq
    obtain⟨y,fz,ρ,hy,hlt,hv⟩:=hk
    exact⟨y,⟨hy,hv.sr S hn0⟩,hlt⟩
  |exit i=>intro K s h w I μ a S hk;exact wp_exit ⟨.exit i,I,μ,h,s,S,rfl,hk⟩
  |ret=>intro K s h w I μ a S hk;exact wp_ret ⟨.ret,I,μ,h,s,S,trivial,hk⟩
  | region id ops draw =>
    intro K s h w I μ a S hk
    cases draw with
    | false =>
      exact Code.wp_mono (fun e a w hq=>qt5 hq) (wp_region_list (uy hE ops.toList a w I μ h s S hk))
    |true=>exact qfx hE hE.mixed hn0 hk S (fun a w I μ h s S hk=>⟨.normal,I,μ,h,s,S,trivial,hk⟩) (fun a w I μ h v x S hr hx=>⟨.panic x,I,μ,h,[],S,⟨v,rfl,hr⟩,hx⟩)
  |rangeFunc f ps x y _ _=>intro K s h w I μ a S hk;exact hk.elim
  |scope c _=>intro K s h w I μ a S hk;exact hk.elim
  |label l=>intro K s h w I μ a S hk;exact hk.elim
  |goto l=>intro K s h w I μ a S hk;exact hk.elim
  |refuse why=>intro K s h w I μ a S hk;exact hk.elim
end
end Go.AM
namespace Go.AM
set_option linter.unusedSectionVars false
variable [Lay]
def jax(g:Nat→AB):AV→AV
  | .tup cs=> .tup (cs.map (res g))
  |v=>res g v
def qjk:AV→List Nat
  | .tup cs=>qt cs
  |v=>jv v.cells
def qdz:List AV→AV
  |[v]=>v
  |vs=> .tup vs
def qxr:List DP→Bool
  |[]=>true
  |c::r=>match @decide c.p c.d with|true=>qxr r|false=>false
theorem qog: ∀{l:List DP},qxr l=true→∀c∈l,c.p
  |[],_,c,h=>by cases h
  | a :: r, h, c, hc => by
    unfold qxr at h
    split at h
    · rename_i ha
      rcases List.mem_cons.1 hc with rfl|hc
      · exact @of_decide_eq_true _ c.d ha
      · exact qog h c hc
    · cases h
def qei (E : Env) (s : qc) (h : qa) : List ResultVar → Option (List AV)
  |[]=>some []
  | .tmp t :: r => match qei E s h r with
    |some vs=>some (lkp t s::vs)
    |none=>none
  | .cell a t :: r => match qx8 (E.ti t) (qd h) (lkp a s), qei E s h r with
    |some ⟨v,_,cs⟩,some vs=>match qxr cs with|true=>some (v::vs)|false=>none
    |_,_=>none
def qt6(gen:Bool)(n0:Nat)(mk:AV→ARes)(Q:ARes→qa→Prop)(v:AV)(h:qa):Prop:=
  match gen with
  |true=> ∃(ρ:List Src) (v':AV) (h':qa),qdn n0 [] ρ [(0,v)] h [(0,v')] h'∧Q (mk v') h'
  |false=>nfR (jax (qd h) v) fun v1=>nfH (qg h (frz (qd h) (qjk v))) fun h1=> ∃(ρ:List Src) (v':AV) (h':qa),qdn n0 [] ρ [(0,v1)] h1 [(0,v')] h'∧Q (mk v') h'
def jx (E : Env) (rs : List ResultVar) (gen : Bool) (n0 : Nat) (Q : ARes → qa → Prop) (e : AX) (s : qc) (h : qa) : Prop :=
  match e with
  | .normal => match qei E s h rs with
    |some vs=>qt6 gen n0 .ret Q (qdz vs) h
    |none=>False
  | .ret => match qei E s h rs with
    |some vs=>qt6 gen n0 .ret Q (qdz vs) h
    |none=>False
  | .panic v=>qt6 gen n0 .panic Q v h
  | .exit _=>False
def y8:Nat→List AV→qc
  |_,[]=>[]
  |i,v::r=>(i,v)::y8 (i+1) r
section
variable [Dfr] {E:Env} {F:Fp} {w w0:World} {I I0:Nat→Nat→Prop} {h h0 h':qa} {μ μ0:Nat→Option Nat} {a:Act} {s s':qc}
theorem q48 (R : RelH w I μ h) {g : Nat → AB} {v : Value} {x : AV} (r : Rep w I h μ v x) (hfz : ∀ b ∈ qjk x, ∀ t l fr, g b = .arr t l fr → h[b]? = some (.arr t l false)) : Rep w I h μ v (jax g x) := by
  cases x with
  | tup cs =>
    cases r with
    | tup vs _ hl hc =>
      refine .tup vs _ (by simpa using hl) fun k v c e1 e2=> ?_
      rw [List.getElem?_map] at e2
      cases hq:cs[k]? with
      |none=>rw [hq] at e2;cases e2
      | some c0 =>
        rw [hq] at e2
        simp at e2
        subst e2
        exact qae R (hc k v c0 e1 hq) fun b hb t l fr hg=>hfz b (vd _ c0 (List.mem_of_getElem? hq) b hb) t l fr hg
  |_=>exact qae R r hfz
theorem qac{gen:Bool}{mk:AV→ARes}{Q:ARes→qa→Prop}{v:Value}{x:AV}(hn0:h0.length=F.n0)(S:SR F w0 I0 μ0 h0 w I μ h a s)(r:Rep w I h μ v x)(hk:qt6 gen F.n0 mk Q x h):
    ∃I' μ' h' x',Rep w I' h' μ' v x'∧RelH w I' μ' h'∧Fr w0 (Wr h0 μ0) I0 w (Wr h' μ') I'∧HM h0 μ0 h' μ'∧Q (mk x') h':=by
  have S0: ∀{I:Nat→Nat→Prop} {μ:Nat→Option Nat} {h:qa} {x:AV},SR F w0 I0 μ0 h0 w I μ h a s→Rep w I h μ v x→SR ⟨1,F.n0,F.jn⟩ w0 I0 μ0 h0 w I μ h { tmps:= #[v],defers:=Dfr.ds } [(0,x)]:=by
    intro I μ h x S r
    refine⟨S.rel,S.fr,S.hm,fun i=> ?_,rfl,rfl⟩
    simp only [lkp]
    cases hb:Nat.beq i 0 with
    |true=>obtain rfl:=Nat.eq_of_beq_eq_true hb;exact r
    |false=>exact .junk _
  unfold qt6 at hk
  cases gen with
  | true =>
    obtain⟨ρ,v',h',hv,hq⟩:=hk
    obtain⟨I',μ',S'⟩:=qdn.sr (F:=⟨1,F.n0,F.jn⟩) (S0 S r) hn0 hv
    exact⟨I',μ',h',v',S'.slots 0,S'.rel,S'.fr,S'.hm,hq⟩
  |false=>
  simp only [qbt,kv] at hk
  obtain⟨ρ,v',h',hv,hq⟩:=hk
  obtain⟨I1,R1,F1,M1,_,hfz,_⟩:=g6 (qjk x) I h S.rel (show qne (qd h) h from fun b=> .inl rfl)
  have S1:=S.step R1 F1 M1
  have r1:=q48 R1 (r.step S.rel F1 M1) (fun b hb t l fr hg=>hfz b hb t l fr hg)
  obtain⟨I',μ',S'⟩:=qdn.sr (F:=⟨1,F.n0,F.jn⟩) (S0 S1 r1) hn0 hv
  exact⟨I',μ',h',v',S'.slots 0,S'.rel,S'.fr,S'.hm,hq⟩
theorem qad(hE:EnvOK E)(S:SR F w0 I0 μ0 h0 w I μ h a s): ∀(l:List ResultVar) {xs:List AV},qei E s h l=some xs→
    ∃vs:List Value,(l.mapM fun r=>(match r with| .tmp t=>pure (a.tmps.getD t undef)| .cell b t=>do loadVar t (←asAddr (a.tmps.getD b undef)):Sem Value)).run E.P w= .ok vs w∧qr w I h μ vs xs
  |[],xs,hx=>by cases hx;exact⟨[],rfl,qr.nil⟩
  | .tmp t :: l, xs, hx => by
    simp only [qei] at hx
    split at hx
    · rename_i ys hy
      cases hx
      obtain⟨vs,hr,hc⟩:=qad hE S l hy
      refine⟨a.tmps.getD t undef::vs, ?_,qr.cons (S.slots t) hc⟩
      simp only [List.mapM_cons,Sem.run_bind,Sem.run_pure,Result.andThen_ok,hr]
    · cases hx
  | .cell b t :: l, xs, hx => by
    simp only [qei] at hx
    split at hx
    · rename_i x0 ws0 cs0 ys hf hy
      split at hx
      case h_2=>cases hx
      rename_i hdp
      cases hx
      obtain⟨vs,hr,hc⟩:=qad hE S l hy
      obtain⟨q,v',hp,hrun,_,hv⟩:=q4b hE S.rel (show GOK (qd h) h from fun b=> .inl rfl) (S.slots b) hf (qog hdp)
      refine⟨v'::vs, ?_,qr.cons hv hc⟩
      rw [hp] at hrun
      have hrun:(loadVar t q).run E.P w= .ok v' w:=hrun
      have ha:asAddr (.pointer (some q))=pure q:=rfl
      simp only [List.mapM_cons,Sem.run_bind,Sem.run_pure,Result.andThen_ok,hr,hp,ha,hrun]
    · cases hx
theorem qor : ∀ (l : List AV) (k i : Nat), lkp i (y8 k l) = .junk ∨ ∃ x, k ≤ i ∧ l[i - k]? = some x ∧ lkp i (y8 k l) = x
  |[],_,_=> .inl rfl
  | v :: r, k, i => by
    simp only [y8,lkp]
    cases hb:Nat.beq i k with
    | true =>
      obtain rfl:=Nat.eq_of_beq_eq_true hb
      exact .inr ⟨v,Nat.le_refl _,by simp,rfl⟩
    | false =>
      have hne:i≠k:=by rintro rfl;rw [Nat.beq_refl] at hb;cases hb
      rcases qor r (k+1) i with e|⟨x,h1,h2,h3⟩
      · exact .inl e
      · refine .inr ⟨x, by omega, ?_, h3⟩
        rw [show i-k=(i-(k+1))+1 by omega]
        simpa using h2
theorem Ok.of_aCode(hE:EnvOK E){c:Code}{K:AX→qc→qa→Prop}(hk:zn E F c K s h):Ok E F c K s h:=by
  unfold Ok
  intro w0 I0 μ0 h0 hn0 w I μ a S
  exact q1q hE hn0 c K s h w I μ a S hk
end
section
variable {E:Env} {F:Fp} {w w0:World} {I I0:Nat→Nat→Prop} {h h0 h':qa} {μ μ0:Nat→Option Nat} {a:Act} {s s':qc}
theorem qq0[Dfr]{n:Nat}{j:Bool}{μ:Nat→Option Nat}{h:qa}{args:List AV}{vs:Array Value}(R:RelH w I0 μ h)(hv:qr w I0 h μ vs.toList args)(hargs:args.length≤n):
    SR ⟨n,h.length,j⟩ w I0 μ h w I0 μ h { tmps:=vs++Array.replicate (n-vs.size) undef,defers:=Dfr.ds } (y8 0 args):=by
  have hl:vs.size=args.length:=by simpa using hv.1
  refine⟨R,Fr.refl _ _ _,HM.refl _ _,fun i=> ?_,by simp;omega,rfl⟩
  rcases qor args 0 i with e|⟨x,_,e1,e2⟩
  · rw [e];exact .junk _
  · rw [e2]
    have e1:args[i]? =some x:=by simpa using e1
    have hi:i<args.length:=(List.getElem?_eq_some_iff.1 e1).1
    have hi':i<vs.size:=by omega
    have:(vs++Array.replicate (n-vs.size) undef).getD i undef=vs[i]:=by
      simp [Array.getD_eq_getD_getElem?,Array.getElem?_append_left hi',Array.getElem?_eq_getElem hi']
    rw [this]
    exact hv.2 i vs[i] x (by simp [hi']) e1
theorem qjn [Dfr] (hE : EnvOK E) {gen : Bool} {fn : Func} {Q : ARes → qa → Prop} {w' : World} {I' : Nat → Nat → Prop} {μ' : Nat → Option Nat} {h' : qa} {a' : Act} {s' : qc} {x : AX} (hn0 : h0.length = F.n0) (S' : SR F w0 I0 μ0 h0 w' I' μ' h' a' s') (hx : x = .normal ∨ x = .ret) (hk' : jx E fn.results.toList gen h0.length Q x s' h') :
    ∃v,(results fn a'.tmps).run E.P w'= .ok v w'∧yr w0 I0 μ0 h0 Q (.returned v) w':=by
  have hk': ∃xs,qei E s' h' fn.results.toList=some xs∧qt6 gen h0.length .ret Q (qdz xs) h':=by
    rcases hx with rfl|rfl
    · simp only [jx] at hk'
      split at hk'
      · rename_i xs he;exact⟨xs,he,hk'⟩
      · exact hk'.elim
    · simp only [jx] at hk'
      split at hk'
      · rename_i xs he;exact⟨xs,he,hk'⟩
      · exact hk'.elim
  obtain⟨xs,hxs,hout⟩:=hk'
  obtain⟨us,hrun,hc⟩:=qad hE S' _ hxs
  refine⟨if hz:us.toArray.size=1 then us.toArray[0] else .tuple us.toArray, ?_, ?_⟩
  · unfold results
    have hm:(fn.results.mapM fun r=>(match r with| .tmp t=>pure (a'.tmps.getD t undef)| .cell b t=>do loadVar t (←asAddr (a'.tmps.getD b undef)):Sem Value)).run E.P w'= .ok us.toArray w':=by
      rw [Array.mapM_eq_mapM_toList]
      simp only [map_eq_pure_bind,Sem.run_bind,hrun,Result.andThen_ok,Sem.run_pure]
    rw [Sem.run_bind]
    refine(congrArg (fun r=>Result.andThen r _) hm).trans ?_
    simp only [Result.andThen_ok,Sem.run_pure]
  · have hrep : Rep w' I' h' μ' (if hz : us.toArray.size = 1 then us.toArray[0] else .tuple us.toArray) (qdz xs) := by
      match us,xs,hc with
      |[u],[x],hc=>exact hc.2 0 u x rfl rfl
      |[],[],_=>exact .tup _ _ rfl (fun i v c e1 _=>by simp at e1)
      | u1 :: u2 :: us, x1 :: x2 :: xs, hc =>
        rw [dif_neg (by simp)]
        exact .tup _ _ (by simpa using hc.1) fun i v c e1 e2=>hc.2 i v c (by simpa using e1) e2
      |[],_::_,hc=>have:=hc.1;simp at this
      |_::_,[],hc=>have:=hc.1;simp at this
      |[_],_::_::_,hc=>have:=hc.1;simp at this
      |_::_::_,[_],hc=>have:=hc.1;simp at this
    obtain⟨I2,μ2,h2,x2,hr2,hR2,hF2,hM2,hQ⟩:=qac (gen:=gen) hn0 S' hrep (hn0▸hout)
    exact⟨.ret x2,h2,I2,μ2,hQ,hr2,hR2,hF2,hM2⟩
theorem qh.bodyOk(gen j:Bool)(hE:EnvOK E){f:FuncId}{fn:Func}{c:Code}{args:List AV}{Q:ARes→qa→Prop}(hf:E.P.funcs[f]? =some fn)(hb:fn.body=some c)(hname:(fn.name== "runtime.NumGoroutine")=false)
    (hargs:Nat.ble args.length fn.ntmps=true) (hk:Ok E ⟨fn.ntmps,h.length,j⟩ c (jx E fn.results.toList gen h.length Q) (y8 0 args) h):qh E f args h Q:=by
  unfold qh
  refine⟨⟨fn,hf,by rw [hb];rfl,hname⟩,fun w I μ vs R hv=>calls_of_wp hf hb ?_⟩
  have hl:vs.size=args.length:=by simpa using hv.1
  have hargs:args.length≤fn.ntmps:=by simpa using hargs
  have S:=qq0 (j:=j) R hv hargs
  unfold Ok at hk
  refine Code.wp_mono (fun e a' w' hq=> ?_) (hk w I μ h rfl w I μ _ S)
  obtain⟨x,I',μ',h',s',S',hx,hk'⟩:=hq
  have fin: ∀{x:AX},(x= .normal∨x= .ret)→jx E fn.results.toList gen h.length Q x s' h'→a'.defers=[]∧∃v,(results fn a'.tmps).run E.P w'= .ok v w'∧yr w I μ h Q (.returned v) w':=fun hx hk'=>⟨S'.nd,qjn hE rfl S' hx hk'⟩
  cases e with
  | normal =>
    cases x with
    |normal=>exact fin (.inl rfl) hk'
    |_=>exact hx.elim
  | ret =>
    cases x with
    |ret=>exact fin (.inr rfl) hk'
    |_=>exact hx.elim
  | panic chain =>
    cases x with
    | panic x =>
      obtain⟨v,rfl,hr⟩:=hx
      simp only [jx] at hk'
      obtain⟨I2,μ2,h2,x2,hr2,hR2,hF2,hM2,hQ⟩:=qac (gen:=gen) rfl S' hr hk'
      exact⟨S'.nd,.panic x2,h2,I2,μ2,hQ,⟨v,rfl,hr2⟩,hR2,hF2,hM2⟩
    |_=>exact hx.elim
  | exit i =>
    cases x with
    |exit j=>exact hk'.elim
    |_=>exact hx.elim
  |goto l=>cases x <;>exact hx.elim
  |outgrown=>cases x <;>exact hx.elim
def jbp(n0:Nat)(v:AV)(h:qa)(v':AV)(h':qa):Prop:=
  ∀(F:Fp) (w0:World) (I0:Nat→Nat→Prop) (μ0:Nat→Option Nat) (h0:qa) (w:World) (I:Nat→Nat→Prop) (μ:Nat→Option Nat) (a:Act),F.n0=n0→h0.length=F.n0→SR F w0 I0 μ0 h0 w I μ h a [(0,v)]→∃I' μ',SR F w0 I0 μ0 h0 w I' μ' h' a [(0,v')]
def qsv(E:Env)(rs:List ResultVar)(n0:Nat)(Q:ARes→qa→Prop)(e:AX)(s:qc)(h:qa):Prop:=
  (e= .normal∨e= .ret)∧∃vs v' h',qei E s h rs=some vs∧jbp n0 (qdz vs) h v' h'∧Q (.ret v') h'
theorem q49 (hE : EnvOK E) {fn : Func} {Q : ARes → qa → Prop} {w' : World} {I' : Nat → Nat → Prop} {μ' : Nat → Option Nat} {h' : qa} {a' : Act} {s' : qc} {x : AX} (hn0 : h0.length = F.n0) (S' : SR F w0 I0 μ0 h0 w' I' μ' h' a' s') (hk' : qsv E fn.results.toList h0.length Q x s' h') :
    ∃v,(results fn a'.tmps).run E.P w'= .ok v w'∧yr w0 I0 μ0 h0 Q (.returned v) w':=by
  obtain⟨_,xs,x2,h2,hxs,hA,hQ⟩:=hk'
  obtain⟨us,hrun,hc⟩:=qad hE S' _ hxs
  refine⟨if hz:us.toArray.size=1 then us.toArray[0] else .tuple us.toArray, ?_, ?_⟩
  · unfold results
    have hm:(fn.results.mapM fun r=>(match r with| .tmp t=>pure (a'.tmps.getD t undef)| .cell b t=>do loadVar t (←asAddr (a'.tmps.getD b undef)):Sem Value)).run E.P w'= .ok us.toArray w':=by
      rw [Array.mapM_eq_mapM_toList]
      simp only [map_eq_pure_bind,Sem.run_bind,hrun,Result.andThen_ok,Sem.run_pure]
    rw [Sem.run_bind]
    refine(congrArg (fun r=>Result.andThen r _) hm).trans ?_
    simp only [Result.andThen_ok,Sem.run_pure]
  · have hrep : Rep w' I' h' μ' (if hz : us.toArray.size = 1 then us.toArray[0] else .tuple us.toArray) (qdz xs) := by
      match us,xs,hc with
      |[u],[x],hc=>exact hc.2 0 u x rfl rfl
      |[],[],_=>exact .tup _ _ rfl (fun i v c e1 _=>by simp at e1)
      | u1 :: u2 :: us, x1 :: x2 :: xs, hc =>
        rw [dif_neg (by simp)]
        exact .tup _ _ (by simpa using hc.1) fun i v c e1 e2=>hc.2 i v c (by simpa using e1) e2
      |[],_::_,hc=>have:=hc.1;simp at this
      |_::_,[],hc=>have:=hc.1;simp at this
      |[_],_::_::_,hc=>have:=hc.1;simp at this
      |_::_::_,[_],hc=>have:=hc.1;simp at this
    generalize (if hz:us.toArray.size=1 then us.toArray[0] else .tuple us.toArray)=v at hrep ⊢
    have S0:SR ⟨1,F.n0,F.jn⟩ w0 I0 μ0 h0 w' I' μ' h' { tmps:= #[v],defers:=[] } [(0,qdz xs)]:=by
      refine⟨S'.rel,S'.fr,S'.hm,fun i=> ?_,rfl,rfl⟩
      simp only [lkp]
      cases hb:Nat.beq i 0 with
      |true=>obtain rfl:=Nat.eq_of_beq_eq_true hb;exact hrep
      |false=>exact .junk _
    obtain⟨I2,μ2,S2⟩:=hA ⟨1,F.n0,F.jn⟩ w0 I0 μ0 h0 w' I' μ' _ hn0.symm hn0 S0
    exact⟨.ret x2,h2,I2,μ2,hQ,S2.slots 0,S2.rel,S2.fr,S2.hm⟩
theorem qh.bodyOkN (gen j : Bool) (hE : EnvOK E) {f : FuncId} {fn : Func} {c : Code} {args : List AV} {Q : ARes → qa → Prop} (hf : E.P.funcs[f]? = some fn) (hb : fn.body = some c) (hname : (fn.name == "runtime.NumGoroutine") = false)
    (hargs:Nat.ble args.length fn.ntmps=true) (hk:Ok E ⟨fn.ntmps,h.length,j⟩ c (fun e s' h'=>jx E fn.results.toList gen h.length Q e s' h'∨qsv E fn.results.toList h.length Q e s' h') (y8 0 args) h):qh E f args h Q:=by
  unfold qh
  refine⟨⟨fn,hf,by rw [hb];rfl,hname⟩,fun w I μ vs R hv=>calls_of_wp hf hb ?_⟩
  have hl:vs.size=args.length:=by simpa using hv.1
  have hargs:args.length≤fn.ntmps:=by simpa using hargs
  have S:=qq0 (j:=j) R hv hargs
  unfold Ok at hk
  refine Code.wp_mono (fun e a' w' hq=> ?_) (hk w I μ h rfl w I μ _ S)
  obtain⟨x,I',μ',h',s',S',hx,hk'⟩:=hq
  have fin: ∀{x:AX},(x= .normal∨x= .ret)→(jx E fn.results.toList gen h.length Q x s' h'∨qsv E fn.results.toList h.length Q x s' h')→a'.defers=[]∧∃v,(results fn a'.tmps).run E.P w'= .ok v w'∧yr w I μ h Q (.returned v) w':=fun hx hk'=>⟨S'.nd,hk'.elim (fun hk'=>qjn hE rfl S' hx hk') fun hk'=>q49 hE rfl S' hk'⟩
  cases e with
  | normal =>
    cases x with
    |normal=>exact fin (.inl rfl) hk'
    |_=>exact hx.elim
  | ret =>
    cases x with
    |ret=>exact fin (.inr rfl) hk'
    |_=>exact hx.elim
  | panic chain =>
    cases x with
    | panic x =>
      obtain⟨v,rfl,hr⟩:=hx
      rcases hk' with hk'|hk'
      · simp only [jx] at hk'
        obtain⟨I2,μ2,h2,x2,hr2,hR2,hF2,hM2,hQ⟩:=qac (gen:=gen) rfl S' hr hk'
        exact⟨S'.nd,.panic x2,h2,I2,μ2,hQ,⟨v,rfl,hr2⟩,hR2,hF2,hM2⟩
      · rcases hk'.1 with h|h <;>cases h
    |_=>exact hx.elim
  | exit i =>
    cases x with
    | exit j =>
      rcases hk' with hk'|hk'
      · exact hk'.elim
      · rcases hk'.1 with h|h <;>cases h
    |_=>exact hx.elim
  |goto l=>cases x <;>exact hx.elim
  |outgrown=>cases x <;>exact hx.elim
theorem qh.bodyG(gen j:Bool)(hE:EnvOK E){f:FuncId}{fn:Func}{c:Code}{args:List AV}{Q:ARes→qa→Prop}(hf:E.P.funcs[f]? =some fn)(hb:fn.body=some c)(hname:(fn.name== "runtime.NumGoroutine")=false)
    (hargs:Nat.ble args.length fn.ntmps=true) (hk:zn E ⟨fn.ntmps,h.length,j⟩ c (jx E fn.results.toList gen h.length Q) (y8 0 args) h):qh E f args h Q:=qh.bodyOk gen j hE hf hb hname hargs (Ok.of_aCode hE hk)
theorem qh.body(hE:EnvOK E){f:FuncId}{fn:Func}{c:Code}{args:List AV}{Q:ARes→qa→Prop}(hf:E.P.funcs[f]? =some fn)(hb:fn.body=some c)(hname:(fn.name== "runtime.NumGoroutine")=false)
    (hargs:Nat.ble args.length fn.ntmps=true) (hk:zn E ⟨fn.ntmps,h.length,false⟩ c (jx E fn.results.toList false h.length Q) (y8 0 args) h):qh E f args h Q:=qh.bodyG false false hE hf hb hname hargs hk
theorem qh.bodyR(hE:EnvOK E){f:FuncId}{fn:Func}{c:Code}{args:List AV}{Q:ARes→qa→Prop}(hf:E.P.funcs[f]? =some fn)(hb:fn.body=some c)(hname:(fn.name== "runtime.NumGoroutine")=false)
    (hargs:Nat.ble args.length fn.ntmps=true) (hk:zn E ⟨fn.ntmps,h.length,false⟩ c (jx E fn.results.toList true h.length Q) (y8 0 args) h):qh E f args h Q:=qh.bodyG true false hE hf hb hname hargs hk
end
end Go.AM
