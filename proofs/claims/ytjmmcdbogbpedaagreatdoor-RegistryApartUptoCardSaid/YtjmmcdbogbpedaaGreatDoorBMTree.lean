import Derived.Test.YtjmmcdbogbpedaaGreatDoorBMUse
namespace Go.AM
set_option linter.unusedSectionVars false
variable [Lay]
inductive Tr where
 |fail (why:Nat)
 |chk (c:DP) (t:Tr)
 |ite (b:Bool) (t e:Tr)
 |call (g:FuncId) (args:List AV) (h:qa) (K:ARes→qa→Tr)
 |icall (g:FuncId) (args:List AV) (h:qa) (K:List Nat→AV→List (Nat×AB)→Tr) (X:AV→qa→Tr)
 |cut (k:Nat) (s:qc) (h:qa) (K:AX→qc→qa→Tr)
 |pick (n:Nat) (K:Nat→Tr)
 |out (e:AX) (s:qc) (h:qa)
def qbn(F:Fp)(d:Option Nat)(v:AV)(s:qc)(h:qa)(K:qc→qa→Tr):Tr:=
 match d with
 |some d=>match Nat.blt d F.nt with
  |true=>K ((d,v)::s) h
  |false=> .fail 1
 |none=>K s h
def q7v(F:Fp)(d:Option Nat)(s:qc)(K:qc→qa→Tr)(X:AV→qc→qa→Tr)(r:ARes)(h:qa):Tr:=
 match r with
 | .ret v=>nfR v fun v=>nfH h fun h=>qbn F d v s h K
 | .panic v=>qed v fun v=>X v s h
def qzd:List DP→Tr→Tr
 |[],t=>t
 |c::r,t=> .chk c (qzd r t)
def q5k(F:Fp)(d:Option Nat)(s:qc)(h:qa)(K:qc→qa→Tr)(b:Nat)(x:AB):Tr:=
 match x with
 | .mp (.pair .bool k) v l=> .ite l.tail.isEmpty (qbn F d (.tup [.f]) s h K) (.pick l.tail.length fun j=>nfH (qe h b (.mp (.pair .bool k) v (qtj k v l j))) fun h=>qbn F d (.tup [.t,.junk,.junk]) s h K)
 |_=> .fail 33
def qur (E : Env) (F : Fp) (o : Oper) (s : qc) (h : qa) (K : qc → qa → Tr) (X : AV → qc → qa → Tr) : Tr :=
 match o.op with
 | .call { callee := .value fv, args := as, argTypes := ts } =>
  match Nat.beq as.size ts.size,ev E s 0 fv with
  | true, .fn (.func g) a c =>
   match E.raw.contains g with
   |true=>qdp (a++(j6 E s as.toList ts.toList++c)) fun vs=> .call g vs h (q7v F o.dst s K X)
   |false=>qdp (a++(j6 E s as.toList ts.toList++c)) fun vs=>qdp (vs.map (res (qd h))) fun ws=>
    nfH (qg h (frz (qd h) (qt vs))) fun h=> .call g ws h (q7v F o.dst s K X)
  |_,_=> .fail (1000*o.dst.getD 999+2)
 | .panic x=>match ev E s 0 x with
  | .iface t v=>X (.iface t v) s h
  |_=> .fail (1000*o.dst.getD 999+17)
 | _ =>
  nfN h.length fun b0=>match fOp E o s h b0 with
  |some ⟨v,ws,cs⟩=>qzd cs (qed v fun v=>nfH (qg h ws) fun h=>qbn F o.dst v s h K)
  |none=>match qk9 E o s with
   |some b=>q5k F o.dst s h K b (qd h b)
   |none=> .fail (1000*o.dst.getD 999+3)
def qw0(z:Int)(f:Int→Tr):Nat→Tr
 |0=> .fail 18
 |n+1=> .ite (decide (z=Int.ofNat n)) (f (Int.ofNat n)) (qw0 z f n)
def qwy(E:Env)(F:Fp)(o:Oper)(s:qc)(h:qa)(K:qc→qa→Tr)(X:AV→qc→qa→Tr):Tr:=
 match qjp E s o with
 |none=>qur E F o s h K X
 |some (d,k,z,n)=>qw0 z (fun j=>qur E F o ((d,.int k j)::s) h K X) n
def qh0 (E : Env) (F : Fp) (ops : List Oper) (K : qc → qa → Tr) (X : AV → qc → qa → Tr) : List Oper → qc → qa → Tr
 |[],s,h=>K s h
 | o :: r, s, h =>
  match o.guard with
  |none=>qwy E F o s h (qh0 E F ops K X r) X
  | some (j, want) =>
   match zb ops s j with
   |some (d,v)=>
    match v,want with
    | .t,true=>qwy E F o s h (qh0 E F ops K X r) X
    | .f,false=>qwy E F o s h (qh0 E F ops K X r) X
    | .bool b,true=> .ite b (qwy E F o ((d,.t)::s) h (qh0 E F ops K X r) X) (qbn F o.dst jw ((d,.f)::s) h (qh0 E F ops K X r))
    | .bool b,false=> .ite b (qbn F o.dst jw ((d,.t)::s) h (qh0 E F ops K X r)) (qwy E F o ((d,.f)::s) h (qh0 E F ops K X r) X)
    | .t,false=>qbn F o.dst jw s h (qh0 E F ops K X r)
    | .f,true=>qbn F o.dst jw s h (qh0 E F ops K X r)
    | .tup [],_=>qbn F o.dst jw s h (qh0 E F ops K X r)
    |_,_=> .fail 4
   |none=> .fail 5
def zu(F:Fp)(d:Option Nat)(v:AV)(s:qc)(K:qc→Tr):Tr:=
 match d with
 |some d=>match Nat.blt d F.nt with
  |true=>K ((d,v)::s)
  |false=> .fail 6
 |none=>K s
def qel (E : Env) (F : Fp) (ops : List Oper) (B : Nat) (o : Oper) (s : qc) (h : qa) (K : Ft → qc → qa → Tr) (P : AV → qa → Tr) : Tr :=
 match o.op with
 | .call { callee := .value fv, args := as, argTypes := ts } =>
  match Nat.beq as.size ts.size,ev E s 0 fv with
  | true, .fn (.func g) a c =>
   match E.raw.contains g with
   | true => qdp (a ++ (j6 E s as.toList ts.toList ++ c)) fun vs => .icall g vs h (fun br v ws =>
     nfR v fun v=>nfH (qg h ws) fun h=>zu F o.dst v s fun s=>K ⟨kg E ops o,o.dst,br,ws.map (·.1)⟩ s h) fun _ _=> .fail 31
   | false => qdp (a ++ (j6 E s as.toList ts.toList ++ c)) fun vs => qdp (vs.map (res (qd h))) fun us =>
    nfH (qg h (frz (qd h) (qt vs))) fun h1=> .icall g us h1 (fun br v ws=>
     nfR v fun v=>nfH (qg h1 ws) fun h2=>zu F o.dst v s fun s=>K ⟨kg E ops o,o.dst,qt vs++br,(frz (qd h) (qt vs)).map (·.1)++ws.map (·.1)⟩ s h2) fun v h'=>match qt vs with|[]=>P v h'|_=> .fail 30
  |_,_=> .fail (1000*o.dst.getD 999+7)
 | _ =>
  match qvp o with
  |true=>nfN h.length fun b0=>match fOp E o s h b0 with
   |some ⟨v,ws,cs⟩=>qzd cs (qed v fun v=>nfH (qg h ws) fun h'=>zu F o.dst v s fun s'=>K ⟨kg E ops o,o.dst,qbx o (evs E s (q8 E o)),b0::ws.map (·.1)⟩ s' h')
   |none=> .fail (1000*o.dst.getD 999+8)
  |false=>match fOp E o s h B with
   |some ⟨v,ws,cs⟩=>qzd cs (qed v fun v=>nfH (qg h ws) fun h'=>zu F o.dst v s fun s'=>K ⟨kg E ops o,o.dst,qbx o (evs E s (q8 E o)),ws.map (·.1)⟩ s' h')
   |none=> .fail (1000*o.dst.getD 999+9)
def drT(E:Env)(F:Fp)(ops:List Oper)(B:Nat)(X:AV→qa→Tr)(o:Oper)(fts:List Ft)(h:qa)(v:AV)(h':qa):Tr:=
 match pOK E ops fts.reverse o B h&&Nat.ble F.n0 h.length with
 |true=>X v h'
 |false=> .fail 32
def tDr (E : Env) (F : Fp) (ops : List Oper) (B : Nat) (K : qc → qa → Tr) (X : AV → qa → Tr) : List Oper → List Ft → qc → qa → Tr
 |[],fts,s,h=>match dOK ops fts.reverse B&&Nat.ble h.length B with|true=>K s h|false=> .fail 10
 | o :: r, fts, s, h =>
  match o.guard with
  |none=>qel E F ops B o s h (fun f=>tDr E F ops B K X r (f::fts)) (drT E F ops B X o fts h)
  | some (j, want) =>
   match zb ops s j with
   |some (d,v)=>
    match v,want with
    | .t,true=>qel E F ops B o s h (fun f=>tDr E F ops B K X r (f::fts)) (drT E F ops B X o fts h)
    | .f,false=>qel E F ops B o s h (fun f=>tDr E F ops B K X r (f::fts)) (drT E F ops B X o fts h)
    | .bool b,true=> .ite b (qel E F ops B o ((d,.t)::s) h (fun f=>tDr E F ops B K X r (f::fts)) (drT E F ops B X o fts h)) (zu F o.dst jw ((d,.f)::s) fun s=>tDr E F ops B K X r (⟨kg E ops o,o.dst,[],[]⟩::fts) s h)
    | .bool b,false=> .ite b (zu F o.dst jw ((d,.t)::s) fun s=>tDr E F ops B K X r (⟨kg E ops o,o.dst,[],[]⟩::fts) s h) (qel E F ops B o ((d,.f)::s) h (fun f=>tDr E F ops B K X r (f::fts)) (drT E F ops B X o fts h))
    | .t,false=>zu F o.dst jw s fun s=>tDr E F ops B K X r (⟨kg E ops o,o.dst,[],[]⟩::fts) s h
    | .f,true=>zu F o.dst jw s fun s=>tDr E F ops B K X r (⟨kg E ops o,o.dst,[],[]⟩::fts) s h
    | .tup [],_=>zu F o.dst jw s fun s=>tDr E F ops B K X r (⟨kg E ops o,o.dst,[],[]⟩::fts) s h
    |_,_=> .fail 11
   |none=> .fail 12
abbrev TK:=AX→qc→qa→Tr
def jaz(K:TK)(next:qc→qa→Tr)(e:AX)(s:qc)(h:qa):Tr:=
 match e with
 | .normal=>next s h
 | .exit i=>K (.exit i) s h
 | .ret=>K .ret s h
 | .panic v=>K (.panic v) s h
def q19(id:Nat)(K:TK)(e:AX)(s:qc)(h:qa):Tr:=
 match e with
 | .normal=>K .normal s h
 | .exit i=>match Nat.beq i id with|true=>K .normal s h|false=>K (.exit i) s h
 | .ret=>K .ret s h
 | .panic v=>K (.panic v) s h
def q82(n0:Nat)(K:qc→qa→Tr)(s:qc)(h:qa):Tr:=match Nat.ble n0 h.length with|true=>K s h|false=> .fail 13
def nC:Code→Nat
 | .seq a b=>1+nC a+nC b
 | .cond _ a b=>nC a+nC b
 | .block _ c=>nC c
 | .loop c=>1+nC c
 |_=>0
def qsa(f:TK→qc→qa→Tr):Nat→TK→qc→qa→Tr
 |0,_,_,_=> .fail 14
 |n+1,K,s,h=>f (jaz K (qsa f n K)) s h
def wa(E:Env)(F:Fp)(cuts:List Nat)(n:Nat):Nat→Code→TK→qc→qa→Tr
 |_,.skip,K,s,h=>K .normal s h
 |k,.seq a b,K,s,h=>wa E F cuts n (k+1) a (jaz K (match cuts.contains k with|true=>fun s h=> .cut k s h K|false=>wa E F cuts n (k+1+nC a) b K)) s h
 |k,.cond c a b,K,s,h=>
  match ev E s 0 c with
  | .t=>wa E F cuts n k a K s h
  | .f=>wa E F cuts n (k+nC a) b K s h
  | .bool t=> .ite t (wa E F cuts n k a K s h) (wa E F cuts n (k+nC a) b K s h)
  |_=> .fail 15
 |k,.block id c,K,s,h=>wa E F cuts n k c (q19 id K) s h
 |k,.loop c,K,s,h=>match cuts.contains k with|true=> .cut k s h K|false=>qsa (wa E F cuts n (k+1) c) n K s h
 |_,.exit i,K,s,h=>K (.exit i) s h
 |_,.ret,K,s,h=>K .ret s h
 |_,.region _ ops false,K,s,h=>qh0 E F ops.toList (K .normal) (fun v=>K (.panic v)) ops.toList s h
 |_,.region _ ops true,K,s,h=>tDr E F ops.toList (h.length+ops.size) (q82 F.n0 (K .normal)) (fun v h=>qed v fun v=>nfH h fun h=>K (.panic v) [] h) ops.toList [] s h
 |_,_,_,_,_=> .fail 16
def qn:Nat→Nat→Code→Option (Bool×Nat×Code)
 | k, i, .seq a b => match Nat.beq k i with
  |true=>some (false,i+1+nC a,b)
  |false=>match Nat.blt k (i+1+nC a) with
   |true=>qn k (i+1) a
   |false=>qn k (i+1+nC a) b
 |k,i,.cond _ a b=>match Nat.blt k (i+nC a) with
  |true=>qn k i a
  |false=>qn k (i+nC a) b
 |k,i,.block _ c=>qn k i c
 |k,i,.loop c=>match Nat.beq k i with
  |true=>some (true,i+1,c)
  |false=>qn k (i+1) c
 |_,_,_=>none
def qke:Bool×Nat×Code→Code
 |(true,_,c)=> .loop c
 |(false,_,c)=>c
def Tr.holds(E:Env)(CO:Nat→qc→qa→(AX→qc→qa→Prop)→Prop)(fin:AX→qc→qa→Prop):Tr→Prop
 | .fail _=>False
 | .chk c t=>c.p∧t.holds E CO fin
 | .ite b t e=>aIf b (t.holds E CO fin) (e.holds E CO fin)
 | .call g args h K=>qh E g args h fun r h'=>(K r h').holds E CO fin
 | .icall g args h K X=>(∃br v ws,qh7 E g args br h v ws∧(K br v ws).holds E CO fin)∨∃v h',qh E g args h (fun r h''=>r= .panic v∧h''=h')∧(X v h').holds E CO fin
 | .cut k s h K=>CO k s h fun e s h=>(K e s h).holds E CO fin
 | .pick n K=> ∀j,j<n→(K j).holds E CO fin
 | .out e s h=>fin e s h
section
variable {E:Env} {F:Fp} {CO:Nat→qc→qa→(AX→qc→qa→Prop)→Prop} {fin:AX→qc→qa→Prop}
theorem kq{d:Option Nat}{v:AV}{s:qc}{h:qa}{K:qc→qa→Tr}{Kp:qc→qa→Prop}(hK: ∀s h,(K s h).holds E CO fin→Kp s h)
  (hh:(qbn F d v s h K).holds E CO fin):qa0 F d v s h Kp:=by
 unfold qbn at hh
 unfold qa0
 split at hh
 ·split at hh
  ·rename_i hb;simp only [hb];exact hK _ _ hh
  ·exact hh.elim
 ·exact hK _ _ hh
theorem j4{d:Option Nat}{v:AV}{s:qc}{K:qc→Tr}{Kp:qc→Prop}(hK: ∀s,(K s).holds E CO fin→Kp s)
  (hh:(zu F d v s K).holds E CO fin):yv F d v s Kp:=by
 unfold zu at hh
 unfold yv
 split at hh
 ·split at hh
  ·rename_i hb;simp only [hb];exact hK _ hh
  ·exact hh.elim
 ·exact hK _ hh
theorem qd5: ∀{cs:List DP} {t:Tr} {p:Prop},(t.holds E CO fin→p)→(qzd cs t).holds E CO fin→qnj cs p:=by
 have key: ∀{cs:List DP} {t:Tr} {p:Prop},(t.holds E CO fin→p)→(qzd cs t).holds E CO fin→q6d cs p:=by
  intro cs
  induction cs with
  |nil=>intro t p hp hh;exact hp hh
  |cons c r ih=>intro t p hp hh;exact⟨hh.1,ih hp hh.2⟩
 intro cs t p hp hh
 have:=key hp hh
 unfold qnj
 split <;>exact this
theorem qlo{d:Option Nat}{s:qc}{K:qc→qa→Tr}{X:AV→qc→qa→Tr}{Kp:qc→qa→Prop}{Xp:AV→qc→qa→Prop}(hK: ∀s h,(K s h).holds E CO fin→Kp s h)
  (hX: ∀v s h,(X v s h).holds E CO fin→Xp v s h) (r:ARes) (h:qa) (hh:(q7v F d s K X r h).holds E CO fin):qy7 F d s Kp Xp r h:=by
 unfold q7v at hh
 unfold qy7
 cases r with
 |ret v=>
  simp only [qbt,kv] at hh ⊢
  exact kq hK hh
 |panic v=>
  simp only [ym] at hh
  exact hX _ _ _ hh
theorem q0i{o:Oper}{s:qc}{h:qa}{b:Nat}(hb:qk9 E o s=some b):q0h E o s h=none:=by
 unfold qk9 at hb
 split at hb
 ·rename_i ho
  unfold q0h
  rw [ho]
 ·cases hb
theorem quq{d:Option Nat}{s:qc}{h:qa}{K:qc→qa→Tr}{Kp:qc→qa→Prop}{b:Nat}{x:AB}(hK: ∀s h,(K s h).holds E CO fin→Kp s h)
  (hh:(q5k F d s h K b x).holds E CO fin):qcs F d s h Kp b x:=by
 unfold q5k at hh
 unfold qcs
 split at hh
 ·rename_i k v l
  obtain⟨h1,h2⟩:=v6 hh
  refine⟨fun e=>kq hK (h1 (by rw [e];rfl)),fun j hj=> ?_⟩
  have hne:l.tail.isEmpty=false:=by
   cases ht:l.tail with
   |nil=>rw [ht] at hj;cases hj
   |cons=>rfl
  have:=h2 hne j hj
  simp only [kv] at this
  exact kq hK this
 ·exact hh.elim
theorem qb6{o:Oper}{s:qc}{h:qa}{K:qc→qa→Tr}{X:AV→qc→qa→Tr}{Kp:qc→qa→Prop}{Xp:AV→qc→qa→Prop}(hK: ∀s h,(K s h).holds E CO fin→Kp s h)
  (hX: ∀v s h,(X v s h).holds E CO fin→Xp v s h) (hh:(qur E F o s h K X).holds E CO fin):qju E F o s h Kp Xp:=by
 unfold qur at hh
 unfold qju
 split at hh
 ·rename_i ho
  simp only [ho]
  split at hh
  ·rename_i hq1 hq2
   simp only [hq1,hq2]
   split at hh
   ·rename_i hr
    simp only [hr]
    simp only [wv] at hh ⊢
    exact qh.mono hh fun r h' hq=>qlo hK hX r h' hq
   ·rename_i hr
    simp only [hr]
    simp only [wv,kv] at hh ⊢
    exact qh.mono hh fun r h' hq=>qlo hK hX r h' hq
  ·exact hh.elim
 ·rename_i ho
  simp only [ho]
  split at hh
  ·rename_i hq;simp only [hq];exact hX _ _ _ hh
  ·exact hh.elim
 ·simp only [qrj] at hh ⊢
  split at hh
  ·rename_i he
   rw [he]
   refine qd5 (fun hh=> ?_) hh
   simp only [ym,kv] at hh ⊢
   exact kq hK hh
  ·rename_i he
   rw [he]
   split at hh
   ·rename_i b hb
    simp only [q0i hb,hb]
    exact quq hK hh
   ·exact hh.elim
theorem qfs{z:Int}{f:Int→Tr}{g:Int→Prop}(hf: ∀j,(f j).holds E CO fin→g j): ∀{n:Nat},(qw0 z f n).holds E CO fin→qqh z g n
 |0,h=>h.elim
 |_+1,h=>ux (fun e=>hf _ ((v6 h).1 e)) (fun e=>qfs hf ((v6 h).2 e))
theorem z8{o:Oper}{s:qc}{h:qa}{K:qc→qa→Tr}{X:AV→qc→qa→Tr}{Kp:qc→qa→Prop}{Xp:AV→qc→qa→Prop}(hK: ∀s h,(K s h).holds E CO fin→Kp s h)
  (hX: ∀v s h,(X v s h).holds E CO fin→Xp v s h) (hh:(qwy E F o s h K X).holds E CO fin):qnh E F o s h Kp Xp:=by
 unfold qwy at hh
 unfold qnh
 split at hh
 ·rename_i hs;rw [hs];exact qb6 hK hX hh
 ·rename_i hs;rw [hs];exact qfs (fun j hj=>qb6 hK hX hj) hh
theorem qwz{ops:List Oper}{K:qc→qa→Tr}{X:AV→qc→qa→Tr}{Kp:qc→qa→Prop}{Xp:AV→qc→qa→Prop}(hK: ∀s h,(K s h).holds E CO fin→Kp s h)
  (hX: ∀v s h,(X v s h).holds E CO fin→Xp v s h): ∀(l:List Oper) (s:qc) (h:qa),(qh0 E F ops K X l s h).holds E CO fin→qax E F ops Kp Xp l s h:=by
 intro l
 induction l with
 |nil=>intro s h hh;exact hK _ _ hh
 | cons o r ih =>
  intro s h hh
  unfold qh0 at hh
  unfold qax
  split at hh
  ·rename_i hg;rw [hg];exact z8 ih hX hh
  ·rename_i j want hg
   rw [hg]
   split at hh
   ·rename_i d v hgo
    simp only [hgo]
    split at hh
    ·exact z8 ih hX hh
    ·exact z8 ih hX hh
    ·obtain ⟨h1, h2⟩ := v6 hh
     exact ux (fun e=>z8 ih hX (h1 e)) (fun e=>kq ih (h2 e))
    ·obtain ⟨h1, h2⟩ := v6 hh
     exact ux (fun e=>kq ih (h1 e)) (fun e=>z8 ih hX (h2 e))
    ·exact kq ih hh
    ·exact kq ih hh
    ·exact kq ih hh
    ·exact hh.elim
   ·exact hh.elim
theorem xr{ops:List Oper}{B:Nat}{o:Oper}{s:qc}{h:qa}{K:Ft→qc→qa→Tr}{Kp:Ft→qc→qa→Prop}{P:AV→qa→Tr}{Pp:AV→qa→Prop}(hP: ∀v h,(P v h).holds E CO fin→Pp v h)(hK: ∀f s h,(K f s h).holds E CO fin→Kp f s h)
  (hh:(qel E F ops B o s h K P).holds E CO fin):gy E F ops B o s h Kp Pp:=by
 unfold qel at hh
 unfold gy
 split at hh
 ·rename_i ho
  simp only [ho]
  split at hh
  ·rename_i hq1 hq2
   simp only [hq1,hq2]
   split at hh
   ·rename_i hr
    simp only [hr]
    simp only [wv] at hh ⊢
    rcases hh with⟨br,v,ws,hi,hh⟩|⟨_,_,_,hh⟩
    case inr=>exact hh.elim
    refine⟨br,v,ws,hi, ?_⟩
    simp only [qbt,kv] at hh ⊢
    exact j4 (fun s=>hK _ s _) hh
   ·rename_i hr
    simp only [hr]
    simp only [wv,kv] at hh ⊢
    rcases hh with⟨br,v,ws,hi,hh⟩|⟨v,h',hi,hh⟩
    case inr=>
     split at hh
     ·rename_i hown
      exact .inr ⟨hown,v,h',hi,hP _ _ hh⟩
     ·exact hh.elim
    refine .inl ⟨br,v,ws,hi, ?_⟩
    simp only [qbt] at hh ⊢
    exact j4 (fun s=>hK _ s _) hh
  ·exact hh.elim
 ·split at hh
  ·rename_i ha
   simp only [ha]
   simp only [qrj] at hh ⊢
   split at hh
   ·rename_i he
    rw [he]
    refine qd5 (fun hh=> ?_) hh
    simp only [ym,kv] at hh ⊢
    exact j4 (fun s=>hK _ s _) hh
   ·exact hh.elim
  ·rename_i ha
   simp only [ha]
   split at hh
   ·rename_i he
    rw [he]
    refine qd5 (fun hh=> ?_) hh
    simp only [ym,kv] at hh ⊢
    exact j4 (fun s=>hK _ s _) hh
   ·exact hh.elim
theorem q1a{ops:List Oper}{B:Nat}{K:qc→qa→Tr}{Kp:qc→qa→Prop}{X:AV→qa→Tr}{Xp:AV→qa→Prop}(hX: ∀v h,(X v h).holds E CO fin→Xp v h)(hK: ∀s h,(K s h).holds E CO fin→Kp s h):
  ∀(l:List Oper) (fts:List Ft) (s:qc) (h:qa),(tDr E F ops B K X l fts s h).holds E CO fin→aDr E F ops B Kp Xp l fts s h:=by
 intro l
 have hP: ∀o fts h v h',(drT E F ops B X o fts h v h').holds E CO fin→drP E F ops B Xp o fts h v h':=by
  intro o fts h v h' hh
  unfold drT at hh
  unfold drP
  split at hh
  ·rename_i hb;rw [hb];exact hX _ _ hh
  ·exact hh.elim
 induction l with
 |nil=>
  intro fts s h hh
  unfold tDr at hh
  unfold aDr
  split at hh
  ·rename_i hb;rw [hb];exact hK _ _ hh
  ·exact hh.elim
 | cons o r ih =>
  intro fts s h hh
  unfold tDr at hh
  unfold aDr
  split at hh
  ·rename_i hg;rw [hg];exact xr (hP o fts h) (fun f s h=>ih _ s h) hh
  ·rename_i j want hg
   rw [hg]
   split at hh
   ·rename_i d v hgo
    simp only [hgo]
    split at hh
    ·exact xr (hP o fts h) (fun f s h=>ih _ s h) hh
    ·exact xr (hP o fts h) (fun f s h=>ih _ s h) hh
    ·obtain ⟨h1, h2⟩ := v6 hh
     exact ux (fun e=>xr (hP o fts h) (fun f s h=>ih _ s h) (h1 e)) (fun e=>j4 (fun s=>ih _ s _) (h2 e))
    ·obtain ⟨h1, h2⟩ := v6 hh
     exact ux (fun e=>j4 (fun s=>ih _ s _) (h1 e)) (fun e=>xr (hP o fts h) (fun f s h=>ih _ s h) (h2 e))
    ·exact j4 (fun s=>ih _ s _) hh
    ·exact j4 (fun s=>ih _ s _) hh
    ·exact j4 (fun s=>ih _ s _) hh
    ·exact hh.elim
   ·exact hh.elim
end
end Go.AM
