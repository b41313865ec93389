import Derived.Test.YtjmmcdbogbpedaaGreatDoorBMTree
namespace Go.AM
set_option linter.unusedSectionVars false
variable [Lay] [Dfr]
section
variable {E:Env} {F:Fp} {K K':AX→qc→qa→Prop} {s s':qc} {h h':qa} {c a b:Code}
theorem Ok.mono(hk: ∀e s h,K e s h→K' e s h)(o:Ok E F c K s h):Ok E F c K' s h:=by
 unfold Ok at o ⊢
 intro w0 I0 μ0 h0 hn0 w I μ a S
 exact Code.wp_mono (fun e a w hq=>CQ.mono hk hq) (o w0 I0 μ0 h0 hn0 w I μ a S)
theorem Ok.skip(hk:K .normal s h):Ok E F .skip K s h:=by
 unfold Ok
 intro w0 I0 μ0 h0 hn0 w I μ a S
 exact wp_skip ⟨.normal,I,μ,h,s,S,trivial,hk⟩
theorem Ok.exit{i:Nat}(hk:K (.exit i) s h):Ok E F (.exit i) K s h:=by
 unfold Ok
 intro w0 I0 μ0 h0 hn0 w I μ a S
 exact wp_exit ⟨.exit i,I,μ,h,s,S,rfl,hk⟩
theorem Ok.ret(hk:K .ret s h):Ok E F .ret K s h:=by
 unfold Ok
 intro w0 I0 μ0 h0 hn0 w I μ a S
 exact wp_ret ⟨.ret,I,μ,h,s,S,trivial,hk⟩
theorem Ok.seq(o:Ok E F a (q03 K fun s h=>Ok E F b K s h) s h):Ok E F (.seq a b) K s h:=by
 unfold Ok at o ⊢
 intro w0 I0 μ0 h0 hn0 w I μ a S
 refine wp_seq (Code.wp_mono (fun e a w hq=> ?_) (o w0 I0 μ0 h0 hn0 w I μ a S))
 refine qfn (fun a w I μ h s S hk=> ?_) hq
 unfold Ok at hk
 exact hk w0 I0 μ0 h0 hn0 w I μ a S
theorem Ok.block{i:Nat}(o:Ok E F c (qj9 i K) s h):Ok E F (.block i c) K s h:=by
 unfold Ok at o ⊢
 intro w0 I0 μ0 h0 hn0 w I μ a S
 exact wp_block (Code.wp_mono (fun e a w hq=>qka hq) (o w0 I0 μ0 h0 hn0 w I μ a S))
theorem Ok.condT{x:Operand}(hx:ev E s 0 x= .t)(o:Ok E F a K s h):Ok E F (.cond x a b) K s h:=by
 unfold Ok at o ⊢
 intro w0 I0 μ0 h0 hn0 w I μ a S
 have r:=y5 (E:=E) S.slots 0 x
 rw [hx] at r
 exact wp_cond_true (qu r rfl) (o w0 I0 μ0 h0 hn0 w I μ a S)
theorem Ok.condF{x:Operand}(hx:ev E s 0 x= .f)(o:Ok E F b K s h):Ok E F (.cond x a b) K s h:=by
 unfold Ok at o ⊢
 intro w0 I0 μ0 h0 hn0 w I μ a S
 have r:=y5 (E:=E) S.slots 0 x
 rw [hx] at r
 exact wp_cond_false (qu r rfl) (o w0 I0 μ0 h0 hn0 w I μ a S)
theorem Ok.condB{x:Operand}{t:Bool}(hx:ev E s 0 x= .bool t)(o1:t=true→Ok E F a K s h)(o2:t=false→Ok E F b K s h):Ok E F (.cond x a b) K s h:=by
 unfold Ok at o1 o2 ⊢
 intro w0 I0 μ0 h0 hn0 w I μ a S
 have r:=y5 (E:=E) S.slots 0 x
 rw [hx] at r
 exact wp_cond_split (qu r rfl) (fun ht=>o1 ht w0 I0 μ0 h0 hn0 w I μ a S) (fun ht=>o2 ht w0 I0 μ0 h0 hn0 w I μ a S)
def qjt(P:Program)(c:Code)(Q:Exit→Act→World→Prop)(a:Act)(w:World):Prop:=
 ∀b k cs,∃e a' w',Q e a' w'∧Arrives P (lone (b.at a (.code c:: .inLoop c::k)) cs w) b k cs e a' w'
theorem qjt.wp{P:Program}{Q:Exit→Act→World→Prop}{a:Act}{w:World}(l:qjt P c Q a w):(Code.loop c).wp P Q a w:=by
 intro b k cs
 obtain⟨e,a',w',hq,harr⟩:=l b k cs
 exact⟨e,a',w',hq,.of_steps (.one step_loop) harr⟩
theorem qjt.round{P:Program}{Q:Exit→Act→World→Prop}{a:Act}{w:World}(l:c.wp P (Exit.then (qjt P c Q) Q) a w):qjt P c Q a w:=by
 intro b k cs
 obtain⟨e,a₁,w₁,hq,harr⟩:=l b (.inLoop c::k) cs
 cases e with
 |normal=>
  obtain⟨e₂,a₂,w₂,hq₂,harr₂⟩:=hq b k cs
  exact⟨e₂,a₂,w₂,hq₂,.of_steps (Steps.trans harr (.one step_inLoop)) harr₂⟩
 |exit id=>exact⟨_,a₁,w₁,hq,.pass (x:= .inLoop c) rfl (fun _ _=> .inl (by simp)) harr⟩
 |goto l=>exact⟨_,a₁,w₁,hq,.pass (x:= .inLoop c) rfl (fun _ _=> .inl (by simp)) harr⟩
 |ret=>exact⟨_,a₁,w₁,hq,.pass (x:= .inLoop c) rfl (fun _ _=> .inl (by simp)) harr⟩
 |panic ch=>exact⟨_,a₁,w₁,hq,.pass (x:= .inLoop c) rfl (fun _ _=> .inl (by simp)) harr⟩
 |outgrown=>exact⟨_,a₁,w₁,hq,.pass (x:= .inLoop c) rfl (fun _ _=> .inl (by simp)) harr⟩
@[irreducible] def OkL (E:Env) (F:Fp) (c:Code) (K:AX→qc→qa→Prop) (s:qc) (h:qa):Prop:=
 ∀(w0:World) (I0:Nat→Nat→Prop) (μ0:Nat→Option Nat) (h0:qa),h0.length=F.n0→∀(w:World) (I:Nat→Nat→Prop) (μ:Nat→Option Nat) (a:Act),SR F w0 I0 μ0 h0 w I μ h a s→qjt E.P c (CQ F w0 I0 μ0 h0 K) a w
theorem OkL.ok(o:OkL E F c K s h):Ok E F (.loop c) K s h:=by
 unfold OkL at o
 unfold Ok
 intro w0 I0 μ0 h0 hn0 w I μ a S
 exact(o w0 I0 μ0 h0 hn0 w I μ a S).wp
theorem OkL.round(o:Ok E F c (q03 K fun s h=>OkL E F c K s h) s h):OkL E F c K s h:=by
 unfold Ok at o
 unfold OkL
 intro w0 I0 μ0 h0 hn0 w I μ a S
 refine qjt.round (Code.wp_mono (fun e a w hq=> ?_) (o w0 I0 μ0 h0 hn0 w I μ a S))
 refine qfn (fun a w I μ h s S hk=> ?_) hq
 unfold OkL at hk
 exact hk w0 I0 μ0 h0 hn0 w I μ a S
theorem Ok.ops(hE:EnvOK E){i:Nat}{ops:Array Oper}(hk:qax E F ops.toList (K .normal) (fun v=>K (.panic v)) ops.toList s h):Ok E F (.region i ops false) K s h:=by
 unfold Ok
 intro w0 I0 μ0 h0 hn0 w I μ a S
 exact Code.wp_mono (fun e a w hq=>qt5 hq) (wp_region_list (uy hE ops.toList a w I μ h s S hk))
theorem Ok.dr(hE:EnvOK E){i:Nat}{ops:Array Oper}{B:Nat}(hk:aDr E F ops.toList B (qs1 F.n0 (K .normal)) (fun v h=>K (.panic v) [] h) ops.toList [] s h):Ok E F (.region i ops true) K s h:=by
 unfold Ok
 intro w0 I0 μ0 h0 hn0 w I μ a S
 exact qfx hE hE.mixed hn0 hk S (fun a w I μ h s S hk=>⟨.normal,I,μ,h,s,S,trivial,hk⟩) (fun a w I μ h v x S hr hx=>⟨.panic x,I,μ,h,[],S,⟨v,rfl,hr⟩,hx⟩)
variable {CO:Nat→qc→qa→(AX→qc→qa→Prop)→Prop} {fin:AX→qc→qa→Prop} {cuts:List Nat} {n:Nat}
theorem qst{k i:Nat}(h:k≠i):Nat.beq k i=false:=by
 cases hb:Nat.beq k i with
 |true=>exact absurd (Nat.eq_of_beq_eq_true hb) h
 |false=>rfl
theorem q6f{k i:Nat}(h:k<i):Nat.blt k i=true:=by simpa using h
theorem q2a{k i:Nat}(h:i≤k):Nat.blt k i=false:=by
 cases hb:Nat.blt k i with
 |true=>
  have:k<i:=by simpa using hb
  omega
 |false=>rfl
theorem wh{k i:Nat}{a b:Code}:qn k i (.seq a b)=(match Nat.beq k i with
  |true=>some (false,i+1+nC a,b)
  |false=>match Nat.blt k (i+1+nC a) with
   |true=>qn k (i+1) a
   |false=>qn k (i+1+nC a) b):=rfl
theorem xn{k i:Nat}{x:Operand}{a b:Code}:qn k i (.cond x a b)=(match Nat.blt k (i+nC a) with
  |true=>qn k i a
  |false=>qn k (i+nC a) b):=rfl
theorem xo{k i:Nat}{c:Code}:qn k i (.loop c)=(match Nat.beq k i with
  |true=>some (true,i+1,c)
  |false=>qn k (i+1) c):=rfl
theorem qfr(hE:EnvOK E){body:Code}(hCO: ∀k p s h Q,qn k 0 body=some p→CO k s h Q→Ok E F (qke p) Q s h):
  ∀(c:Code) (i:Nat) (K:TK) (Kp:AX→qc→qa→Prop) (s:qc) (h:qa),(∀k,i≤k→k<i+nC c→qn k i c=qn k 0 body)→(∀e s h,(K e s h).holds E CO fin→Kp e s h)→
   (wa E F cuts n i c K s h).holds E CO fin→Ok E F c Kp s h:=by
 intro c
 induction c with
 |skip=>intro i K Kp s h _ hK hh;exact Ok.skip (hK _ _ _ hh)
 |exit j=>intro i K Kp s h _ hK hh;exact Ok.exit (hK _ _ _ hh)
 |ret=>intro i K Kp s h _ hK hh;exact Ok.ret (hK _ _ _ hh)
 | block j c ih =>
  intro i K Kp s h hp hK hh
  refine Ok.block (ih i _ _ s h hp (fun e s h hq=> ?_) hh)
  cases e with
  |normal=>exact hK _ _ _ hq
  |exit l=>
   simp only [q19] at hq
   simp only [qj9]
   split at hq
   ·rename_i hb;simp only [hb];exact hK _ _ _ hq
   ·rename_i hb;simp only [hb];exact hK _ _ _ hq
  |ret=>exact hK _ _ _ hq
  |panic v=>exact hK _ _ _ hq
 | cond x a b iha ihb =>
  intro i K Kp s h hp hK hh
  simp only [nC] at hp
  have pa: ∀k,i≤k→k<i+nC a→qn k i a=qn k 0 body:=by
   intro k h1 h2
   rw [←hp k h1 (by omega)]
   rw [xn,q6f h2]
  have pb: ∀k,i+nC a≤k→k<i+nC a+nC b→qn k (i+nC a) b=qn k 0 body:=by
   intro k h1 h2
   rw [←hp k (by omega) (by omega)]
   rw [xn,q2a h1]
  unfold wa at hh
  split at hh
  ·rename_i hx;exact Ok.condT hx (iha _ _ _ _ _ pa hK hh)
  ·rename_i hx;exact Ok.condF hx (ihb _ _ _ _ _ pb hK hh)
  ·rename_i t hx
   obtain⟨h1,h2⟩:=v6 hh
   exact Ok.condB hx (fun e=>iha _ _ _ _ _ pa hK (h1 e)) (fun e=>ihb _ _ _ _ _ pb hK (h2 e))
  ·exact hh.elim
 | seq a b iha ihb =>
  intro i K Kp s h hp hK hh
  simp only [nC] at hp
  have pa: ∀k,i+1≤k→k<i+1+nC a→qn k (i+1) a=qn k 0 body:=by
   intro k h1 h2
   rw [←hp k (by omega) (by omega)]
   rw [wh,qst (by omega),q6f h2]
  have pb: ∀k,i+1+nC a≤k→k<i+1+nC a+nC b→qn k (i+1+nC a) b=qn k 0 body:=by
   intro k h1 h2
   rw [←hp k (by omega) (by omega)]
   rw [wh,qst (by omega),q2a h1]
  have p0:qn i 0 body=some (false,i+1+nC a,b):=by
   rw [←hp i (by omega) (by omega)]
   rw [wh,Nat.beq_refl]
  unfold wa at hh
  refine Ok.seq (iha _ _ _ _ _ pa (fun e s h hq=> ?_) hh)
  cases e with
  |normal=>
   show Ok E F b Kp s h
   simp only [jaz] at hq
   cases hc:cuts.contains i with
   |true=>rw [hc] at hq;exact Ok.mono hK (hCO i _ s h _ p0 hq)
   |false=>rw [hc] at hq;exact ihb _ _ _ _ _ pb hK hq
  |exit l=>exact hK _ _ _ hq
  |ret=>exact hK _ _ _ hq
  |panic v=>exact hK _ _ _ hq
 | loop c ih =>
  intro i K Kp s h hp hK hh
  simp only [nC] at hp
  have pc: ∀k,i+1≤k→k<i+1+nC c→qn k (i+1) c=qn k 0 body:=by
   intro k h1 h2
   rw [←hp k (by omega) (by omega)]
   rw [xo,qst (by omega)]
  have p0:qn i 0 body=some (true,i+1,c):=by
   rw [←hp i (by omega) (by omega)]
   rw [xo,Nat.beq_refl]
  unfold wa at hh
  split at hh
  ·exact Ok.mono hK (hCO i _ s h _ p0 hh)
  ·refine OkL.ok ?_
   have key: ∀m s h,(qsa (wa E F cuts n (i+1) c) m K s h).holds E CO fin→OkL E F c Kp s h:=by
    intro m
    induction m with
    |zero=>intro s h hh;exact hh.elim
    |succ m ihm=>
     intro s h hh
     unfold qsa at hh
     refine OkL.round (ih _ _ _ _ _ pc (fun e s h hq=> ?_) hh)
     cases e with
     |normal=>exact ihm _ _ hq
     |exit l=>exact hK _ _ _ hq
     |ret=>exact hK _ _ _ hq
     |panic v=>exact hK _ _ _ hq
   exact key n s h hh
 | region j ops draw =>
  intro i K Kp s h hp hK hh
  cases draw with
  |false=>exact Ok.ops hE (qwz (fun s h=>hK _ s h) (fun v s h=>hK _ s h) _ _ _ hh)
  |true=>
   refine Ok.dr hE (q1a (fun v h hq=>by simp only [ym,kv] at hq;exact hK _ _ _ hq) (fun s h hq=> ?_) _ _ _ _ hh)
   unfold q82 at hq
   unfold qs1
   split at hq
   ·rename_i hb;simp only [hb];exact hK _ _ _ hq
   ·exact hq.elim
 |rangeFunc f ps x y _ _=>intro i K Kp s h hp hK hh;exact hh.elim
 |scope c _=>intro i K Kp s h hp hK hh;exact hh.elim
 |label l=>intro i K Kp s h hp hK hh;exact hh.elim
 |goto l=>intro i K Kp s h hp hK hh;exact hh.elim
 |refuse why=>intro i K Kp s h hp hK hh;exact hh.elim
end
end Go.AM
