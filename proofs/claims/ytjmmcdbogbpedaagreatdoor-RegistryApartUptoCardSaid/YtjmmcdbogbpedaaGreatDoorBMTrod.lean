import Derived.Test.YtjmmcdbogbpedaaGreatDoorBMUse
import Derived.ProofKit
namespace Go.AM
set_option linter.unusedSectionVars false
variable [Lay]
mutual
def inV:GVal→Prop
 | .mk k n s li lm => (-9223372036854775808 ≤ k ∧ k ≤ 9223372036854775807) ∧ (-9223372036854775808 ≤ n ∧ n ≤ 9223372036854775807) ∧ s.length ≤ 9223372036854775807 ∧ li.length ≤ 9223372036854775807 ∧ qi4 li ∧
   lm.length≤9223372036854775807∧∀x∈lm,x.length≤9223372036854775807
def qi4:List GVal→Prop
 |[]=>True
 |x::r=>inV x∧qi4 r
end
theorem qx3: ∀{l:List GVal},(∀x∈l,inV x)→qi4 l
 |[],_=>trivial
 |x::r,h=>⟨h x (by simp),qx3 fun y hy=>h y (by simp [hy])⟩
def inR:(u:Ty)→u.den→Prop
 | .unit,_=>True
 | .int k,n=>k.min≤n∧n≤k.max
 | .bool,_=>True
 | .str,s=>s.length≤9223372036854775807
 | .pair a b,x=>inR a x.1∧inR b x.2
 | .sl t,l=>l.length≤9223372036854775807∧∀x∈l,inR t x
 | .val,v=>inV v
def upB(B:Nat):(u:Ty)→u.den→Prop
 | .str,s=>s.length≤B
 | .pair a b,x=>upB B a x.1∧upB B b x.2
 | .sl t,l=>l.length≤B∧∀x∈l,upB B t x
 |_,_=>True
structure Clo {H:Type} (Q:DataW H→Prop) (B:Nat):Prop where
 str: ∀bytes,Q (.lit (.string bytes))→bytes.length≤B
 sl: ∀es sp,Q (.slice es sp)→es.length≤B∧∀e∈es,Q e
 agg: ∀ps,Q (.agg ps)→∀p∈ps,Q p
def fsB(E:Env):List (TypeId×Nat)→Nat→Ty→Bool
 |[],_,.unit=>true
 |(t,o)::[],off,u=>Nat.beq o off&&(match(E.ti t).ty with|some a=>decide (a=u)|none=>false)
 |(t,o)::r,off,.pair a b=>Nat.beq o off&&(match(E.ti t).ty with|some a'=>decide (a'=a)|none=>false)&&fsB E r (off+a.sz) b
 |_,_,_=>false
def arB(E:Env)(e:TypeId):Nat→Ty→Bool
 |1,u=>match(E.ti e).ty with|some a=>decide (a=u)|none=>false
 |n+2,.pair a b=>(match(E.ti e).ty with|some a'=>decide (a'=a)|none=>false)&&arB E e (n+1) b
 |_,_=>false
def qi5(E:Env)(t:TypeId)(u:Ty):Bool:=match(E.ti t).ty with|some a=>decide (a=u)|none=>false
def tyB(E:Env)(t:TypeId):Bool:=
 match(E.ti t).ty,(E.ti t).ud with
 |none,_=>true
 |some .val,.struct [(k,0),(n,1),(s,2),(i,3),(m,4)]=>qi5 E k (.int .i64)&&qi5 E n (.int .i64)&&qi5 E s .str&&qi5 E i (.sl .val)&&qi5 E m (.sl .str)
 |some (.int k),.int k'=>decide (k'=k)
 |some .bool,.bool=>true
 |some .str,.str=>true
 |some (.sl u),.slice e=>qi5 E e u&&Nat.ble 1 u.sz
 |some u,.struct fs=>fsB E fs 0 u&&(match u with| .val=>false|_=>true)
 |some u,.array n e=>arB E e n u&&(match u with| .val=>false|_=>true)
 |_,_=>false
def q72(E:Env):Nat→Bool
 |0=>true
 |n+1=>tyB E n&&q72 E n
theorem quz{E:Env}: ∀{n:Nat},q72 E n=true→∀t,t<n→tyB E t=true
 |0,_,t,ht=>by omega
 |n+1,h,t,ht=>by
  simp only [q72,Bool.and_eq_true] at h
  by_cases e:t=n
  ·subst e;exact h.1
  ·exact quz h.2 t (by omega)
theorem q71{E:Env}(h:q72 E E.tab.length=true): ∀t,tyB E t=true:=by
 intro t
 rcases Nat.lt_or_ge t E.tab.length with h1|h1
 ·exact quz h t h1
 ·have e : E.ti t = default := by simp [Env.ti, List.getD_eq_getElem?_getD, List.getElem?_eq_none_iff.2 h1]
  unfold tyB
  rw [e]
  rfl
theorem ke{E:Env}{t:TypeId}{u:Ty}(h:qi5 E t u=true):(E.ti t).ty=some u:=by
 unfold qi5 at h
 split at h
 ·rename_i a e;rw [e,of_decide_eq_true h]
 ·cases h
section
variable {H:Type} {enc:TypeId×Value→H} {E:Env} {W:World} {spare:Nat→Bool} {held:Bool}
def Old(W:World):Nat→Nat→Prop:=fun g _=>g<W.heap.size
theorem uj{α β:Type}{f:α→Option β}: ∀{l:List α} {r:List β},l.mapM f=some r→r.length=l.length∧∀(i:Nat) (x:α),l[i]? =some x→∃y,f x=some y∧r[i]? =some y
 |[],r,h=>by simp at h;subst h;exact⟨rfl,fun i x hx=>by simp at hx⟩
 | a :: l, r, h => by
  rw [List.mapM_cons] at h
  cases hf:f a with
  |none=>rw [hf] at h;cases h
  | some y =>
   rw [hf] at h
   cases hl:l.mapM f with
   |none=>rw [hl] at h;cases h
   |some ys=>
    rw [hl] at h
    have h:some (y::ys)=some r:=h
    cases h
    obtain⟨e1,e2⟩:=uj hl
    refine⟨by simp [e1],fun i x hx=> ?_⟩
    cases i with
    |zero=>simp at hx;subst hx;exact⟨y,hf,rfl⟩
    |succ i=>exact e2 i x (by simpa using hx)
theorem q2h{base:Nat}{a:Addr}{n:Nat}{cs:List Value}(h:W.cells? base a n=some cs):cs.length=n∧∀j,j<n→∃v,cs[j]? =some v∧W.cell? (a.add j)=some v:=by
 unfold World.cells? at h
 split at h
 ·obtain ⟨e1, e2⟩ := uj h
  refine⟨by simpa using e1,fun j hj=> ?_⟩
  obtain⟨v,h1,h2⟩:=e2 j j (by simp [hj])
  exact⟨v,h2,h1⟩
 ·cases h
theorem qsx{g o:Nat}{x:Option Nat}{v:Value}(h:W.cell? ⟨g,o,x⟩=some v):x=none∧g<W.heap.size:=by
 unfold World.cell? at h
 cases x with
 |some k=>
  simp only [Option.isSome_some,if_true] at h
  split at h <;>cases h
 |none=>
  refine⟨rfl, ?_⟩
  simp only [Option.isSome_none,Bool.false_eq_true,if_false] at h
  cases hg:W.heap[g]? with
  |none=>rw [hg] at h;cases h
  |some y=>exact(Array.getElem?_eq_some_iff.1 hg).1
theorem q45 (hE : EnvOK E) (hT : ∀ t, tyB E t = true) {B : Nat} {Q : DataW H → Prop} (hQ : Clo Q B) : ∀ (fuel : Nat) (u : Ty) (t : TypeId) (cs : List Value) (d : DataW H) (ps : List MemPlace), (E.ti t).ty = some u → DataW.trod enc E.P W 0 spare held fuel t cs = some (d, ps) →
  ∃x:u.den,RD W (Old W) u x cs∧inR u x∧(Q d→upB B u x):=by
 intro fuel
 induction fuel with
 |zero=>intro u t cs d ps hu h;cases h
 | succ fuel ih =>
  intro u t cs d ps hu h
  obtain⟨hsz,hkn,_⟩:=hE.ty t u hu
  have hud:=hE.und t hkn
  have hB:=hT t
  unfold tyB at hB
  rw [hu] at hB
  obtain⟨it,hit,hits,_⟩:=hE.info t hkn
  have hcell:E.P.cellsOf t=u.sz:=by unfold Program.cellsOf;rw [hit];simp [hits,hsz]
  have cellsT: ∀(t:TypeId) (u:Ty),(E.ti t).ty=some u→E.P.cellsOf t=u.sz:=by
   intro t u hu
   obtain⟨hsz,hkn,_⟩:=hE.ty t u hu
   obtain⟨it,hit,hits,_⟩:=hE.info t hkn
   unfold Program.cellsOf;rw [hit];simp [hits,hsz]
  -- a struct's fields
  have fields: ∀(fs:List (TypeId×Nat)) (off:Nat) (u:Ty),fsB E fs off u=true→cs.length=off+u.sz→
    (∀p∈fs,∃y,DataW.trod enc E.P W 0 spare held fuel p.1 ((cs.drop p.2).take (E.P.cellsOf p.1))=some y∧(Q d→Q y.1))→∃x:u.den,RD W (Old W) u x (cs.drop off)∧inR u x∧(Q d→upB B u x):=by
   intro fs
   induction fs with
   |nil=>
    intro off u hf hl hall
    cases u <;>simp [fsB] at hf
    have hl:cs.length=off:=by simpa [Ty.sz] using hl
    rw [List.drop_eq_nil_of_le (by omega)]
    exact⟨(),.unit,trivial,fun _=>trivial⟩
   | cons p r ihf =>
    intro off u hf hl hall
    obtain⟨t,o⟩:=p
    cases r with
    |nil=>
     simp only [fsB,Bool.and_eq_true] at hf
     have ho:o=off:=Nat.eq_of_beq_eq_true hf.1
     subst ho
     have ht:(E.ti t).ty=some u:=ke hf.2
     obtain⟨⟨d',ps'⟩,hy,hyq⟩:=hall (t,o) (by simp)
     rw [cellsT t u ht,List.take_of_length_le (by simp;omega)] at hy
     obtain⟨x,q1,q2,q3⟩:=ih u t _ _ _ ht hy
     exact⟨x,q1,q2,fun q=>q3 (hyq q)⟩
    |cons q r=>
     cases u <;>simp only [fsB] at hf <;>try cases hf
     rename_i a b
     simp only [Bool.and_eq_true] at hf
     obtain⟨⟨ho,ht⟩,hr⟩:=hf
     have ho:o=off:=Nat.eq_of_beq_eq_true ho
     subst ho
     have ht:(E.ti t).ty=some a:=ke ht
     obtain⟨⟨d',ps'⟩,hy,hyq⟩:=hall (t,o) (by simp)
     rw [cellsT t a ht] at hy
     obtain⟨x,hx,hxr,hxb⟩:=ih a t _ _ _ ht hy
     obtain⟨y,hy2,hyr,hyb⟩:=ihf (o+a.sz) b hr (by simp only [Ty.sz] at hl;omega) (fun p hp=>hall p (by simp [List.mem_cons.1 hp]))
     refine⟨(x,y), ?_,⟨hxr,hyr⟩,fun q=>⟨hxb (hyq q),hyb q⟩⟩
     have e:cs.drop o=(cs.drop o).take a.sz++cs.drop (o+a.sz):=by rw [←List.drop_drop,List.take_append_drop]
     rw [e]
     exact .pair a b x y _ _ hx hy2
  -- an array's elements
  have elems: ∀(e:TypeId) (n:Nat) (u a:Ty) (k:Nat),(E.ti e).ty=some a→arB E e n u=true→cs.length=k*a.sz+u.sz→
    (∀i,i<n→∃y,DataW.trod enc E.P W 0 spare held fuel e ((cs.drop ((k+i)*a.sz)).take a.sz)=some y∧(Q d→Q y.1))→∃x:u.den,RD W (Old W) u x (cs.drop (k*a.sz))∧inR u x∧(Q d→upB B u x):=by
   intro e n
   induction n with
   |zero=>intro u a k _ hf;simp [arB] at hf
   | succ n ihn =>
    intro u a k hea hf hl hall
    cases n with
    |zero=>
     have hf:qi5 E e u=true:=by simpa [arB,qi5] using hf
     have e1:=ke hf
     rw [hea] at e1
     cases e1
     obtain⟨⟨d',ps'⟩,hy,hyq⟩:=hall 0 (by omega)
     rw [Nat.add_zero,List.take_of_length_le (by simp;omega)] at hy
     obtain⟨x,q1,q2,q3⟩:=ih u e _ _ _ hea hy
     exact⟨x,q1,q2,fun q=>q3 (hyq q)⟩
    |succ n=>
     cases u <;>simp only [arB] at hf <;>try cases hf
     rename_i a' b
     simp only [Bool.and_eq_true] at hf
     have e1:(E.ti e).ty=some a':=ke hf.1
     rw [hea] at e1
     cases e1
     obtain⟨⟨d',ps'⟩,hy,hyq⟩:=hall 0 (by omega)
     rw [Nat.add_zero] at hy
     obtain⟨x,hx,hxr,hxb⟩:=ih a e _ _ _ hea hy
     obtain⟨y,hy2,hyr,hyb⟩:=ihn b a (k+1) hea hf.2 (by simp only [Ty.sz] at hl;rw [Nat.succ_mul];omega) (fun i hi=>by have:=hall (i+1) (by omega);rwa [show k+(i+1)=k+1+i by omega] at this)
     refine⟨(x,y), ?_,⟨hxr,hyr⟩,fun q=>⟨hxb (hyq q),hyb q⟩⟩
     have e:cs.drop (k*a.sz)=(cs.drop (k*a.sz)).take a.sz++cs.drop ((k+1)*a.sz):=by rw [Nat.succ_mul,←List.drop_drop,List.take_append_drop]
     rw [e]
     exact .pair a b x y _ _ hx hy2
  -- a row
  have row : ∀ (e : TypeId) (u' : Ty), E.P.underlying t = some (.slice e) → (E.ti e).ty = some u' → 1 ≤ u'.sz → ∃ l : List u'.den, RD W (Old W) (.sl u') l cs ∧ (l.length ≤ 9223372036854775807 ∧ ∀ x ∈ l, inR u' x) ∧ (Q d → l.length ≤ B ∧ ∀ x ∈ l, upB B u' x) := by
   intro e u' hund he h1
   unfold DataW.trod at h
   rw [hund] at h
   split at h <;>rename_i hx <;>first|(cases hx;done)|(cases h;done)|skip
   ·exact⟨[],qrz W _ u',⟨by simp,fun x hx=>by simp at hx⟩,fun _=>⟨by simp,fun x hx=>by simp at hx⟩⟩
   ·rename_i e' a len cap
    cases hx
    simp only at h
    split at h
    ·rename_i hc
     obtain⟨_,hcap,hmax⟩:=hc
     rw [cellsT e u' he] at h
     obtain⟨es,hes,h⟩:=Option.bind_eq_some_iff.1 h
     obtain⟨hl,hat⟩:=uj hes
     obtain⟨rest,_,hd⟩:=Option.map_eq_some_iff.1 h
     injection hd with hd _
     have hq2:Q d→es.length≤B∧∀y∈es,Q y.1:=fun q=>by
      rw [←hd] at q
      have:=hQ.sl _ _ q
      exact⟨by simpa using this.1,fun y hy=>this.2 _ (List.mem_map_of_mem hy)⟩
     have el: ∀i,i<len→∃(x:u'.den) (cs:List Value),RD W (Old W) u' x cs∧(inR u' x∧(Q d→upB B u' x))∧cs.length=u'.sz∧∀j,j<u'.sz→∃v,cs[j]? =some v∧W.cell? ((a.add (i*u'.sz)).add j)=some v:=by
      intro i hi
      obtain⟨y,hy,hyi⟩:=hat i i (by simp [hi])
      obtain⟨cs,hcs,hy⟩:=Option.bind_eq_some_iff.1 hy
      obtain⟨x,hx,hxr,hxb⟩:=ih u' e cs _ _ he hy
      obtain⟨e1,e2⟩:=q2h hcs
      exact⟨x,cs,hx,⟨hxr,fun q=>hxb ((hq2 q).2 y (List.mem_of_getElem? hyi))⟩,e1,e2⟩
     have hmax:cap≤9223372036854775807:=hmax
     classical
     let fx:Nat→u'.den:=fun i=>if hi:i<len then(el i hi).choose else u'.zero
     let fc:Nat→List Value:=fun i=>if hi:i<len then(el i hi).choose_spec.choose else []
     have hf: ∀i,i<len→RD W (Old W) u' (fx i) (fc i)∧(inR u' (fx i)∧(Q d→upB B u' (fx i)))∧(fc i).length=u'.sz∧∀j,j<u'.sz→∃v,(fc i)[j]? =some v∧W.cell? ((a.add (i*u'.sz)).add j)=some v:=by
      intro i hi
      simp only [fx,fc,dif_pos hi]
      exact(el i hi).choose_spec.choose_spec
     obtain⟨ab,ao,ax⟩:=a
     have hnone:0<len→ax=none:=by
      intro h0
      obtain⟨_,_,_,h2⟩:=hf 0 h0
      obtain⟨v,_,hv⟩:=h2 0 (by omega)
      have e0:((⟨ab,ao,ax⟩:Addr).add (0*u'.sz)).add 0=⟨ab,ao,ax⟩:=by simp [Addr.add]
      rw [e0] at hv
      exact(qsx hv).1
     have hlen:((List.range len).map fx).length=len:=by simp
     refine⟨(List.range len).map fx, ?_,⟨by rw [hlen];omega,fun x hx=> ?_⟩,fun q=>⟨by rw [hlen];have:=(hq2 q).1;simp at hl;omega,fun x hx=> ?_⟩⟩
     ·have := RD.sl (w := W) (I := Old W) u' ((List.range len).map fx) (some ⟨ab, ao, ax⟩) cap fc (by rw [hlen]; exact hcap) (fun i hi => by
       have hi':i<len:=by rw [hlen] at hi;exact hi
       have:=(hf i hi').1
       simpa using this) (fun h0=>by
       rw [hlen] at h0
       refine⟨ab,ao,by rw [hnone h0],fun i hi j v hv=> ?_⟩
       rw [hlen] at hi
       obtain⟨_,_,h1',h2⟩:=hf i hi
       have hj:j<u'.sz:=by
        have:=(List.getElem?_eq_some_iff.1 hv).1
        omega
       obtain⟨v',hv1,hv2⟩:=h2 j hj
       rw [hv] at hv1
       cases hv1
       rw [hnone h0,Addr.add_lit,Addr.add_lit] at hv2
       have:=qsx hv2
       rw [←Nat.add_assoc]
       exact⟨hv2,this.2⟩)
      rw [hlen] at this
      exact this
     ·obtain ⟨i, hi, rfl⟩ := List.mem_map.1 hx
      exact(hf i (by simpa using hi)).2.1.1
     ·obtain ⟨i, hi, rfl⟩ := List.mem_map.1 hx
      exact(hf i (by simpa using hi)).2.1.2 q
    ·cases h
  -- a struct, its fields read
  have struct: ∀(fs:List (TypeId×Nat)),(E.ti t).ud= .struct fs→cs.length=u.sz∧∀p∈fs,∃y,DataW.trod enc E.P W 0 spare held fuel p.1 ((cs.drop p.2).take (E.P.cellsOf p.1))=some y∧(Q d→Q y.1):=by
   intro fs hfs
   rw [hfs] at hud
   obtain⟨fields,hund,hmap⟩:=hud
   unfold DataW.trod at h
   rw [hund] at h
   simp only at h
   split at h
   ·rename_i hl
    refine⟨hl.trans hcell,fun p hp=> ?_⟩
    rw [←hmap] at hp
    obtain⟨f,hf,rfl⟩:=List.mem_map.1 hp
    obtain⟨xs,hxs,hd⟩:=Option.map_eq_some_iff.1 h
    injection hd with hd _
    obtain⟨i,hi⟩:=List.getElem?_of_mem hf
    obtain⟨y,hy,hyi⟩:=(uj hxs).2 i f hi
    exact⟨y,hy,fun q=>hQ.agg _ (by rw [←hd] at q;exact q) _ (List.mem_map_of_mem (List.mem_of_getElem? hyi))⟩
   ·cases h
  split at hB
  ·rename_i hx;cases hx
  ·rename_i k n s i m hx hfs
   cases hx
   simp only [Bool.and_eq_true] at hB
   obtain⟨⟨⟨⟨b1,b2⟩,b3⟩,b4⟩,b5⟩:=hB
   obtain⟨hl,hall⟩:=struct _ hfs
   have g1:=hall (k,0) (by simp)
   have g2:=hall (n,1) (by simp)
   have g3:=hall (s,2) (by simp)
   have g4:=hall (i,3) (by simp)
   have g5:=hall (m,4) (by simp)
   rw [cellsT _ _ (ke b1)] at g1
   rw [cellsT _ _ (ke b2)] at g2
   rw [cellsT _ _ (ke b3)] at g3
   rw [cellsT _ _ (ke b4)] at g4
   rw [cellsT _ _ (ke b5)] at g5
   obtain⟨⟨d1,p1⟩,g1,_⟩:=g1
   obtain⟨⟨d2,p2⟩,g2,_⟩:=g2
   obtain⟨⟨d3,p3⟩,g3,_⟩:=g3
   obtain⟨⟨d4,p4⟩,g4,_⟩:=g4
   obtain⟨⟨d5,p5⟩,g5,_⟩:=g5
   obtain⟨x1,q1,r1,_⟩:=ih _ _ _ _ _ (ke b1) g1
   obtain⟨x2,q2,r2,_⟩:=ih _ _ _ _ _ (ke b2) g2
   obtain⟨x3,q3,r3,_⟩:=ih _ _ _ _ _ (ke b3) g3
   obtain⟨x4,q4,r4,_⟩:=ih _ _ _ _ _ (ke b4) g4
   obtain⟨x5,q5,r5,_⟩:=ih _ _ _ _ _ (ke b5) g5
   have hl:cs.length=5:=hl
   match cs,hl with
   |[c1,c2,c3,c4,c5],_=>
    simp only [Ty.sz,List.drop,List.take] at q1 q2 q3 q4 q5
    cases q1;cases q2;cases q3
    refine⟨.mk x1 x2 x3 x4 x5,.val x1 x2 x3 x4 x5 [c4] [c5] q4 q5, ?_⟩
    exact⟨⟨r1,r2,r3,r4.1,qx3 r4.2,r5.1,r5.2⟩,fun _=>trivial⟩
  ·rename_i k k' hx hk
   cases hx
   rw [hk] at hud
   have hkk:=of_decide_eq_true hB
   subst hkk
   unfold DataW.trod at h
   rw [(hud:E.P.underlying t=_)] at h
   split at h <;>rename_i hx <;>first|(cases hx;done)|(cases h;done)|skip
   rename_i k2 k3 n
   cases hx
   split at h
   ·rename_i hc
    obtain⟨rfl,hw⟩:=hc
    simp only [Lit.wf,Bool.and_eq_true,decide_eq_true_eq] at hw
    exact⟨n,.int _ n,hw,fun _=>trivial⟩
   ·cases h
  ·rename_i hx hk
   cases hx
   rw [hk] at hud
   unfold DataW.trod at h
   rw [(hud:E.P.underlying t=_)] at h
   split at h <;>rename_i hx <;>first|(cases hx;done)|(cases h;done)|skip
   rename_i b
   exact⟨b,.bool b,trivial,fun _=>trivial⟩
  ·rename_i hx hk
   cases hx
   rw [hk] at hud
   unfold DataW.trod at h
   rw [(hud:E.P.underlying t=_)] at h
   split at h <;>rename_i hx <;>first|(cases hx;done)|(cases h;done)|skip
   rename_i s
   split at h
   ·rename_i hc
    have hd:_=some (d,ps):=h
    injection hd with hd
    injection hd with hd _
    refine⟨s.data.toList, ?_, ?_,fun q=>hQ.str _ (by rw [hd];exact q)⟩
    ·have := RD.str (w := W) (I := Old W) s.data.toList
     rwa [show(⟨s.data.toList.toArray⟩:ByteArray)=s by cases s;simp] at this
    ·have hc : s.size ≤ 9223372036854775807 := hc
     have e:s.data.toList.length=s.size:=by rw [Array.length_toList];rfl
     show s.data.toList.length≤_
     rw [e]
     exact hc
   ·cases h
  ·rename_i u' e hx hk
   cases hx
   rw [hk] at hud
   simp only [Bool.and_eq_true] at hB
   exact row e u' hud (ke hB.1) (Nat.le_of_ble_eq_true hB.2)
  ·rename_i fs _ hx hfs
   cases hx
   simp only [Bool.and_eq_true] at hB
   obtain⟨hl,hall⟩:=struct fs hfs
   have:=fields fs 0 u hB.1 (by omega) hall
   simpa using this
  ·rename_i n e hx hk
   cases hx
   simp only [Bool.and_eq_true] at hB
   rw [hk] at hud
   obtain⟨a,hea⟩: ∃a,(E.ti e).ty=some a:=by
    have hB1:=hB.1
    cases n with
    |zero=>cases u <;>simp [arB] at hB1
    | succ n => cases n with
     |zero=>exact⟨u,ke (by simpa [arB,qi5] using hB1)⟩
     |succ n=>
      cases u <;>simp only [arB] at hB1 <;>try cases hB1
      simp only [Bool.and_eq_true] at hB1
      exact⟨_,ke hB1.1⟩
   unfold DataW.trod at h
   rw [(hud:E.P.underlying t=_)] at h
   simp only at h
   split at h
   ·rename_i hl
    obtain⟨xs,hxs,hd⟩:=Option.map_eq_some_iff.1 h
    injection hd with hd _
    rw [cellsT e a hea] at hxs
    have:=elems e n u a 0 hea hB.1 (by rw [hl,hcell];simp) (fun i hi=>by
     obtain⟨y,hy,hyi⟩:=(uj hxs).2 i i (by simp [hi])
     exact⟨y,by rw [Nat.zero_add];exact hy,fun q=>hQ.agg _ (by rw [←hd] at q;exact q) _ (List.mem_map_of_mem (List.mem_of_getElem? hyi))⟩)
    simpa using this
   ·cases h
  ·cases hB
end
end Go.AM
