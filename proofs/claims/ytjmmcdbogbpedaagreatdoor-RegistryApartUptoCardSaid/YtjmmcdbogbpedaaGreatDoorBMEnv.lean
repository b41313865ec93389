import Derived.ChangeKeysEq
import Derived.Test.YtjmmcdbogbpedaaGreatDoorBc
import Derived.Laws.StructEq
namespace Go.AM
set_option linter.unusedSectionVars false
variable [Lay]
def qo8:List (TypeId×Nat)→List (TypeId×Nat)→Bool
 |[],[]=>true
 |(a,b)::r,(c,d)::r'=>Nat.beq a c&&Nat.beq b d&&qo8 r r'
 |_,_=>false
theorem quj: ∀{a b:List (TypeId×Nat)},qo8 a b=true→a=b
 |[],[],_=>rfl
 |(a,b)::r,(c,d)::r',h=>by
  simp only [qo8,Bool.and_eq_true] at h
  rw [Nat.eq_of_beq_eq_true h.1.1,Nat.eq_of_beq_eq_true h.1.2,quj h.2]
 |[],_::_,h=>by simp [qo8] at h
 |_::_,[],h=>by simp [qo8] at h
def udB(P:Program)(t:TypeId)(ud:UD):Bool:=
 match ud,P.underlying t with
 | .int k,some (.int k')=>decide (k'=k)
 | .bool,some .bool=>true
 | .str,some .string=>true
 | .slice e,some (.slice e')=>Nat.beq e' e
 | .array n e,some (.array n' e')=>Nat.beq n' n&&Nat.beq e' e
 | .ptr e,some (.pointer e')=>Nat.beq e' e
 | .struct fs,some (.struct fields)=>qo8 (fields.toList.map fun f=>(f.type,f.offset)) fs
 | .map k v,some (.map k' v')=>Nat.beq k' k&&Nat.beq v' v
 | .iface,some d=>match d with| .interface _=>true|_=>false
 | .other,some d=>match d with| .struct _=>false| .array _ _=>false|_=>true
 |_,_=>false
theorem ja1{P:Program}{t:TypeId}{ud:UD}(h:udB P t ud=true):qes P t ud:=by
 unfold udB at h
 split at h
 ·rename_i k k' hu;rw [of_decide_eq_true h] at hu;exact hu
 ·assumption
 ·assumption
 ·rename_i e e' hu;rw [Nat.eq_of_beq_eq_true h] at hu;exact hu
 ·rename_i n e n' e' hu
  simp only [Bool.and_eq_true] at h
  rw [Nat.eq_of_beq_eq_true h.1,Nat.eq_of_beq_eq_true h.2] at hu;exact hu
 ·rename_i e e' hu;rw [Nat.eq_of_beq_eq_true h] at hu;exact hu
 ·rename_i fs fields hu;exact⟨fields,hu,quj h⟩
 ·rename_i n e n' e' hu
  simp only [Bool.and_eq_true] at h
  rw [Nat.eq_of_beq_eq_true h.1,Nat.eq_of_beq_eq_true h.2] at hu;exact hu
 ·rename_i d hu
  split at h
  ·exact⟨_,hu⟩
  ·cases h
 ·rename_i d hu
  refine⟨d,hu, ?_⟩
  cases d <;>first|trivial|cases h
 ·cases h
def qha(s:ByteArray):Bool:=match s.data.toList with|[]=>true|_=>false
theorem qcz{s:ByteArray}(h:qha s=true):s=⟨([]:List UInt8).toArray⟩:=by
 unfold qha at h
 split at h
 ·rename_i e
  obtain⟨d⟩:=s
  have e:d.toList=[]:=e
  have:d= #[]:=by simpa using e
  rw [this]
 ·cases h
def z1B:Value→AV→Bool
 |_,.junk=>true
 | .bool b,.f=> !b
 | .int k n,.int k' n'=>decide (k=k')&&decide (n=n')
 | .string s,.str l=>qha s&&l.isEmpty
 | .slice none n c,.nilsl=>Nat.beq n 0&&Nat.beq c 0
 | .slice none n c,.sl _ l f=>Nat.beq n 0&&Nat.beq c 0&&l.isEmpty&&f
 | .pointer none,.nilptr=>true
 | .nilFunc,.nilfn=>true
 | .nilIface,.niliface=>true
 |_,_=>false
theorem jbh{v:Value}{c:AV}(h:z1B v c=true): ∀w I hp μ,Rep w I hp μ v c:=by
 intro w I hp μ
 unfold z1B at h
 split at h
 ·exact .junk _
 ·rename_i b;cases b <;>first|exact .f|cases h
 ·simp only [Bool.and_eq_true,decide_eq_true_eq] at h;obtain⟨rfl,rfl⟩:=h;exact .int _ _
 ·rename_i s l
  simp only [Bool.and_eq_true,List.isEmpty_iff] at h
  obtain⟨h1,rfl⟩:=h
  rw [qcz h1];exact .str _
 ·simp only [Bool.and_eq_true] at h
  rw [Nat.eq_of_beq_eq_true h.1,Nat.eq_of_beq_eq_true h.2];exact .nilsl
 ·simp only [Bool.and_eq_true, List.isEmpty_iff] at h
  obtain⟨⟨⟨h1,h2⟩,rfl⟩,rfl⟩:=h
  rw [Nat.eq_of_beq_eq_true h1,Nat.eq_of_beq_eq_true h2]
  exact .sl _ [] true none 0 0 (.sl _ [] none 0 (fun _=>[]) (Nat.zero_le _) (fun i hi=>by simp at hi) (fun h0=>by simp at h0)) (fun _=>rfl)
 ·exact .nilptr
 ·exact .nilfn
 ·exact .niliface
 ·cases h
def zB:List Value→List AV→Bool
 |[],[]=>true
 |v::r,c::r'=>z1B v c&&zB r r'
 |_,_=>false
theorem q9g: ∀{vs:List Value} {cs:List AV},zB vs cs=true→vs.length=cs.length∧∀(k:Nat) (v:Value) (c:AV),vs[k]? =some v→cs[k]? =some c→z1B v c=true
 |[],[],_=>⟨rfl,fun k v c h _=>by simp at h⟩
 |v::r,c::r',h=>by
  simp only [zB,Bool.and_eq_true] at h
  obtain⟨e1,e2⟩:=q9g h.2
  refine⟨by simp [e1],fun k u d hu hd=> ?_⟩
  cases k with
  |zero=>simp at hu hd;subst hu;subst hd;exact h.1
  |succ k=>exact e2 k u d (by simpa using hu) (by simpa using hd)
 |[],_::_,h=>by simp [zB] at h
 |_::_,[],h=>by simp [zB] at h
def rdB:Ty→List Value→Option (List Value)
 | .unit,cs=>some cs
 | .int k,.int k' n::r=>match decide (k'=k)&&decide (n=0) with|true=>some r|false=>none
 | .bool,.bool b::r=>match b with|false=>some r|true=>none
 | .str,.string s::r=>match qha s with|true=>some r|false=>none
 | .pair a b,cs=>match rdB a cs with|some r=>rdB b r|none=>none
 | .sl _,.slice none n c::r=>match Nat.beq n 0&&Nat.beq c 0 with|true=>some r|false=>none
 | .val,.int k1 n1:: .int k2 n2:: .string s:: .slice none n3 c3:: .slice none n4 c4::r=>
  match decide (k1= .i64)&&decide (n1=0)&&decide (k2= .i64)&&decide (n2=0)&&qha s&&Nat.beq n3 0&&Nat.beq c3 0&&Nat.beq n4 0&&Nat.beq c4 0 with|true=>some r|false=>none
 |_,_=>none
theorem qrz(w:World)(I:Nat→Nat→Prop)(t:Ty):RD w I (.sl t) [] [.slice none 0 0]:=
 .sl _ [] none 0 (fun _=>[]) (Nat.zero_le _) (fun i hi=>by simp at hi) (fun h0=>by simp at h0)
theorem jaw: ∀(u:Ty) {cs r:List Value},rdB u cs=some r→∃pre,cs=pre++r∧∀w I,RD w I u u.zero pre:=by
 intro u
 induction u with
 |unit=>intro cs r h;simp only [rdB] at h;cases h;exact⟨[],rfl,fun w I=> .unit⟩
 | int k =>
  intro cs r h
  unfold rdB at h
  split at h <;>try (rename_i hu;cases hu)
  all_goals first|cases h|skip
  ·split at h
   ·rename_i hd
    cases h
    simp only [Bool.and_eq_true,decide_eq_true_eq] at hd
    obtain⟨rfl,rfl⟩:=hd
    exact⟨[_],rfl,fun w I=> .int _ _⟩
   ·cases h
 | bool =>
  intro cs r h
  unfold rdB at h
  split at h <;>try (rename_i hu;cases hu)
  all_goals first|cases h|skip
  ·split at h
   ·cases h;exact⟨[_],rfl,fun w I=> .bool _⟩
   ·cases h
 | str =>
  intro cs r h
  unfold rdB at h
  split at h <;>try (rename_i hu;cases hu)
  all_goals first|cases h|skip
  ·split at h
   ·rename_i s _ he
    cases h
    rw [qcz he]
    exact⟨[_],rfl,fun w I=> .str _⟩
   ·cases h
 | pair a b iha ihb =>
  intro cs r h
  simp only [rdB] at h
  split at h
  ·rename_i r1 h1
   obtain⟨p1,e1,q1⟩:=iha h1
   obtain⟨p2,e2,q2⟩:=ihb h
   exact⟨p1++p2,by rw [e1,e2,List.append_assoc],fun w I=> .pair _ _ _ _ _ _ (q1 w I) (q2 w I)⟩
  ·cases h
 | sl t _ =>
  intro cs r h
  unfold rdB at h
  split at h <;>try (rename_i hu;cases hu)
  all_goals first|cases h|skip
  ·split at h
   ·rename_i hd
    cases h
    simp only [Bool.and_eq_true] at hd
    rw [Nat.eq_of_beq_eq_true hd.1,Nat.eq_of_beq_eq_true hd.2]
    exact⟨[_],rfl,fun w I=>qrz w I t⟩
   ·cases h
 | val =>
  intro cs r h
  unfold rdB at h
  split at h <;>try (rename_i hu;cases hu)
  all_goals first|cases h|skip
  ·split at h
   ·rename_i hd
    cases h
    simp only [Bool.and_eq_true,decide_eq_true_eq] at hd
    obtain⟨⟨⟨⟨⟨⟨⟨⟨rfl,rfl⟩,rfl⟩,rfl⟩,hs⟩,h1⟩,h2⟩,h3⟩,h4⟩:=hd
    rw [qcz hs,Nat.eq_of_beq_eq_true h1,Nat.eq_of_beq_eq_true h2,Nat.eq_of_beq_eq_true h3,Nat.eq_of_beq_eq_true h4]
    exact⟨_,rfl,fun w I=> .val 0 0 [] [] [] _ _ (qrz w I .val) (qrz w I .str)⟩
   ·cases h
def slB(tab:List TI)(ti:TI):Bool:=
 match ti.ty with
 |some (.sl u)=>match ti.ud with
  | .slice e=>match(tab.getD e default).ty with|some u'=>decide (u'=u)|none=>false
  |_=>false
 |_=>true
def qo9:Ty→Value→Bool
 | .int k,.int k' n=>decide (k'=k)&&decide (n=0)
 | .int _,_=>false
 | .str,.string s=>qha s
 | .str,_=>false
 | .bool,.bool b=> !b
 | .bool,_=>false
 |_,_=>true
theorem q5c{u:Ty}{z:Value}(h:qo9 u z=true)(hs:qeb u=true):yt u u.zero z:=by
 cases u <;>simp [qeb] at hs
 ·cases z <;> simp [qo9] at h
  obtain⟨rfl,rfl⟩:=h
  rfl
 ·cases z <;> simp [qo9] at h
  subst h;rfl
 ·cases z <;> simp [qo9] at h
  rw [qcz h];rfl
def qfl(P:Program)(tab:List TI)(t:TypeId):Bool:=
 match tab.getD t default,P.info? t with
 | ti, some i =>
  ti.kn&&Nat.beq i.size ti.size&&Nat.beq i.bytes ti.bytes&&udB P t ti.ud&&(match ti.ud with| .struct fs=>fs.all fun p=>(tab.getD p.1 default).kn|_=>true)&&slB tab ti&&
  (!(Nat.beq ti.zero.length ti.size)||(match i.zero with|some z=>zB z.cells.toList ti.zero|none=>false))&&
  (match ti.ty with
   |none=>true
   |some u=>Nat.beq ti.size u.sz&&(match i.zero with|some z=>(match rdB u z.cells.toList with|some []=>true|_=>false)&&qo9 u z|none=>false))
 |_,none=>false
def qr3(P:Program)(tab:List TI):Nat→Bool
 |0=>true
 |n+1=>qfl P tab n&&qr3 P tab n
theorem qlq{P:Program}{tab:List TI}: ∀{n:Nat},qr3 P tab n=true→∀t,t<n→qfl P tab t=true
 |0,_,t,ht=>by omega
 |n+1,h,t,ht=>by
  simp only [qr3,Bool.and_eq_true] at h
  by_cases e:t=n
  ·subst e;exact h.1
  ·exact qlq h.2 t (by omega)
def q1l(E:Env):Prop:= ∀t,t∈E.eqs→∀w I h μ xs ys as bs b,Rep w I h μ (.agg xs) (.agg as)→Rep w I h μ (.agg ys) (.agg bs)→eqT E (E.ti t).ud as bs=some b→
  ∀op:BinOp,(op= .eql∨op= .neq)→∀x y,(eqGuard op t x y (.agg xs) (.agg ys)).run E.P w= .ok () w∧(Op.equal t (.agg xs) (.agg ys)).run E.P w= .ok b w
theorem qs5{E:Env}(hm:E.P.follows .mixedOrders=true)(h:qr3 E.P E.tab E.tab.length=true)(he:q1l E)(ht: ∀p∈E.tabs,(p.1,p.2.2.map (Value.int p.2.1))∈Lay.cells):EnvOK E:=by
 have row: ∀t,(E.ti t=default)∨qfl E.P E.tab t=true:=by
  intro t
  rcases Nat.lt_or_ge t E.tab.length with h1|h1
  ·exact .inr (qlq h t h1)
  ·exact .inl (by simp [Env.ti,List.getD_eq_getElem?_getD,List.getElem?_eq_none_iff.2 h1])
 have dkn:(default:TI).kn=false:=by decide
 have all: ∀t,qfl E.P E.tab t=true→∃i,E.P.info? t=some i∧(E.ti t).kn=true∧i.size=(E.ti t).size∧i.bytes=(E.ti t).bytes∧udB E.P t (E.ti t).ud=true∧
   (∀fs,(E.ti t).ud= .struct fs→∀p∈fs,(E.ti p.1).kn=true)∧slB E.tab (E.ti t)=true∧((E.ti t).zero.length=(E.ti t).size→∃z,i.zero=some z∧zB z.cells.toList (E.ti t).zero=true)∧
   (∀u,(E.ti t).ty=some u→(E.ti t).size=u.sz∧∃z,i.zero=some z∧rdB u z.cells.toList=some []∧qo9 u z=true):=by
  intro t hr
  unfold qfl at hr
  change (match E.ti t,E.P.info? t with|ti,some i=>_|_,none=>_)=true at hr
  cases hi:E.P.info? t with
  |none=>rw [hi] at hr;cases hr
  | some i =>
   rw [hi] at hr
   simp only [Bool.and_eq_true] at hr
   obtain⟨⟨⟨⟨⟨⟨⟨h1,h2⟩,h3⟩,h4⟩,h5⟩,h6⟩,h7⟩,h8⟩:=hr
   refine⟨i,rfl,h1,Nat.eq_of_beq_eq_true h2,Nat.eq_of_beq_eq_true h3,h4,fun fs e p hp=> ?_,h6,fun hz=> ?_,fun u e=> ?_⟩
   ·rw [e] at h5
    exact List.all_eq_true.1 h5 p hp
   ·rw [hz] at h7
    simp only [Nat.beq_refl,Bool.not_true,Bool.false_or] at h7
    cases hq:i.zero with
    |none=>rw [hq] at h7;cases h7
    |some z=>rw [hq] at h7;exact⟨z,rfl,h7⟩
   ·rw [e] at h8
    simp only [Bool.and_eq_true] at h8
    refine⟨Nat.eq_of_beq_eq_true h8.1, ?_⟩
    cases hq:i.zero with
    |none=>rw [hq] at h8;cases h8.2
    |some z=>
     rw [hq] at h8
     refine⟨z,rfl, ?_⟩
     have h9:=h8.2
     simp only [Bool.and_eq_true] at h9
     obtain⟨h9,h10⟩:=h9
     split at h9
     ·exact⟨by assumption,h10⟩
     ·cases h9
 have known: ∀t,(E.ti t).kn=true→qfl E.P E.tab t=true:=by
  intro t hk
  rcases row t with e|e
  ·rw [e,dkn] at hk;cases hk
  ·exact e
 refine⟨hm,fun t=> ?_,fun t hk=> ?_,fun t hk=> ?_,fun t fs hud p hp=> ?_,fun t hk hz=> ?_,fun t u hty=> ?_,fun t u hty=> ?_,fun t u hty hsc=> ?_,he,ht⟩
 ·rcases row t with e | e
  ·exact .inr e
  ·obtain⟨i,_,h2,_⟩:=all t e;exact .inl h2
 ·obtain⟨i,h1,_,h3,h4,_⟩:=all t (known t hk);exact⟨i,h1,h3,h4⟩
 ·obtain⟨i,_,_,_,_,h5,_⟩:=all t (known t hk);exact ja1 h5
 ·have hk : (E.ti t).kn = true := by simp [TI.kn, hud, UD.isOther]
  obtain⟨i,_,_,_,_,_,h6,_⟩:=all t (known t hk);exact h6 fs hud p hp
 ·obtain ⟨i, h1, _, _, _, _, _, _, h8, _⟩ := all t (known t hk)
  obtain⟨z,hz1,hz2⟩:=h8 hz
  obtain⟨e1,e2⟩:=q9g hz2
  exact⟨i,z,h1,hz1,by simpa using e1,fun k v c hv hc=>jbh (e2 k v c (by simpa using hv) hc)⟩
 ·have hr : qfl E.P E.tab t = true := by
   rcases row t with e|e
   ·rw [e] at hty;cases hty
   ·exact e
  obtain⟨i,_,_,_,_,_,_,h7,_⟩:=all t hr
  unfold slB at h7
  rw [hty] at h7
  simp only at h7
  split at h7
  ·rename_i e hud
   split at h7
   ·rename_i u' hu'
    rw [of_decide_eq_true h7] at hu'
    exact⟨e,hud,hu'⟩
   ·cases h7
  ·cases h7
 ·have hr : qfl E.P E.tab t = true := by
   rcases row t with e|e
   ·rw [e] at hty;cases hty
   ·exact e
  obtain⟨i,h1,hk,_,_,_,_,_,_,h9⟩:=all t hr
  obtain⟨hs,z,hz,hrd,_⟩:=h9 u hty
  obtain⟨pre,e1,e2⟩:=jaw u hrd
  refine⟨hs,hk,i,z,h1,hz,fun w I=> ?_⟩
  rw [e1,List.append_nil]
  exact e2 w I
 ·have hr : qfl E.P E.tab t = true := by
   rcases row t with e|e
   ·rw [e] at hty;cases hty
   ·exact e
  obtain⟨i,h1,_,_,_,_,_,_,_,h9⟩:=all t hr
  obtain⟨_,z,hz,_,h10⟩:=h9 u hty
  exact⟨i,z,h1,hz,q5c h10 hsc⟩
theorem qz4{E:Env}(h:E.eqs=[]):q1l E:=by
 intro t ht
 rw [h] at ht
 cases ht
def eqB(P:Program)(t:TypeId):Bool:=
 match P.underlying t with
 |some (.struct fs)=>fs.toList.all (fun f=> !(f.name== "_"))&& !(P.stoodInHeld t)&& !(P.eqGuardType P.depth t)
 |some (.array _ _)=> !(P.eqGuardType P.depth t)
 |_=>false
def qym:TypeDesc→Prop
 | .struct _=>False
 | .array _ _=>False
 |_=>True
theorem qo7{P:Program}{t:TypeId}{cs:Array Value}{off:Nat}{v:Value}{d:TypeDesc}(hu:P.underlying t=some d)(hd:qym d)(hv:cs[off]? =some v)(w:World):
  (part t cs off).run P w= .ok v w:=by
 have hag:(isAgg t).run P w= .ok false w:=by
  unfold isAgg
  simp only [Sem.run_bind,run_underlying hu,Result.andThen_ok]
  cases d <;>first|rfl|exact hd.elim
 unfold part
 rw [Sem.run_bind,hag]
 simp only [Result.andThen_ok,Bool.false_eq_true,if_false,hv,Sem.run_pure]
theorem qkp{E:Env}(hE:EnvOK E){xs ys:Array Value}{w:World}{I:Nat→Nat→Prop}{hp:qa}{μ:Nat→Option Nat}{as bs:List AV}(hx:xs.size=as.length)(hy:ys.size=bs.length)
  (rx: ∀(i:Nat) (v:Value) (c:AV),xs[i]? =some v→as[i]? =some c→Rep w I hp μ v c) (ry: ∀(i:Nat) (v:Value) (c:AV),ys[i]? =some v→bs[i]? =some c→Rep w I hp μ v c) (d:Nat):
  ∀(fields:List Field) (k:Nat) (b:Bool),(∀f∈fields,(f.name== "_")=false)→eqF E (fields.map fun f=>(f.type,f.offset)) k (as.drop k) (bs.drop k)=some b→(Op.eqFields (d+1) xs ys fields).run E.P w= .ok b w
 |[],k,b,_,h=>by
  simp only [List.map_nil] at h
  cases hA:as.drop k <;>cases hB:bs.drop k <;>rw [hA,hB] at h <;>simp only [eqF] at h
  ·cases h;rfl
  all_goals cases h
 | f :: fields, k, b, hn, h => by
  have hn':f.name≠ "_" :=by have:=hn f (by simp);simpa using this
  have cell: ∀{x:AV} {r:List AV},as.drop k=x::r→∃v,xs[k]? =some v∧Rep w I hp μ v x∧as.drop (k+1)=r:=by
   intro x r e
   have hk:k<as.length:=by
    rcases Nat.lt_or_ge k as.length with h1|h1
    ·exact h1
    ·rw [List.drop_eq_nil_of_le h1] at e;cases e
   have e1:as[k]? =some x:=by
    have:=congrArg (fun l=>l[0]?) e
    simpa using this
   have e2:xs[k]? =some xs[k]:=Array.getElem?_eq_getElem (by omega)
   exact⟨xs[k],e2,rx k _ x e2 e1,by have:=congrArg List.tail e;simpa using this⟩
  have cell2: ∀{x:AV} {r:List AV},bs.drop k=x::r→∃v,ys[k]? =some v∧Rep w I hp μ v x∧bs.drop (k+1)=r:=by
   intro x r e
   have hk:k<bs.length:=by
    rcases Nat.lt_or_ge k bs.length with h1|h1
    ·exact h1
    ·rw [List.drop_eq_nil_of_le h1] at e;cases e
   have e1:bs[k]? =some x:=by
    have:=congrArg (fun l=>l[0]?) e
    simpa using this
   have e2:ys[k]? =some ys[k]:=Array.getElem?_eq_getElem (by omega)
   exact⟨ys[k],e2,ry k _ x e2 e1,by have:=congrArg List.tail e;simpa using this⟩
  have step: ∀{v u:Value} {r s:Bool} {dd:TypeDesc},E.P.underlying f.type=some dd→qym dd→f.offset=k→xs[k]? =some v→ys[k]? =some u→
    (Op.equalIn (d+1) f.type v u).run E.P w= .ok r w→(Op.eqFields (d+1) xs ys fields).run E.P w= .ok s w→(Op.eqFields (d+1) xs ys (f::fields)).run E.P w= .ok (r&&s) w:=by
   intro v u r s dd hu hdd ho hv hu2 he hr
   rw [Op.eqFields]
   have p1:=qo7 (P:=E.P) (cs:=xs) (off:=f.offset) hu hdd (by rw [ho];exact hv) w
   have p2:=qo7 (P:=E.P) (cs:=ys) (off:=f.offset) hu hdd (by rw [ho];exact hu2) w
   simp only [if_pos hn',Sem.run_bind,p1,p2,he,Result.andThen_ok]
   cases r
   ·simp
   ·simpa using hr
  simp only [List.map_cons] at h
  cases e1:as.drop k <;>cases e2:bs.drop k <;>rw [e1,e2] at h <;>simp only [eqF] at h
  ·cases h
  ·cases h
  ·cases h
  ·rename_i x r y r'
   obtain⟨v,v1,v2,v3⟩:=cell e1
   obtain⟨u,u1,u2,u3⟩:=cell2 e2
   split at h
   ·rename_i k0 k1 a1 k2 b1 hb hud
    simp only [Bool.and_eq_true] at hb
    have ho:f.offset=k:=Nat.eq_of_beq_eq_true hb.1
    have hund:=hE.und f.type (j0 (by rw [Nat.eq_of_beq_eq_true hb.2];decide))
    rw [hud] at hund
    split at h
    ·rename_i ek _
     subst ek
     split at h
     ·rename_i t hr
      cases h
      cases v2;cases u2
      have ih:=qkp hE hx hy rx ry d fields (k+1) t (fun f hf=>hn f (by simp [hf])) (by rw [v3,u3];exact hr)
      exact step hund trivial ho v1 u1 (run_equalIn_int w d f.type _ _ _ _ hund) ih
     ·cases h
    ·cases h
   ·rename_i a1 b1 hb hud
    simp only [Bool.and_eq_true] at hb
    have ho:f.offset=k:=Nat.eq_of_beq_eq_true hb.1
    have hund:=hE.und f.type (j0 (by rw [Nat.eq_of_beq_eq_true hb.2];decide))
    rw [hud] at hund
    split at h
    ·rename_i t hr
     cases h
     cases v2;cases u2
     have ih:=qkp hE hx hy rx ry d fields (k+1) t (fun f hf=>hn f (by simp [hf])) (by rw [v3,u3];exact hr)
     refine step hund trivial ho v1 u1 ?_ ih
     have:=run_equalIn_string (P:=E.P) w d f.type ⟨a1.toArray⟩ ⟨b1.toArray⟩ hund
     rw [this,ByteArray.toList_eq,ByteArray.toList_eq]
    ·cases h
   ·rename_i x y hb hud
    simp only [Bool.and_eq_true] at hb
    have ho:f.offset=k:=Nat.eq_of_beq_eq_true hb.1
    have hund:=hE.und f.type (j0 (by rw [Nat.eq_of_beq_eq_true hb.2];decide))
    rw [hud] at hund
    split at h
    ·rename_i a1 b1 t ha hbb hr
     cases h
     have q1:=qu v2 ha
     have q2:=qu u2 hbb
     subst q1;subst q2
     have ih:=qkp hE hx hy rx ry d fields (k+1) t (fun f hf=>hn f (by simp [hf])) (by rw [v3,u3];exact hr)
     exact step hund trivial ho v1 u1 (run_equalIn_bool w d f.type _ _ hund) ih
    ·cases h
   ·cases h
theorem qe8{P:Program}(d:Nat)(e:TypeId)(xs ys:Array Value): ∀(is:List Nat) (w:World),
  (Op.eqItems d e 1 xs ys is).run P w=(Op.eqFields d xs ys (is.map fun i=>{ name:= "a",type:=e,offset:=i,embedded:=false,tag:= "",pkgPath:= "",byteOffset:=0 })).run P w
 |[],_=>rfl
 | i :: is, w => by
  have hn:("a" :String)≠ "_" :=by decide
  simp only [Op.eqItems,List.map_cons,Op.eqFields,ne_eq,hn,not_false_eq_true,if_true,Sem.run_bind,Nat.mul_one]
  generalize (part e xs i).run P w=r1
  cases r1 with
  |halt x w1=>simp [Result.andThen]
  | ok a w1 =>
   simp only [Result.andThen_ok]
   generalize (part e ys i).run P w1=r2
   cases r2 with
   |halt x w2=>simp [Result.andThen]
   | ok b w2 =>
    simp only [Result.andThen_ok]
    generalize (Op.equalIn d e a b).run P w2=r3
    cases r3 with
    |halt x w3=>simp [Result.andThen]
    |ok r w3=>
     cases r
     ·simp
     ·simpa using qe8 d e xs ys is w3
theorem qxw(E:Env): ∀(fs:List (TypeId×Nat)) (k:Nat) (as bs:List AV),eqF { E with eqs:=[] } fs k as bs=eqF E fs k as bs:=by
 intro fs
 induction fs with
 |nil=>intro k as bs;cases as <;>cases bs <;>rfl
 |cons p fs ih=>
  intro k as bs
  cases as <;>cases bs <;>try rfl
  simp only [eqF,ih]
  rfl
theorem q3r {E : Env} (hE : EnvOK { E with eqs := [] }) (h : (E.eqs.all (eqB E.P)) = true) : q1l E := by
 intro t ht w I hp μ xs ys as bs b rx ry hb op hop x y
 have hB:=List.all_eq_true.1 h t ht
 unfold eqB at hB
 split at hB
 ·rename_i fs hund
  simp only [Bool.and_eq_true,Bool.not_eq_true'] at hB
  obtain⟨⟨h1,h2⟩,h3⟩:=hB
  have hkn:(E.ti t).kn=true:=by
   cases hud:(E.ti t).ud <;>simp [eqT,hud] at hb
   all_goals simp [TI.kn,hud,UD.isOther]
  constructor
  ·rcases hop with rfl|rfl <;>simp [eqGuard,run_program,h3]
  ·have hu := hE.und t hkn
   cases hud:(E.ti t).ud with
   | struct l =>
    have hu':qes E.P t (.struct l):=by
     have:({ E with eqs:=[] }:Env).ti t=E.ti t:=rfl
     rw [this,hud] at hu
     exact hu
    obtain⟨fields,hf,hmap⟩:=hu'
    rw [hund] at hf
    cases hf
    have hfo:E.P.fieldsOf t=fs:=by simp [Program.fieldsOf,hund]
    show(Op.equalIn (9998+1+1) t (.agg xs) (.agg ys)).run E.P w= .ok b w
    rw [run_equalIn_struct w _ t xs ys (by rw [hfo];exact hund) h2,hfo]
    cases rx with
    | agg _ _ hx rx =>
     cases ry with
     | agg _ _ hy ry =>
      have hb':eqF { E with eqs:=[] } (fs.toList.map fun f=>(f.type,f.offset)) 0 as bs=some b:=by
       rw [hmap]
       simp only [eqT,hud] at hb
       rw [←hb]
       exact qxw _ _ _ _ _
      exact qkp hE hx hy rx ry 9998 fs.toList 0 b (fun f hf=>by have:=List.all_eq_true.1 h1 f hf;simpa using this) (by simpa using hb')
   | array n' e' =>
    have hf:E.P.underlying t=some (.array n' e'):=by
     have:({ E with eqs:=[] }:Env).ti t=E.ti t:=rfl
     rw [this,hud] at hu
     exact hu
    rw [hund] at hf
    cases hf
   |_=>simp [eqT,hud] at hb
 ·rename_i n e hund
  simp only [Bool.not_eq_true'] at hB
  have hkn:(E.ti t).kn=true:=by
   cases hud:(E.ti t).ud <;>simp [eqT,hud] at hb
   all_goals simp [TI.kn,hud,UD.isOther]
  constructor
  ·rcases hop with rfl|rfl <;>simp [eqGuard,run_program,hB]
  ·have hu := hE.und t hkn
   cases hud:(E.ti t).ud with
   | array n' e' =>
    have hu':qes E.P t (.array n' e'):=by
     have:({ E with eqs:=[] }:Env).ti t=E.ti t:=rfl
     rw [this,hud] at hu
     exact hu
    have hf:E.P.underlying t=some (.array n' e'):=hu'
    rw [hund] at hf
    cases hf
    simp only [eqT,hud] at hb
    split at hb
    ·rename_i h1
     have h1:(E.ti e).size=1:=Nat.eq_of_beq_eq_true h1
     have hke:({ E with eqs:=[] }:Env).ti e=E.ti e:=rfl
     obtain⟨i,hi,hs,_⟩:=hE.info e (by rw [hke];simp [TI.kn,h1])
     rw [hke,h1] at hs
     have hc:E.P.cellsOf e=1:=by simp [Program.cellsOf,hi,hs]
     show(Op.equalIn (9999+1) t (.agg xs) (.agg ys)).run E.P w= .ok b w
     rw [run_equalIn_array w 9999 xs ys hund hi,hc,qe8]
     cases rx with
     | agg _ _ hx rx =>
      cases ry with
      | agg _ _ hy ry =>
       refine qkp hE hx hy rx ry 9998 _ 0 b (fun f hf=> ?_) ?_
       ·simp only [List.mem_map] at hf
        obtain⟨j,_,rfl⟩:=hf
        exact(by decide:(("a" :String)== "_")=false)
       ·rw [List.map_map]
        rw [qxw]
        exact hb
    ·cases hb
   | struct l =>
    have hf:qes E.P t (.struct l):=by
     have:({ E with eqs:=[] }:Env).ti t=E.ti t:=rfl
     rw [this,hud] at hu
     exact hu
    obtain⟨_,hf,_⟩:=hf
    rw [hund] at hf
    cases hf
   |_=>simp [eqT,hud] at hb
 ·cases hB
end Go.AM
