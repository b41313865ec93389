import Derived.Test.YtjmmcdbogbpedaaGreatDoorPrn
import Derived.IntWalk
import Derived.Test.YtjmmcdbogbpedaaGreatDoorBMTrod
import Derived.Lib.ItoaLen
namespace Go.Plain
open Go.AM
theorem qx{n:Int}(h: -9223372036854775808≤n∧n≤9223372036854775807):w64 n=n:=Go.IntWalk.i64_in n h
theorem qkb{s:Str}{i:Nat}(h:i<s.length):bt s (i:Int)=((s[i]).toNat:Int):=by
  unfold bt
  simp [List.getD_eq_getElem?_getD,List.getElem?_eq_getElem h]
theorem xg{α:Type}{s:List α}{i:Nat}(h:i<s.length):s.drop i=s[i]::s.drop (i+1):=(List.drop_eq_getElem_cons h)
def okC(b:UInt8):Bool:= !(decide (b.toNat<32)||decide (b.toNat>126)||decide (b.toNat=34)||decide (b.toNat=92))
def okW(s:Str):Bool:=s.all okC&&decide (s.length≤200)
theorem jbl (b : UInt8) : z2d (b.toNat : Int) = some (!okC b) := by
  unfold z2d
  by_cases q1:b.toNat<32
  · have : ((b.toNat : Int) < 32) := by omega
    simp [okC,q1,this]
  · have k1 : ¬ ((b.toNat : Int) < 32) := by omega
    by_cases q2:b.toNat>126
    · have : ((b.toNat : Int) > 126) := by omega
      simp [okC,q2,k1,this]
    · have k2 : ¬ ((b.toNat : Int) > 126) := by omega
      by_cases q3:b.toNat=34
      · simp [okC,q3]
      · have k3 : ¬ ((b.toNat : Int) = 34) := by omega
        by_cases q4:b.toNat=92
        · simp [okC,q4]
        · have k4 : ¬ ((b.toNat : Int) = 92) := by omega
          simp [okC,q1,q2,q3,q4,k1,k2,k3,k4]
theorem qfo(s:Str):(qp s).length=s.length:=by simp [qp]
theorem qun{s:Str}{i:Nat}(h:i<s.length):elt (.int .u8) (qp s) i=((s[i]).toNat:Int):=by
  unfold elt qp
  simp [List.getD_eq_getElem?_getD,h]
theorem q3y{s:Str}(hs:s.length≤9223372036854775807): ∀(n i:Nat),i+n=s.length→
    if(s.drop i).all okC then qnb ((i:Int),(qp s,(s.length:Int)))=some (.inr ()) else∃k:Nat,qnb ((i:Int),(qp s,(s.length:Int)))=some (.inl (k:Int)):=by
  intro n
  induction n with
  | zero =>
    intro i hi
    rw [List.drop_of_length_le (by omega)]
    rw [qqb]
    unfold qgy
    have: ¬((i:Int)<(s.length:Int)):=by omega
    simp [this]
  | succ n ih =>
    intro i hi
    have hlt:i<s.length:=by omega
    have h1:(i:Int)<(s.length:Int):=by omega
    have h0:(0:Int)≤(i:Int):=by omega
    have ih:=ih (i+1) (by omega)
    rw [qqb]
    unfold qgy
    simp only [h1,h0,decide_true,if_true,qfo,Int.toNat_natCast,qun hlt,jbl]
    rw [xg hlt,List.all_cons]
    have hw:w64 ((i:Int)+1)=((i+1:Nat):Int):=by rw [qx (by omega)];omega
    rw [hw]
    cases hb:okC s[i] with
    |true=>simpa [hb] using ih
    |false=>exact⟨i,rfl⟩
theorem q53{s:Str}(hs:s.length≤9223372036854775807):z1a s=some (okW s):=by
  unfold z1a okW
  by_cases hl:s.length≤200
  · have h1 : ((s.length : Int) ≤ 200) := by omega
    simp only [h1,decide_true,if_true,hl,Bool.and_true]
    unfold z2q z18
    have:=q3y hs s.length 0 (by omega)
    rw [List.drop_zero] at this
    rw [qfo]
    by_cases h:s.all okC=true
    · rw [if_pos h] at this
      rw [show((0:Int),(qp s,(s.length:Int)))=(((0:Nat):Int),(qp s,(s.length:Int))) from rfl,this,h]
      rfl
    · rw [if_neg h] at this
      obtain⟨k,hk⟩:=this
      rw [show((0:Int),(qp s,(s.length:Int)))=(((0:Nat):Int),(qp s,(s.length:Int))) from rfl,hk]
      have h':s.all okC=false:=by simpa using h
      rw [h']
      show some (!(decide ((k:Int)≥0)))=some false
      have:((k:Int)≥0):=by omega
      simp [this]
  · have h1 : ¬ ((s.length : Int) ≤ 200) := by omega
    simp [h1,hl]
end Go.Plain
namespace Go.Plain
open Go.AM
def qhi(p:Option Str):List Str→Bool
  |[]=>true
  |x::r=>okW x&&(match p with|some q=>Op.bytesLess q x|none=>true)&&qhi (some x) r
def okN(l:List Str):Bool:=qhi none l
def qua(l:List Str)(i:Nat):Option Str:=match i with|0=>none|j+1=>l[j]?
theorem qg8{l:List Str}{i:Nat}(h:i<l.length):elt .str l i=l[i]:=by
  unfold elt
  simp [List.getD_eq_getElem?_getD,h]
theorem sb{α β:Type}(a:α)(f:α→Option β):(some a>>=f)=f a:=rfl
theorem q1j {l : List Str} (many : Int) (hl : l.length ≤ 9223372036854775807) (hs : ∀ x ∈ l, x.length ≤ 9223372036854775807) : ∀ (n i : Nat), i + n = l.length →
    qmw ((i:Int),(l,(l,(many,(l.length:Int)))))=some (if qhi (qua l i) (l.drop i) then .inr (many,l) else .inl false):=by
  intro n
  induction n with
  | zero =>
    intro i hi
    rw [List.drop_of_length_le (by omega),qpw]
    unfold qgi
    have: ¬((i:Int)<(l.length:Int)):=by omega
    simp [this,qhi]
  | succ n ih =>
    intro i hi
    have hlt:i<l.length:=by omega
    have h1:(i:Int)<(l.length:Int):=by omega
    have h0:(0:Int)≤(i:Int):=by omega
    have hw:w64 ((i:Int)+1)=((i+1:Nat):Int):=by rw [qx (by omega)];omega
    rw [qpw]
    unfold qgi
    simp only [h1,h0,decide_true,if_true,Int.toNat_natCast,qg8 hlt,q53 (hs _ (List.getElem_mem hlt)),hw,ih (i+1) (by omega)]
    rw [xg hlt]
    have hp:qua l (i+1)=some l[i]:=by simp [qua,hlt]
    rw [hp]
    simp only [qhi]
    simp only [sb]
    by_cases hb:okW l[i]=true
    case neg=>
      have hb:okW l[i]=false:=by simpa using hb
      simp only [hb,Bool.not_false,if_true,Bool.false_and,Bool.false_eq_true,if_false]
    simp only [hb,Bool.not_true,Bool.false_eq_true,if_false,Bool.true_and]
    match i,hi,hlt,h1,h0,hw,hp,hb with
    |0,_,_,_,_,_,_,_=>simp [qua]
    | j + 1, hi, hlt, h1, h0, hw, hp, hb =>
      have g1:((j+1:Nat):Int)>0:=by omega
      have g2:w64 (((j+1:Nat):Int)-1)=(j:Int):=by rw [qx (by omega)];omega
      have g3:(j:Int)<(l.length:Int):=by omega
      have hj:j<l.length:=by omega
      have hpj:qua l (j+1)=some l[j]:=by simp [qua,hj]
      rw [hpj]
      simp only [g1,g2,g3,decide_true,if_true,Int.toNat_natCast,qg8 hj,Int.natCast_nonneg]
      by_cases hq:Op.bytesLess l[j] l[j+1]=true
      · simp only [hq,Bool.not_true,Bool.false_eq_true,if_false,Bool.true_and]
      · have hq : Op.bytesLess l[j] l[j + 1] = false := by simpa using hq
        simp only [hq,Bool.not_false,if_true,Bool.false_and,Bool.false_eq_true,if_false]
theorem jbe{l:List Str}(many:Int)(hl:l.length≤9223372036854775807)(hs: ∀x∈l,x.length≤9223372036854775807):z0m (l,many)=some (okN l&&decide ((l.length:Int)=many)):=by
  change (qmw (((0:Nat):Int),(l,(l,(many,(l.length:Int)))))>>=fun r=>Sum.elim (fun r1=>some r1) (fun r1=>some ((r1.2.length:Int)==r1.1)) r)=_
  have:=q1j many hl hs l.length 0 (by omega)
  rw [List.drop_zero] at this
  rw [this,sb]
  by_cases h:okN l=true
  · have h' : qhi (qua l 0) l = true := h
    simp only [h',if_true,h,Bool.true_and]
    show some ((l.length:Int)==many)=_
    congr 1
  · have h : okN l = false := by simpa using h
    have h':qhi (qua l 0) l=false:=h
    simp only [h',Bool.false_eq_true,if_false,h,Bool.false_and]
    rfl
end Go.Plain
namespace Go.Plain
open Go.AM
theorem jq(v:GVal):v.re=v:=by cases v;rfl
theorem qqu{l:List GVal}{i:Nat}(h:i<l.length):elt .val l i=l[i]:=by
  unfold elt
  simp [List.getD_eq_getElem?_getD,h]
def okV : Nat → GVal → Bool
  |0,_=>false
  | d + 1, v => decide (v.items.length ≤ 16) &&
    (if v.kind = 1 then decide (v.items = []) && decide (v.names = []) && decide (v.s = []) && decide (0 ≤ v.n) && decide (v.n ≤ 1099511627776)
     else if v.kind=2 then decide (v.items=[])&&decide (v.names=[])&&decide (v.n=0)&&okW v.s
     else if v.kind=3 then decide (v.names=[])&&decide (v.n=0)&&decide (v.s=[])&&v.items.all (okV d)
     else if v.kind=4 then okN v.names&&decide (v.names.length=v.items.length)&&decide (v.n=0)&&decide (v.s=[])&&v.items.all (okV d)
     else false)
theorem qbj: ∀{l:List GVal},qi4 l→∀x∈l,inV x
  |[],_,x,h=>by cases h
  | y :: r, h, x, hx => by
    rcases List.mem_cons.1 hx with rfl|hx
    · exact h.1
    · exact qbj h.2 x hx
theorem q63{d:Nat}(hd:(d:Int)+1≤9223372036854775807){l:List GVal}(hl:l.length≤9223372036854775807)(hm: ∀x∈l,z01 (x,(d:Int))=some (okV d x)): ∀(n i:Nat),i+n=l.length→
    if(l.drop i).all (okV d) then vz (((i:Int),(l,(l.length:Int))),(d:Int)+1)=some (.inr ((d:Int)+1))
    else∃k:Nat,vz (((i:Int),(l,(l.length:Int))),(d:Int)+1)=some (.inl ((k:Int),(d:Int)+1)):=by
  intro n
  induction n with
  | zero =>
    intro i hi
    rw [List.drop_of_length_le (by omega)]
    rw [qpo]
    unfold qf9
    have: ¬((i:Int)<(l.length:Int)):=by omega
    simp [this]
  | succ n ih =>
    intro i hi
    have hlt:i<l.length:=by omega
    have h1:(i:Int)<(l.length:Int):=by omega
    have h0:(0:Int)≤(i:Int):=by omega
    have ih:=ih (i+1) (by omega)
    have hw:w64 ((i:Int)+1)=((i+1:Nat):Int):=by rw [qx (by omega)];omega
    have hone:z1f (l[i],(d:Int)+1)=some (!okV d l[i],(d:Int)+1):=by
      rw [jbi]
      unfold q8c
      simp only [jq]
      rw [show w64 ((d:Int)+1-1)=(d:Int) by rw [qx (by omega)];omega,hm _ (List.getElem_mem hlt)]
      rfl
    rw [qpo]
    unfold qf9
    simp only [h1,h0,decide_true,if_true,Int.toNat_natCast,qqu hlt,jq,hone,sb]
    rw [xg hlt,List.all_cons,hw]
    by_cases hb:okV d l[i]=true
    · simp only [hb, Bool.not_true, Bool.false_eq_true, if_false, Bool.true_and]
      exact ih
    · have hb : okV d l[i] = false := by simpa using hb
      simp only [hb,Bool.not_false,if_true,Bool.false_and,Bool.false_eq_true,if_false]
      exact⟨i,rfl⟩
theorem q60{d:Nat}(hd:(d:Int)+1≤9223372036854775807){l:List GVal}(hl:l.length≤9223372036854775807)(hm: ∀x∈l,z01 (x,(d:Int))=some (okV d x)):
    z0p (l,(d:Int)+1)=some (!l.all (okV d),(d:Int)+1):=by
  have:=q63 hd hl hm l.length 0 (by omega)
  rw [List.drop_zero] at this
  rw [jbf]
  unfold q8b
  simp only
  rw [jbb]
  unfold q78
  by_cases h:l.all (okV d)=true
  · rw [if_pos h] at this
    change (vz ((((0:Nat):Int),(l,(l.length:Int))),(d:Int)+1)>>=_)>>=_=_
    rw [this,h]
    rfl
  · rw [if_neg h] at this
    obtain⟨k,hk⟩:=this
    have h:l.all (okV d)=false:=by simpa using h
    change (vz ((((0:Nat):Int),(l,(l.length:Int))),(d:Int)+1)>>=_)>>=_=_
    rw [hk,h]
    show some (decide ((k:Int)≥0),(d:Int)+1)=_
    have:((k:Int)≥0):=by omega
    simp [this]
theorem ja6 : ∀ (d : Nat), (d : Int) ≤ 9223372036854775807 → ∀ (v : GVal), inV v → z01 (v, (d : Int)) = some (okV d v) := by
  intro d
  induction d with
  | zero =>
    intro _ v _
    rw [q5x]
    unfold q5w
    simp [okV]
  | succ d ih =>
    intro hd v hv
    have hd':(d:Int)+1≤9223372036854775807:=by omega
    cases v with
    | mk kd n s items names =>
      obtain⟨hk,hn,hs,hil,hi,hnl,hns⟩:=hv
      have hm: ∀x∈items,z01 (x,(d:Int))=some (okV d x):=fun x hx=>ih (by omega) x (qbj hi x hx)
      have hc:=q60 hd' hil hm
      have hN:=jbe (items.length:Int) hnl hns
      rw [show((d+1:Nat):Int)=(d:Int)+1 by omega,q5x]
      unfold q5w
      have h0:((d:Int)+1==0)=false:=by simpa using(show¬(d:Int)+1=0 by omega)
      simp only [h0,Bool.false_eq_true,if_false,GVal.kind,GVal.n,GVal.s,GVal.items,GVal.names,hc,hN,q53 hs,sb,okV]
      generalize items.all (okV d)=A
      generalize okN names=B
      by_cases h16:items.length≤16
      case neg=>
        have:(items.length:Int)>16:=by omega
        simp [h16,this]
      have h16': ¬((items.length:Int)>16):=by omega
      simp only [h16,h16',decide_true,decide_false,Bool.false_eq_true,if_false,Bool.true_and]
      have hi0:((items.length:Int)==0)=decide (items=[]):=by cases items <;>simp <;>omega
      have hn0:((names.length:Int)==0)=decide (names=[]):=by cases names <;>simp <;>omega
      have hn1:decide ((names.length:Int)>0)= !decide (names=[]):=by cases names <;>simp <;>omega
      have hnl':decide ((names.length:Int)=(items.length:Int))=decide (names.length=items.length):=decide_eq_decide.2 (by omega)
      have hs0:(s==[])=decide (s=[]):=by cases s <;>simp
      have hs1:(s !=[])= !decide (s=[]):=by cases s <;>simp
      have hz0:(n==0)=decide (n=0):=by by_cases q:n=0 <;>simp [q]
      have hz1:(n !=0)= !decide (n=0):=by by_cases q:n=0 <;>simp [q]
      simp only [hi0,hn0,hn1,hnl',hs0,hs1,hz0,hz1]
      generalize hC:decide (names.length=items.length)=C
      by_cases k1:kd=1
      · subst k1
        by_cases e1:items=[] <;>by_cases e2:names=[] <;>by_cases e3:s=[] <;>by_cases e4:n≥0 <;>simp [e1,e2,e3,e4] <;>omega
      by_cases k2:kd=2
      · subst k2
        by_cases e1:items=[] <;>by_cases e2:names=[] <;>by_cases e3:n=0 <;>simp [e1,e2,e3]
      by_cases k3:kd=3
      · subst k3
        by_cases e1:items=[] <;>by_cases e2:names=[] <;>by_cases e3:n=0 <;>by_cases e4:s=[] <;>simp [e1,e2,e3,e4]
      by_cases k4:kd=4
      · subst k4
        by_cases e1:items=[] <;>by_cases e2:names=[] <;>by_cases e3:n=0 <;>by_cases e4:s=[] <;>cases B <;>cases A <;>cases C <;>simp [e1,e2] at hC <;>simp [e1,e2,e3,e4,hC]
      simp [k1,k2,k3,k4]
end Go.Plain
namespace Go.Plain
open Go.AM
theorem qc0(a b:UInt8)(x y:Str):Op.bytesLess (a::x) (b::y)=(decide (a<b)||(a==b&&Op.bytesLess x y)):=rfl
theorem jbn{v:GVal}(hv:inV v):z2g v=some (okV 6 v):=by
  change (z01 (v.re,((6:Nat):Int))>>=_)=_
  rw [jq,ja6 6 (by omega) v hv]
  rfl
end Go.Plain
namespace Go.Plain
open Go.AM
def quo(s:Str):Str:=[34]++s++[34]
def qa1(nm t:Str):Str:=quo nm++[58]++t
def jr:Bool→List Str→Str
  |_,[]=>[]
  |b,x::r=>(if b then [] else [44])++x++jr false r
mutual
noncomputable def txt:GVal→Str
  | .mk k n s items names =>
    if k=1 then Lib.itoa n else if k=2 then quo s
    else if k=4 then [123]++jr true (List.zipWith qa1 names (q1d items))++[125] else [91]++jr true (q1d items)++[93]
noncomputable def q1d:List GVal→List Str
  |[]=>[]
  |x::r=>txt x::q1d r
end
theorem quy: ∀l:List GVal,q1d l=l.map txt
  |[]=>by unfold q1d;rfl
  |x::r=>by unfold q1d;rw [quy r];rfl
noncomputable def q6(k:Int)(items:List GVal)(names:List Str):List Str:=if k=4 then List.zipWith qa1 names (items.map txt) else items.map txt
theorem q69(l:List Str):Lib.join l [44]=jr true l:=by
  cases l with
  |nil=>rfl
  | cons x r =>
    rw [Lib.join_cons]
    simp only [jr,if_true,List.nil_append]
    congr 1
    induction r with
    |nil=>rfl
    | cons y r ih =>
      simp only [Lib.joinTail,List.map_cons,List.flatten_cons,jr,Bool.false_eq_true,if_false]
      rw [←ih]
      rfl
theorem qq5(M:Nat): ∀(l:List Str) (b:Bool),(∀x∈l,x.length≤M)→(jr b l).length≤l.length*(M+1)
  |[],_,_=>by simp [jr]
  | x :: r, b, h => by
    have h1:=qq5 M r false fun y hy=>h y (by simp [hy])
    have h2:=h x (by simp)
    simp only [jr,List.length_append,List.length_cons,Nat.add_mul]
    cases b <;>simp <;>omega
theorem yf(k:Int)(items:List GVal)(names:List Str)(h:k=4→names.length=items.length):(q6 k items names).length=items.length:=by
  unfold q6
  split
  · rename_i e
    simp [h e]
  · simp
theorem qt9{k:Int}{items:List GVal}{names:List Str}(h:k=4→names.length=items.length){i:Nat}(hi:i<items.length):
    (q6 k items names)[i]? =some (if k=4 then qa1 (elt .str names i) (txt items[i]) else txt items[i]):=by
  unfold q6
  split
  · rename_i e
    have hn:i<names.length:=by rw [h e];exact hi
    rw [qg8 hn]
    simp [List.getElem?_zipWith,hi,hn]
  · simp [hi]
theorem xt{k n:Int}{s:Str}{items:List GVal}{names:List Str}(h1:k≠1)(h2:k≠2):
    txt (.mk k n s items names)=(if k=4 then [123] else [91])++jr true (q6 k items names)++(if k=4 then [125] else [93]):=by
  unfold txt q6
  simp only [h1,h2,if_false,quy]
  split <;>rfl
theorem q55{s:Str}(hs:s.length≤4611686018427387904):z1u s=some (quo s):=by
  unfold z1u quo
  split
  · split
    · rfl
    · rename_i h
      exact absurd (by simp;omega) h
  · rename_i h
    exact absurd (by simp;omega) h
def lim:Nat→Nat
  |0=>0
  |d+1=>300+16*(300+lim d)
theorem qrq{s:Str}(h:okW s=true):s.length≤200:=by
  unfold okW at h
  simp at h
  exact h.2
theorem qlc: ∀{l:List Str} {p:Option Str},qhi p l=true→∀x∈l,okW x=true
  |[],_,_,x,hx=>by cases hx
  | y :: r, p, h, x, hx => by
    unfold qhi at h
    simp at h
    rcases List.mem_cons.1 hx with rfl|hx
    · exact h.1.1
    · exact qlc h.2 x hx
theorem qhj{d:Nat}{v:GVal}(h:okV (d+1) v=true):
    v.items.length≤16∧((v.kind=1∧v.items=[]∧v.names=[]∧v.s=[]∧0≤v.n∧v.n≤1099511627776)∨(v.kind=2∧v.items=[]∧v.names=[]∧v.n=0∧okW v.s=true)
      ∨(v.kind=3∧v.names=[]∧v.n=0∧v.s=[]∧∀x∈v.items,okV d x=true)∨(v.kind=4∧okN v.names=true∧v.names.length=v.items.length∧v.n=0∧v.s=[]∧∀x∈v.items,okV d x=true)):=by
  unfold okV at h
  simp only [Bool.and_eq_true,decide_eq_true_eq] at h
  refine⟨h.1, ?_⟩
  have h:=h.2
  split at h
  · rename_i e
    simp only [Bool.and_eq_true,decide_eq_true_eq] at h
    exact .inl ⟨e,h.1.1.1.1,h.1.1.1.2,h.1.1.2,h.1.2,h.2⟩
  split at h
  · rename_i e
    simp only [Bool.and_eq_true,decide_eq_true_eq] at h
    exact .inr (.inl ⟨e,h.1.1.1,h.1.1.2,h.1.2,h.2⟩)
  split at h
  · rename_i e
    simp only [Bool.and_eq_true,decide_eq_true_eq,List.all_eq_true] at h
    exact .inr (.inr (.inl ⟨e,h.1.1.1,h.1.1.2,h.1.2,h.2⟩))
  split at h
  · rename_i e
    simp only [Bool.and_eq_true,decide_eq_true_eq,List.all_eq_true] at h
    exact .inr (.inr (.inr ⟨e,h.1.1.1.1,h.1.1.1.2,h.1.1.2,h.1.2,h.2⟩))
  · exact absurd h (by simp)
theorem qhk{d:Nat}{k n:Int}{s:Str}{items:List GVal}{names:List Str}(h:okV (d+1) (.mk k n s items names)=true):
    items.length≤16∧((k=1∧items=[]∧names=[]∧s=[]∧0≤n∧n≤1099511627776)∨(k=2∧items=[]∧names=[]∧n=0∧okW s=true)
      ∨(k=3∧names=[]∧n=0∧s=[]∧∀x∈items,okV d x=true)∨(k=4∧okN names=true∧names.length=items.length∧n=0∧s=[]∧∀x∈items,okV d x=true)):=qhj h
theorem qts{n:Int}(h0: -9223372036854775808≤n)(h1:n≤9223372036854775807):zw n=some (Lib.itoa n):=if_pos ⟨h0,h1⟩
theorem qiq{l:List Str}(h0:l.length≤140737488355328)(h1:(jr true l).length≤140737488355328):yw (l,[44])=some (jr true l):=by
  unfold yw
  simp only [q69]
  exact if_pos ⟨h0,h1⟩
theorem q5j{n B:Nat}(h:n≤200)(hB:B≤200):qq n B=true:=by
  unfold qq
  simp
  have:=Nat.mul_le_mul h hB
  omega
theorem ql9{d:Nat}(hd:lim d≤1000000000000){k n:Int}{s:Str}{items:List GVal}{names:List Str}(hi:items.length≤16)(h4:k=4→names.length=items.length)(hns: ∀x∈names,x.length≤200)
    (hm: ∀x∈items,z02 x=some (txt x)∧(txt x).length≤lim d): ∀(m i:Nat) (c:List Str),i+m=items.length→c.length=i→
    ww (((i:Int),(items,(items.length:Int))),(c,.mk k n s items names))=some (.mk k n s items names,c++(q6 k items names).drop i):=by
  intro m
  induction m with
  | zero =>
    intro i c hi' hc
    rw [List.drop_of_length_le (by rw [yf _ _ _ h4];omega),qma]
    unfold qce
    have: ¬((i:Int)<(items.length:Int)):=by omega
    simp [this,jq]
  | succ m ih =>
    intro i c hi' hc
    have hlt:i<items.length:=by omega
    have h1:(i:Int)<(items.length:Int):=by omega
    have h0:(0:Int)≤(i:Int):=by omega
    have hw:w64 ((i:Int)+1)=((i+1:Nat):Int):=by rw [qx (by omega)];omega
    obtain⟨q1,q2⟩:=hm _ (List.getElem_mem hlt)
    have hpl:=yf k items names h4
    have hp:=qt9 h4 hlt
    have hpd:(q6 k items names).drop i=(if k=4 then qa1 (elt .str names i) (txt items[i]) else txt items[i])::(q6 k items names).drop (i+1):=by
      rw [xg (by omega)]
      congr 1
      rw [List.getElem?_eq_getElem (by omega)] at hp
      exact Option.some.inj hp
    rw [qma]
    unfold qce
    have hs1: ∀x:Str,qq (c.length+[x].length) 16=true:=fun x=>q5j (by simp;omega) (by omega)
    simp only [h1,h0,decide_true,if_true,Int.toNat_natCast,qqu hlt,jq,q1,sb,GVal.kind,GVal.names,hw,hs1]
    by_cases k4:k=4
    · have hn : i < names.length := by rw [h4 k4]; exact hlt
      have hn':(i:Int)<(names.length:Int):=by omega
      have hl2:=hns _ (List.getElem_mem hn)
      have hq:(quo names[i]).length≤202:=by simp [quo];omega
      have b1:(quo names[i]).length+([58]:Str).length≤9223372036854775807:=by simp;omega
      have b2:(quo names[i]++([58]:Str)).length+(txt items[i]).length≤9223372036854775807:=by simp;omega
      rw [hpd]
      simp only [k4,if_true,hn',qg8 hn,q55 (s:=names[i]) (by omega),sb,b1,b2,beq_self_eq_true]
      subst k4
      rw [ih (i+1) _ (by omega) (by simp;omega)]
      simp [qa1]
    · have k4' : (k == 4) = false := by simpa using k4
      rw [hpd]
      simp only [k4',k4,Bool.false_eq_true,if_false]
      rw [ih (i+1) _ (by omega) (by simp;omega)]
      simp
theorem q0q{d:Nat}{k:Int}{items:List GVal}{names:List Str}(hns: ∀x∈names,x.length≤200)(hm: ∀x∈items,(txt x).length≤lim d): ∀x∈q6 k items names,x.length≤203+lim d:=by
  intro x hx
  unfold q6 at hx
  split at hx
  · obtain ⟨i, hi, rfl⟩ := List.mem_iff_getElem.1 hx
    simp only [List.length_zipWith,List.length_map] at hi
    have a1:=hns _ (List.getElem_mem (l:=names) (n:=i) (by omega))
    have a2:=hm _ (List.getElem_mem (l:=items) (n:=i) (by omega))
    simp only [List.getElem_zipWith,List.getElem_map,qa1,quo,List.length_append,List.length_singleton]
    omega
  · obtain ⟨y, hy, rfl⟩ := List.mem_map.1 hx
    have:=hm y hy
    omega
theorem q4a{d:Nat}(h:d≤6):lim d≤1000000000000:=by
  rcases d with _|_|_|_|_|_|_|d
  all_goals first|(simp [lim];done)|omega
theorem q35{d:Nat}{k:Int}{items:List GVal}{names:List Str}(hi:items.length≤16)(h4:k=4→names.length=items.length)(hns: ∀x∈names,x.length≤200)(hm: ∀x∈items,(txt x).length≤lim d):
    (jr true (q6 k items names)).length+2≤lim (d+1):=by
  have h1:=qq5 (203+lim d) (q6 k items names) true (q0q hns hm)
  rw [yf _ _ _ h4] at h1
  have h2:items.length*(203+lim d+1)≤16*(203+lim d+1):=Nat.mul_le_mul_right _ hi
  simp only [lim]
  omega
theorem ja8 : ∀ (d : Nat), d ≤ 6 → ∀ (v : GVal), okV d v = true → z02 v = some (txt v) ∧ (txt v).length ≤ lim d := by
  intro d
  induction d with
  |zero=>intro _ v h;simp [okV] at h
  | succ d ih =>
    intro hd v hv
    cases v with
    | mk k n s items names =>
      have hlim:=q4a (d:=d) (by omega)
      have hlim':=q4a (d:=d+1) hd
      obtain⟨hi,hc⟩:=qhk hv
      rw [ja7]
      unfold q76
      rcases hc with⟨rfl,rfl,rfl,rfl,h1,h2⟩|⟨rfl,rfl,rfl,rfl,h1⟩|⟨rfl,rfl,rfl,rfl,hm⟩|⟨rfl,hN,hl,rfl,rfl,hm⟩
      · have e : txt (.mk 1 n [] [] []) = Lib.itoa n := by unfold txt; simp
        have:=Lib.itoa_length_le n (by omega) (by omega)
        rw [e]
        refine⟨?_,by simp only [lim];omega⟩
        change (zw n>>=fun i=>some i)=_
        rw [qts (by omega) (by omega)]
        rfl
      · have e : txt (.mk 2 0 s [] []) = quo s := by unfold txt; simp
        have:=qrq h1
        simp only [GVal.kind,GVal.s,q55 (s:=s) (by omega),e]
        exact⟨rfl,by simp only [lim,quo,List.length_append,List.length_singleton];omega⟩
      · have hm' := fun x hx => ih (by omega) x (hm x hx)
        have hL:=ql9 (k:=3) (n:=0) (s:=[]) (names:=[]) hlim hi (by intro h;omega) (by simp) hm' items.length 0 [] (by omega) rfl
        have hJ:=q35 (k:=3) (names:=[]) hi (by intro h;omega) (by simp) (fun x hx=>(hm' x hx).2)
        rw [xt (by omega) (by omega)]
        simp only [GVal.kind,GVal.items,jq]
        change (ww ((((0:Nat):Int),(items,(items.length:Int))),([],_))>>=_)=_∧_
        rw [hL,sb]
        have hq:(q6 3 items []).length≤16:=by rw [yf _ _ _ (by intro h;omega)];exact hi
        simp only [List.nil_append,List.drop_zero]
        rw [qiq (by omega) (by omega),sb]
        dsimp +instances only [GVal.kind]
        have b1:([91]:Str).length+(jr true (q6 3 items [])).length≤9223372036854775807:=by simp;omega
        have b2:(([91]:Str)++jr true (q6 3 items [])).length+([93]:Str).length≤9223372036854775807:=by simp;omega
        have b2':(jr true (q6 3 items [])).length+1+1≤9223372036854775807:=by omega
        have b3:(if(3:Int)=4 then([123]:Str) else [91])=[91]:=rfl
        have b4:(if(3:Int)=4 then([125]:Str) else [93])=[93]:=rfl
        rw [b3,b4]
        refine⟨?_,by simp;omega⟩
        simp [b2']
        omega
      · have hm' := fun x hx => ih (by omega) x (hm x hx)
        have hns: ∀x∈names,x.length≤200:=fun x hx=>qrq (qlc hN x hx)
        have hL:=ql9 (k:=4) (n:=0) (s:=[]) (names:=names) hlim hi (fun _=>hl) hns hm' items.length 0 [] (by omega) rfl
        have hJ:=q35 (k:=4) (names:=names) hi (fun _=>hl) hns (fun x hx=>(hm' x hx).2)
        rw [xt (by omega) (by omega)]
        simp only [GVal.kind,GVal.items,jq]
        change (ww ((((0:Nat):Int),(items,(items.length:Int))),([],_))>>=_)=_∧_
        rw [hL,sb]
        have hq:(q6 4 items names).length≤16:=by rw [yf _ _ _ (fun _=>hl)];exact hi
        simp only [List.nil_append,List.drop_zero]
        rw [qiq (by omega) (by omega),sb]
        dsimp +instances only [GVal.kind]
        have b1:([123]:Str).length+(jr true (q6 4 items names)).length≤9223372036854775807:=by simp;omega
        have b2':(jr true (q6 4 items names)).length+1+1≤9223372036854775807:=by omega
        refine⟨?_,by simp;omega⟩
        simp [b2']
        omega
theorem q56{v:GVal}(hv:inV v):z1v v=some (if okV 6 v then(if(txt v).length>4096 then([],2) else(txt v,0)) else([],1)):=by
  unfold z1v
  simp only [jq,jbn hv,sb]
  by_cases h:okV 6 v=true
  · obtain ⟨h1, _⟩ := ja8 6 (by omega) v h
    simp only [h,Bool.not_true,Bool.false_eq_true,if_false,h1,sb,if_true]
    by_cases g:(txt v).length>4096
    · have : ((txt v).length : Int) > 4096 := by omega
      simp only [this,g,decide_true,if_true]
    · have : ¬ ((txt v).length : Int) > 4096 := by omega
      simp only [this,g,decide_false,Bool.false_eq_true,if_false]
  · have h : okV 6 v = false := by simpa using h
    simp only [h,Bool.not_false,if_true,Bool.false_eq_true,if_false]
end Go.Plain
namespace Go.Plain
open Go.AM
open Classical
theorem qhf{v:GVal}(h:inV v):v.s.length≤9223372036854775807∧v.items.length≤9223372036854775807∧qi4 v.items∧v.names.length≤9223372036854775807:=by
  cases v
  exact⟨h.2.2.1,h.2.2.2.1,h.2.2.2.2.1,h.2.2.2.2.2.1⟩
end Go.Plain
namespace Go.Plain
open Go.AM
def dg(b:UInt8):Bool:=decide (48≤b.toNat)&&decide (b.toNat≤57)
def num(w:Str):Nat:=w.foldl (fun a b=>10*a+(b.toNat-48)) 0
theorem qla(w:Str)(b:UInt8):num (w++[b])=10*num w+(b.toNat-48):=by simp [num]
theorem qd6{b:UInt8}:dg b=true↔48≤b.toNat∧b.toNat≤57:=by simp [dg]
theorem q5e{α:Type}{P:List α→Prop}(h0:P [])(h1: ∀l a,P l→P (l++[a]))(l:List α):P l:=by
  have: ∀(n:Nat) (l:List α),l.length=n→P l:=by
    intro n
    induction n with
    |zero=>intro l h;rw [List.length_eq_zero_iff.1 h];exact h0
    | succ n ih =>
      intro l h
      have hne:l≠[]:=by rintro rfl;simp at h
      rw [←List.dropLast_concat_getLast hne]
      exact h1 _ _ (ih _ (by simp;omega))
  exact this _ l rfl
theorem q4g: ∀{w:Str},w.all dg=true→num w<10^w.length:=by
  intro w
  induction w using q5e with
  |h0=>intro _;simp [num]
  | h1 l a ih =>
    intro h
    simp only [List.all_append,List.all_cons,List.all_nil,Bool.and_true,Bool.and_eq_true] at h
    have h1:=ih h.1
    have h2:=qd6.1 h.2
    rw [qla,List.length_append,List.length_singleton,Nat.pow_succ]
    omega
theorem b48(u:Nat)(h:u<10):(UInt8.ofNat (48+u)).toNat=48+u:=by
  simp [UInt8.toNat_ofNat']
  omega
theorem qoe (u : Nat) : (Lib.decDigits u).all dg = true ∧ num (Lib.decDigits u) = u ∧ (Lib.decDigits u ≠ []) ∧ (1 ≤ u → ∃ b r, Lib.decDigits u = b :: r ∧ b.toNat ≠ 48) ∧ ((u < 10 → (Lib.decDigits u).length = 1)) ∧ ∀ k, u < 10 ^ (k + 1) → (Lib.decDigits u).length ≤ k + 1 := by
  induction u using Nat.strongRecOn with
  | _ u ih =>
    unfold Lib.decDigits
    split
    · rename_i h
      have hb:=b48 u h
      refine⟨?_, ?_,by simp,fun h1=>⟨_,_,rfl,by omega⟩,fun _=>rfl,fun k _=>by simp⟩
      · simp only [List.all_cons, List.all_nil, Bool.and_true]
        exact qd6.2 ⟨by omega,by omega⟩
      · simp only [num, List.foldl_cons, List.foldl_nil, hb]
        omega
    · rename_i h
      obtain⟨a1,a2,a3,a4,a5,a6⟩:=ih (u / 10) (by omega)
      have hb:=b48 (u%10) (by omega)
      refine⟨?_, ?_,by simp,fun h1=> ?_,fun h'=>absurd h' h,fun k hk=> ?_⟩
      · simp only [List.all_append, List.all_cons, List.all_nil, Bool.and_true, a1, Bool.true_and]
        exact qd6.2 ⟨by omega,by omega⟩
      · rw [qla, a2, hb]
        omega
      · obtain ⟨b, r, e, hne⟩ := a4 (by omega)
        exact⟨b,r++[UInt8.ofNat (48+u%10)],by rw [e];rfl,hne⟩
      · rw [List.length_append, List.length_singleton]
        cases k with
        |zero=>omega
        | succ k =>
          have:=a6 k (by rw [Nat.pow_succ] at hk;omega)
          omega
theorem qr7{w:Str}(rest:Str)(hw:w.all dg=true)(hr: ∀b r,rest=b::r→dg b=false):(w++rest).takeWhile dg=w∧(w++rest).dropWhile dg=rest:=by
  induction w with
  | nil =>
    cases rest with
    |nil=>simp
    |cons b r=>simp [hr b r rfl]
  | cons b r ih =>
    simp only [List.all_cons,Bool.and_eq_true] at hw
    obtain⟨i1,i2⟩:=ih hw.2
    simp [hw.1,i1,i2]
theorem q9w: ∀b:UInt8,([48,49,50,51,52,53,54,55,56,57]:Str).contains b=dg b:=by
  intro b
  by_cases h:dg b=true
  · rw [h, List.contains_iff_mem]
    have h:=qd6.1 h
    have:b.toNat=48∨b.toNat=49∨b.toNat=50∨b.toNat=51∨b.toNat=52∨b.toNat=53∨b.toNat=54∨b.toNat=55∨b.toNat=56∨b.toNat=57:=by omega
    have hb:b=UInt8.ofNat b.toNat:=by simp
    rcases this with e|e|e|e|e|e|e|e|e|e <;>rw [hb,e] <;>decide
  · have h : dg b = false := by simpa using h
    rw [h]
    by_cases c:([48,49,50,51,52,53,54,55,56,57]:Str).contains b=true
    · rw [List.contains_iff_mem] at c
      simp only [List.mem_cons,List.not_mem_nil,or_false] at c
      rcases c with rfl|rfl|rfl|rfl|rfl|rfl|rfl|rfl|rfl|rfl <;>exact absurd h (by decide)
    · simpa using c
theorem qi6(c:Str):xk (c,([48,49,50,51,52,53,54,55,56,57]:Str))=some (c.dropWhile dg):=by
  unfold xk
  simp only
  rw [if_pos (by decide)]
  unfold Lib.trimLeftS
  congr 1
  congr 1
  funext b
  exact q9w b
theorem q4h{w:Str}{i:Nat}(h:i<w.length):num (w.take (i+1))=10*num (w.take i)+(w[i].toNat-48):=by
  rw [List.take_succ_eq_append_getElem h,qla]
theorem wr8{n:Int}(h:0≤n∧n≤255):IntKind.wrap .u8 n=n:=by
  unfold IntKind.wrap
  simp [IntKind.bits,IntKind.signed]
  omega
theorem qu7{w t:Str}(hw:w.all dg=true)(hl:w.length≤13)(z:GVal): ∀(m i:Nat),i+m=w.length→
    qh6 (((i:Int),(w,(w.length:Int))),(t,(GVal.mk 1 (num (w.take i)) [] [] [],z)))=some (t,(z,GVal.mk 1 (num w) [] [] [])):=by
  intro m
  induction m with
  | zero =>
    intro i hi
    rw [qpz]
    unfold qgl
    have: ¬((i:Int)<(w.length:Int)):=by omega
    rw [List.take_of_length_le (by omega)]
    simp [this,jq]
  | succ m ih =>
    intro i hi
    have hlt:i<w.length:=by omega
    have h1:(i:Int)<(w.length:Int):=by omega
    have h0:(0:Int)≤(i:Int):=by omega
    have hwi:w64 ((i:Int)+1)=((i+1:Nat):Int):=by rw [qx (by omega)];omega
    have hb:=qd6.1 (List.all_eq_true.1 hw _ (List.getElem_mem hlt))
    have hn:num (w.take i)<10^13:=by
      have a1:=q4g (w:=w.take i) (by rw [List.all_eq_true];intro x hx;exact List.all_eq_true.1 hw x (List.mem_of_mem_take hx))
      have a2:(w.take i).length≤13:=by simp;omega
      exact Nat.lt_of_lt_of_le a1 (Nat.pow_le_pow_right (by omega) a2)
    have hn:num (w.take i)<10000000000000:=hn
    have e1:IntKind.wrap .u8 ((w[i].toNat:Int)-48)=(w[i].toNat:Int)-48:=wr8 (by omega)
    have e2:w64 ((w[i].toNat:Int)-48)=(w[i].toNat:Int)-48:=qx (by omega)
    have e3:w64 ((10:Int)*(num (w.take i):Int))=(10:Int)*(num (w.take i):Int):=qx (by omega)
    have e4:w64 ((10:Int)*(num (w.take i):Int)+((w[i].toNat:Int)-48))=(num (w.take (i+1)):Int):=by
      rw [qx (by omega),q4h hlt]
      omega
    rw [qpz]
    unfold qgl
    simp only [h1,h0,decide_true,if_true,qkb hlt,hwi,jq,GVal.kind,GVal.n,GVal.s,GVal.items,GVal.names,e1,e2,e3,e4]
    exact ih (i+1) (by omega)
theorem qu6 {c : Str} (hc : c.length ≤ 9223372036854775807) : z0u c = some (
    if(c.takeWhile dg).length=0∨13<(c.takeWhile dg).length∨(1<(c.takeWhile dg).length∧bt (c.takeWhile dg) 0=48) then .inl (c.dropWhile dg)
    else .inr (.mk 1 (num (c.takeWhile dg)) [] [] [],c.dropWhile dg)):=by
  have hsp:=List.takeWhile_append_dropWhile (p:=dg) (l:=c)
  have hall:(c.takeWhile dg).all dg=true:=by
    rw [List.all_eq_true]
    intro x hx
    induction c with
    |nil=>simp at hx
    | cons b r ih =>
      by_cases e:dg b=true
      · simp only [List.takeWhile_cons, e, if_true, List.mem_cons] at hx
        rcases hx with rfl|hx
        · exact e
        · exact ih (by simp at hc;omega) List.takeWhile_append_dropWhile hx
      · simp [e] at hx
  unfold z0u
  rw [qi6,sb]
  generalize c.takeWhile dg=w at hsp hall
  generalize c.dropWhile dg=t at hsp
  subst hsp
  have hn:w64 (((w++t).length:Int)-(t.length:Int))=(w.length:Int):=by
    rw [List.length_append] at hc ⊢
    rw [qx (by omega)]
    omega
  have h0:(0:Int)≤(w.length:Int):=by omega
  have h1:(w.length:Int)≤((w++t).length:Int):=by rw [List.length_append];omega
  have h2:List.drop w.length (List.take (w++t).length (w++t))=t:=by
    rw [List.take_length,List.drop_left]
  have h3:List.take w.length (w++t)=w:=List.take_left
  simp only [hn,h0,h1,if_true,Int.toNat_natCast,h2,h3]
  by_cases c1:w.length=0
  · have : ((w.length : Int) == 0) = true := by simpa using List.length_eq_zero_iff.1 c1
    simp [c1]
  have c1':((w.length:Int)==0)=false:=by rw [beq_eq_false_iff_ne];omega
  by_cases c2:13<w.length
  · have : (w.length : Int) > 13 := by omega
    simp [c1',c2,this]
  have c2': ¬((w.length:Int)>13):=by omega
  have hL:=qu7 (t:=t) hall (by omega) (GVal.mk 0 0 [] [] []) w.length 0 (by omega)
  have hL:qh6 (((0:Int),(w,(w.length:Int))),(t,(GVal.mk 1 0 [] [] [],GVal.mk 0 0 [] [] [])))=some (t,(GVal.mk 0 0 [] [] [],GVal.mk 1 (num w) [] [] [])):=hL
  by_cases c3:1<w.length
  · have g1 : (w.length : Int) > 1 := by omega
    have g2:(0:Int)<(w.length:Int):=by omega
    simp only [c1',c2',g1,g2,decide_true,decide_false,Bool.false_eq_true,if_false,if_true,hL,sb,jq]
    by_cases c4:bt w 0=48
    · simp [c3,c4]
    · simp [c4,c1,c2]
  · have g1 : ¬ ((w.length : Int) > 1) := by omega
    simp only [c1',c2',g1,decide_false,Bool.false_eq_true,if_false,hL,sb,jq]
    simp [c1,c2,c3]
theorem qw9{n:Int}(h0:0≤n)(h1:n≤1099511627776){rest:Str}(hr: ∀b r,rest=b::r→dg b=false)(hc:(Lib.itoa n++rest).length≤9223372036854775807):
    z0u (Lib.itoa n++rest)=some (.inr (.mk 1 n [] [] [],rest)):=by
  obtain⟨u,rfl⟩: ∃u:Nat,n=u:=⟨n.toNat,by omega⟩
  rw [Lib.itoa_nonneg] at hc ⊢
  obtain⟨a1,a2,a3,a4,a5,a6⟩:=qoe u
  obtain⟨t1,t2⟩:=qr7 rest a1 hr
  rw [qu6 hc,t1,t2,a2]
  have l1:(Lib.decDigits u).length≠0:=fun h=>a3 (List.length_eq_zero_iff.1 h)
  have l2:=a6 12 (by omega)
  rw [if_neg]
  rintro(h|h|⟨h,h'⟩)
  · exact l1 h
  · omega
  · have hu : 10 ≤ u := by
      by_cases q:u<10
      · have:=a5 q;omega
      · omega
    obtain⟨b,r,e,hne⟩:=a4 (by omega)
    rw [e] at h'
    have:=qkb (s:=b::r) (i:=0) (by simp)
    simp only [List.getElem_cons_zero] at this
    have h'':bt (b::r) ((0:Nat):Int)=48:=h'
    rw [this] at h''
    omega
end Go.Plain
namespace Go.Plain
open Go.AM
open Classical
theorem qtw:z1n []=some (.inl []):=rfl
theorem ye(b:UInt8)(r:Str):z1n (b::r)=some (.inr ((b.toNat:Int),b::r)):=by
  unfold z1n
  have e:((b::r:Str)==[])=false:=rfl
  have h:(0:Int)<((b::r:Str).length:Int):=by rw [List.length_cons];omega
  simp only [e,Bool.false_eq_true,if_false,h,if_true]
  rfl
theorem take_nil(k:Int):z1k (k,[])=some (.inl []):=rfl
theorem zi(k:Int)(b:UInt8)(r:Str):z1k (k,b::r)=some (if(b.toNat:Int)=k then .inr r else .inl (b::r)):=by
  unfold z1k
  simp only [ye,sb,Sum.elim_inr]
  by_cases e:(b.toNat:Int)=k
  · have e1 : ((b.toNat : Int) != k) = false := by simp [e]
    have h1:(1:Int)≤((b::r:Str).length:Int):=by rw [List.length_cons];omega
    rw [if_pos e]
    simp only [e1,Bool.false_eq_true,if_false,h1,Int.le_refl,if_true,Int.toNat_natCast,List.take_length,List.drop_succ_cons,List.drop_zero]
  · have e1 : ((b.toNat : Int) != k) = true := by simp [e]
    simp only [e1,if_true,e,if_false]
theorem qft(k:Int)(c:Str): ∃r,z1k (k,c)=some r∧∀t,r= .inr t→t.length≤c.length:=by
  cases c with
  |nil=>exact⟨_,take_nil k,fun t h=>by cases h⟩
  | cons b r =>
    refine⟨_,zi k b r,fun t h=> ?_⟩
    split at h
    · injection h with h;subst h;simp
    · cases h
theorem qtd: ∀(s rest:Str),(∀b∈s,b≠34)→Lib.index (s++34::rest) [34]=(s.length:Int)
  |[],rest,_=>by simp [Lib.index]
  | b :: s, rest, h => by
    have h1: ¬(34=b):=fun e=>h b (by simp) e.symm
    have ih:=qtd s rest fun x hx=>h x (by simp [hx])
    simp only [List.cons_append,Lib.index,ih]
    have:((s.length:Int)== -1)=false:=by rw [beq_eq_false_iff_ne];omega
    simp [List.isPrefixOf,h1,this]
theorem q9r(s rest:Str)(h: ∀b∈s,b≠34):Lib.cut (s++34::rest) [34]=(s,rest,true):=by
  unfold Lib.cut
  rw [qtd s rest h,if_pos (by omega),Int.toNat_natCast]
  simp
theorem jao{s:Str}(h:okW s=true): ∀b∈s,b≠34:=by
  intro b hb e
  unfold okW at h
  simp only [Bool.and_eq_true,List.all_eq_true] at h
  have:=h.1 b hb
  subst e
  exact absurd this (by decide)
theorem qk5{s:Str}(h:s.length≤4096):qfa (s,([34]:Str))=some (Lib.cut s [34]):=by
  unfold qfa
  simp only
  rw [if_pos (by omega)]
theorem qph{s rest:Str}(h:okW s=true)(hl:(quo s++rest).length≤4096):z1p (quo s++rest)=some (.inr (s,rest)):=by
  unfold z1p
  have e:quo s++rest=34::(s++34::rest):=by simp [quo]
  rw [e] at hl ⊢
  rw [zi,sb]
  have e2:(((34:UInt8).toNat:Int)=34):=rfl
  rw [if_pos e2]
  simp only [Sum.elim_inr]
  rw [qk5 (by simp at hl ⊢;omega),q9r s rest (jao h)]
  rfl
theorem qu8{c:Str}(hl:c.length≤4096): ∃r,z1p c=some r∧∀w t,r= .inr (w,t)→w.length≤4096∧t.length≤c.length:=by
  unfold z1p
  obtain⟨r,h1,h2⟩:=qft 34 c
  rw [h1,sb]
  cases r with
  |inl y=>exact⟨_,rfl,fun w t h=>by cases h⟩
  | inr y =>
    have hy:=h2 y rfl
    simp only [Sum.elim_inr]
    rw [qk5 (by omega),sb]
    have hc:(Lib.cut y [34]).1.length≤y.length∧(Lib.cut y [34]).2.1.length≤y.length:=by
      unfold Lib.cut
      split <;>simp
      omega
    split
    · exact⟨_,rfl,fun w t h=>by cases h⟩
    · refine ⟨_, rfl, fun w t h => ?_⟩
      injection h with h
      injection h with ha hb
      subst ha;subst hb
      omega
noncomputable def q0g(deep end1:Int)(c1:Int×(Int×Str))(c2:GVal)(c3:List GVal)(c4:List Str)(y:Str):Option (Str⊕(Int×(Str×(GVal×((Int×(Int×Str))×((List GVal)×(List Str))))))):=
  if(c1.1==(4:Int)) then(z1p y>>=fun e2=>
    Sum.elim (fun e3=>some (.inl e3)) (fun e3=>if(qq (c4.length+[e3.1].length) 16) then
    z1k ((58:Int),e3.2)>>=fun y2=>
    Sum.elim (fun y3=>some (.inl y3)) (fun y3=>z06 ((w64 (deep-(1:Int))),y3)>>=fun e4=>
    Sum.elim (fun e5=>some (.inl e5)) (fun e5=>if(qq (c3.length+[e5.1.re].length) 80) then
    if(decide (((c3++[e5.1.re]).length:Int)>(16:Int))) then some (.inl e5.2) else
    kr ((deep,end1),(e5.2,(c1,(c2.re,((c3++[e5.1.re]),(c4++[e3.1])))))) else none) e4) y2 else none) e2) else
  z06 ((w64 (deep-(1:Int))),y)>>=fun e2=>
  Sum.elim (fun e3=>some (.inl e3)) (fun e3=>if(qq (c3.length+[e3.1.re].length) 80) then
  if(decide (((c3++[e3.1.re]).length:Int)>(16:Int))) then some (.inl e3.2) else
  kr ((deep,end1),(e3.2,(c1,(c2.re,((c3++[e3.1.re]),c4))))) else none) e2
theorem qrc (deep end1 : Int) (c : Str) (c1 : Int × (Int × Str)) (c2 : GVal) (c3 : List GVal) (c4 : List Str) :
    kr ((deep,end1),(c,(c1,(c2,(c3,c4)))))=(z1n c>>=fun e=>
      Sum.elim (fun e1=>some (.inl e1)) (fun e1=>if(e1.1 !=end1) then(if(decide ((c3.length:Int)>(0:Int))) then(z1k ((44:Int),e1.2)>>=fun y=>
        Sum.elim (fun y1=>some (.inl y1)) (fun y1=>q0g deep end1 c1 c2 c3 c4 y1) y) else q0g deep end1 c1 c2 c3 c4 e1.2) else
        some (.inr (end1,(e1.2,(c2.re,(c1,(c3,c4))))))) e):=by
  rw [q1h]
  rfl
theorem qfq{n B:Nat}(h:n≤1000)(hB:B≤200):qq n B:=by
  unfold qq
  have:=Nat.mul_le_mul h hB
  omega
theorem qji: ∀{l:List GVal},(∀x∈l,inV x)→qi4 l
  |[],_=>trivial
  |x::r,h=>⟨h x (by simp),qji fun y hy=>h y (by simp [hy])⟩
theorem qz6{l:List GVal}{x:GVal}(h:qi4 l)(hx:inV x):qi4 (l++[x]):=qji fun y hy=>by
  rcases List.mem_append.1 hy with hy|hy
  · exact qbj h y hy
  · rw [List.mem_singleton] at hy
    subst hy
    exact hx
theorem jab {d : Nat} (hd : (d : Int) + 1 ≤ 9223372036854775807) (end1 : Int) (c1 : Int × (Int × Str)) (c2 : GVal)
    (hv: ∀c:Str,c.length≤4096→∃r,z06 ((d:Int),c)=some r∧∀v t,r= .inr (v,t)→inV v∧t.length≤c.length):
    ∀(m:Nat) (c:Str) (c3:List GVal) (c4:List Str),c3.length+m=16→c4.length≤c3.length→qi4 c3→(∀x∈c4,x.length≤4096)→c.length≤4096→
    ∃r,kr (((d:Int)+1,end1),(c,(c1,(c2,(c3,c4)))))=some r∧∀e t z h l n,r= .inr (e,(t,(z,(h,(l,n)))))→e=end1∧t.length≤c.length∧h=c1∧qi4 l∧l.length≤16∧n.length≤16∧∀x∈n,x.length≤4096:=by
  intro m
  induction m using Nat.strongRecOn with
  | _ m ihm =>
    intro c c3 c4 hm hn4 hi3 hi4 hc
    have hw:w64 ((d:Int)+1-1)=(d:Int):=by rw [qx (by omega)];omega
    -- what a member leads to
    have hgo: ∀(x:GVal) (t:Str) (n4:List Str),inV x→t.length≤c.length→n4.length≤c3.length+1→(∀y∈n4,y.length≤4096)→
        ∃ r, (if (qq (c3.length + [x.re].length) 80) then
          if(decide (((c3++[x.re]).length:Int)>(16:Int))) then some (.inl t) else
          kr (((d:Int)+1,end1),(t,(c1,(c2.re,((c3++[x.re]),n4))))) else none)=some r∧∀e t z h l n,r= .inr (e,(t,(z,(h,(l,n)))))→e=end1∧t.length≤c.length∧h=c1∧qi4 l∧l.length≤16∧n.length≤16∧∀x∈n,x.length≤4096:=by
      intro x t n4 hx ht hn hn'
      have hs:qq (c3.length+[x].length) 80:=qfq (by simp;omega) (by omega)
      simp only [jq]
      rw [if_pos hs]
      cases m with
      | zero =>
        have:((c3++[x]).length:Int)>16:=by simp;omega
        simp only [this,decide_true,if_true]
        exact⟨_,rfl,fun e t z h l n q=>by cases q⟩
      | succ m =>
        have: ¬((c3++[x]).length:Int)>16:=by simp;omega
        simp only [this,decide_false,Bool.false_eq_true,if_false]
        obtain⟨r,h1,h2⟩:=ihm m (by omega) t (c3++[x]) n4 (by simp;omega) (by simp;omega) (qz6 hi3 hx) hn' (by omega)
        exact⟨r,h1,fun e t' z h l n q=>by
          obtain⟨a1,a2,a3⟩:=h2 e t' z h l n q
          exact⟨a1,by omega,a3⟩⟩
    have hK : ∀ y : Str, y.length ≤ c.length → ∃ r, q0g ((d : Int) + 1) end1 c1 c2 c3 c4 y = some r ∧ ∀ e t z h l n, r = .inr (e, (t, (z, (h, (l, n))))) → e = end1 ∧ t.length ≤ c.length ∧ h = c1 ∧ qi4 l ∧ l.length ≤ 16 ∧ n.length ≤ 16 ∧ ∀ x ∈ n, x.length ≤ 4096 := by
      intro y hy
      unfold q0g
      rw [hw]
      split
      · obtain ⟨r, h1, h2⟩ := qu8 (c := y) (by omega)
        rw [h1,sb]
        cases r with
        |inl y=>exact⟨_,rfl,fun e t z h l n q=>by cases q⟩
        | inr w =>
          obtain⟨g1,g2⟩:=h2 w.1 w.2 rfl
          have hs:qq (c4.length+[w.1].length) 16:=qfq (by simp;omega) (by omega)
          simp only [Sum.elim_inr]
          rw [if_pos hs]
          obtain⟨r,h1,h2⟩:=qft 58 w.2
          rw [h1,sb]
          cases r with
          |inl y=>exact⟨_,rfl,fun e t z h l n q=>by cases q⟩
          | inr u =>
            have hu:=h2 u rfl
            obtain⟨r,h1,h2⟩:=hv u (by omega)
            simp only [Sum.elim_inr,h1,sb]
            cases r with
            |inl y=>exact⟨_,rfl,fun e t z h l n q=>by cases q⟩
            | inr x =>
              obtain⟨k1,k2⟩:=h2 x.1 x.2 rfl
              simp only [Sum.elim_inr]
              exact hgo x.1 x.2 (c4++[w.1]) k1 (by omega) (by simp;omega) (fun z hz=>by
                rcases List.mem_append.1 hz with hz|hz
                · exact hi4 z hz
                · rw [List.mem_singleton] at hz;subst hz;exact g1)
      · obtain ⟨r, h1, h2⟩ := hv y (by omega)
        rw [h1,sb]
        cases r with
        |inl y=>exact⟨_,rfl,fun e t z h l n q=>by cases q⟩
        | inr x =>
          obtain⟨k1,k2⟩:=h2 x.1 x.2 rfl
          simp only [Sum.elim_inr]
          exact hgo x.1 x.2 c4 k1 (by omega) (by omega) hi4
    rw [qrc]
    cases c with
    |nil=>rw [qtw,sb];exact⟨_,rfl,fun e t z h l n q=>by cases q⟩
    | cons b r =>
      rw [ye,sb]
      simp only [Sum.elim_inr]
      split
      · split
        · obtain ⟨q, h1, h2⟩ := qft 44 (b :: r)
          rw [h1,sb]
          cases q with
          |inl y=>exact⟨_,rfl,fun e t z h l n q=>by cases q⟩
          | inr u =>
            simp only [Sum.elim_inr]
            exact hK u (h2 u rfl)
        · exact hK (b::r) (Nat.le_refl _)
      · refine ⟨_, rfl, fun e t z h l n q => ?_⟩
        injection q with q
        simp only [Prod.mk.injEq] at q
        obtain⟨rfl,rfl,rfl,rfl,rfl,rfl⟩:=q
        exact⟨rfl,Nat.le_refl _,rfl,hi3,by omega,by omega,hi4⟩
theorem qou{d:Nat}(hd:(d:Int)+1≤9223372036854775807)(k end1:Int)(hk:0≤k∧k≤4)
    (hv: ∀c:Str,c.length≤4096→∃r,z06 ((d:Int),c)=some r∧∀v t,r= .inr (v,t)→inV v∧t.length≤c.length) (b:UInt8) (c:Str) (hc:(b::c).length≤4096):
    ∃r,z09 (((k,((0:Int),([]:Str))),(end1,(d:Int)+1)),b::c)=some r∧∀v t,r= .inr (v,t)→inV v∧t.length≤(b::c).length:=by
  rw [qxc]
  unfold q1g
  have h1:(1:Int)≤((b::c:Str).length:Int):=by rw [List.length_cons];omega
  simp only [h1,Int.le_refl,if_true,Int.toNat_natCast,List.take_length,List.drop_succ_cons,List.drop_zero]
  obtain⟨r,g1,g2⟩:=jab hd end1 (k,(0,[])) (GVal.mk 0 0 [] [] []) hv 16 c [] [] rfl (by simp) trivial (by simp) (by simp at hc;omega)
  rw [g1,sb]
  cases r with
  |inl y=>exact⟨_,rfl,fun v t h=>by cases h⟩
  | inr q =>
    obtain⟨e,t,z,h,l,n⟩:=q
    obtain⟨rfl,a2,rfl,a4,a5,a6,a7⟩:=g2 e t z h l n rfl
    simp only [Sum.elim_inr]
    obtain⟨r,t1,t2⟩:=qft e t
    rw [t1,sb]
    cases r with
    |inl y=>exact⟨_,rfl,fun v t h=>by cases h⟩
    | inr u =>
      refine⟨_,rfl,fun v t h=> ?_⟩
      injection h with h
      injection h with ha hb
      subst ha;subst hb
      have:=t2 u rfl
      refine⟨⟨by omega,by omega,by simp,by omega,a4,by omega,fun x hx=> ?_⟩,by simp;omega⟩
      have:=a7 x hx
      omega
theorem q1e : ∀ (d : Nat), (d : Int) ≤ 9223372036854775807 → ∀ c : Str, c.length ≤ 4096 → ∃ r, z06 ((d : Int), c) = some r ∧ ∀ v t, r = .inr (v, t) → inV v ∧ t.length ≤ c.length := by
  intro d
  induction d with
  | zero =>
    intro _ c hc
    rw [qxa]
    exact⟨_,rfl,fun v t h=>by cases h⟩
  | succ d ih =>
    intro hd c hc
    have hd':(d:Int)+1≤9223372036854775807:=by omega
    rw [show((d+1:Nat):Int)=(d:Int)+1 by omega,qxa]
    unfold q5y
    have h0:((d:Int)+1==0)=false:=by simpa using(show¬(d:Int)+1=0 by omega)
    simp only [h0,Bool.false_eq_true,if_false]
    cases c with
    |nil=>rw [qtw,sb];exact⟨_,rfl,fun v t h=>by cases h⟩
    | cons b c =>
      rw [ye,sb]
      simp only [Sum.elim_inr]
      split
      · obtain ⟨r, h1, h2⟩ := qu8 (c := b :: c) hc
        rw [h1,sb]
        cases r with
        |inl y=>exact⟨_,rfl,fun v t h=>by cases h⟩
        | inr w =>
          refine⟨_,rfl,fun v t h=> ?_⟩
          obtain⟨g1,g2⟩:=h2 w.1 w.2 rfl
          injection h with h
          injection h with ha hb
          subst ha;subst hb
          exact⟨⟨by omega,by omega,by omega,by simp,trivial,by simp,by simp⟩,g2⟩
      split
      · obtain ⟨r, h1, h2⟩ := qou hd' 3 93 (by omega) (ih (by omega)) b c hc
        rw [h1,sb]
        cases r with
        |inl y=>exact⟨_,rfl,fun v t h=>by cases h⟩
        | inr w =>
          refine⟨_,rfl,fun v t h=> ?_⟩
          obtain⟨g1,g2⟩:=h2 w.1 w.2 rfl
          injection h with h
          injection h with ha hb
          subst ha;subst hb
          rw [jq]
          exact⟨g1,g2⟩
      split
      · obtain ⟨r, h1, h2⟩ := qou hd' 4 125 (by omega) (ih (by omega)) b c hc
        rw [h1,sb]
        cases r with
        |inl y=>exact⟨_,rfl,fun v t h=>by cases h⟩
        | inr w =>
          refine⟨_,rfl,fun v t h=> ?_⟩
          obtain⟨g1,g2⟩:=h2 w.1 w.2 rfl
          injection h with h
          injection h with ha hb
          subst ha;subst hb
          rw [jq]
          exact⟨g1,g2⟩
      · rw [qu6 (c := b :: c) (by omega), sb]
        split
        · exact⟨_,rfl,fun v t h=>by cases h⟩
        · rename_i hw
          refine⟨_,rfl,fun v t h=> ?_⟩
          injection h with h
          injection h with ha hb
          subst ha;subst hb
          rw [jq]
          have hall:(List.takeWhile dg (b::c)).all dg=true:=List.all_takeWhile
          have hlt:=q4g hall
          have hp:10^(List.takeWhile dg (b::c)).length≤10^13:=Nat.pow_le_pow_right (by omega) (by omega)
          have h13:(10:Nat)^13=10000000000000:=rfl
          refine⟨⟨by omega,by omega,by simp,by simp,trivial,by simp,by simp⟩, ?_⟩
          have hsp:=congrArg List.length (List.takeWhile_append_dropWhile (p:=dg) (l:=b::c))
          rw [List.length_append] at hsp
          show(List.dropWhile dg (b::c)).length≤_
          omega
end Go.Plain
namespace Go.Plain
open Go.AM
open Classical
theorem qux : ∀ {d : Nat} {v : GVal}, okV d v = true → ∃ b r, txt v = b :: r ∧ (v.kind = 1 → dg b = true) ∧ (v.kind = 2 → b = 34) ∧ (v.kind = 3 → b = 91) ∧ (v.kind = 4 → b = 123) := by
  intro d v h
  cases d with
  |zero=>simp [okV] at h
  | succ d =>
    cases v with
    | mk k n s items names =>
      obtain⟨_,hc⟩:=qhk h
      rcases hc with⟨rfl,rfl,rfl,rfl,h1,h2⟩|⟨rfl,rfl,rfl,rfl,h1⟩|⟨rfl,rfl,rfl,rfl,hm⟩|⟨rfl,hN,hl,rfl,rfl,hm⟩
      · have e : txt (.mk 1 n [] [] []) = Lib.itoa n := by unfold txt; simp
        obtain⟨u,rfl⟩: ∃u:Nat,n=u:=⟨n.toNat,by omega⟩
        rw [e,Lib.itoa_nonneg]
        obtain⟨a1,a2,a3,_⟩:=qoe u
        cases hq:Lib.decDigits u with
        |nil=>exact absurd hq a3
        | cons b r =>
          rw [hq] at a1
          simp only [List.all_cons,Bool.and_eq_true] at a1
          exact⟨b,r,rfl,fun _=>a1.1,fun h=>by simp [GVal.kind] at h,fun h=>by simp [GVal.kind] at h,fun h=>by simp [GVal.kind] at h⟩
      · have e : txt (.mk 2 0 s [] []) = quo s := by unfold txt; simp
        rw [e]
        exact⟨34,s++[34],by simp [quo],fun h=>by simp [GVal.kind] at h,fun _=>rfl,fun h=>by simp [GVal.kind] at h,fun h=>by simp [GVal.kind] at h⟩
      · rw [xt (by omega) (by omega)]
        exact⟨91,jr true (q6 3 items [])++[93],by simp,fun h=>by simp [GVal.kind] at h,fun h=>by simp [GVal.kind] at h,fun _=>rfl,fun h=>by simp [GVal.kind] at h⟩
      · rw [xt (by omega) (by omega)]
        exact⟨123,jr true (q6 4 items names)++[125],by simp,fun h=>by simp [GVal.kind] at h,fun h=>by simp [GVal.kind] at h,fun h=>by simp [GVal.kind] at h,fun _=>rfl⟩
theorem q4i{d:Nat}{v:GVal}(h:okV d v=true):v.kind=1∨v.kind=2∨v.kind=3∨v.kind=4:=by
  cases d with
  |zero=>simp [okV] at h
  | succ d =>
    obtain⟨_,hc⟩:=qhj h
    rcases hc with h|h|h|h
    · exact .inl h.1
    · exact .inr (.inl h.1)
    · exact .inr (.inr (.inl h.1))
    · exact .inr (.inr (.inr h.1))
def jan(rest:Str):Prop:= ∀b r,rest=b::r→dg b=false
theorem q7i(l:List Str)(e:UInt8)(he:dg e=false)(rest:Str):jan (jr false l++e::rest):=by
  intro b r h
  cases l with
  |nil=>simp [jr] at h;rw [←h.1];exact he
  |cons x q=>simp [jr] at h;rw [←h.1];decide
theorem qx6 {d : Nat} (hd : d ≤ 6) {k : Int} {e : UInt8} (hk : (k = 3 ∧ e = 93) ∨ (k = 4 ∧ e = 125)) (c2 : GVal) {items : List GVal} {names : List Str} (hi : items.length ≤ 16)
    (h4:k=4→names.length=items.length∧∀x∈names,okW x=true) (h3:k=3→names=[]) (hok: ∀x∈items,okV d x=true)
    (hv: ∀v,okV d v=true→∀rest,jan rest→(txt v++rest).length≤4096→z06 ((d:Int),txt v++rest)=some (.inr (v,rest))) (rest:Str):
    ∀(m i:Nat),i+m=items.length→(jr (decide (i=0)) ((q6 k items names).drop i)++e::rest).length≤4096→
    kr (((d:Int)+1,(e.toNat:Int)),(jr (decide (i=0)) ((q6 k items names).drop i)++e::rest,((k,((0:Int),[])),(c2,(items.take i,names.take i)))))=
      some (.inr ((e.toNat:Int),(e::rest,(c2,((k,((0:Int),[])),(items,names)))))):=by
  have h4':k=4→names.length=items.length:=fun h=>(h4 h).1
  have hed:dg e=false:=by rcases hk with⟨_,rfl⟩|⟨_,rfl⟩ <;>rfl
  have he44:(44:Int)≠(e.toNat:Int):=by rcases hk with⟨_,rfl⟩|⟨_,rfl⟩ <;>decide
  intro m
  induction m with
  | zero =>
    intro i hi' hlen
    have hi1:items.take i=items:=List.take_of_length_le (by omega)
    have hn1:names.take i=names:=by
      rcases hk with⟨h,_⟩|⟨h,_⟩
      · rw [h3 h];simp
      · exact List.take_of_length_le (by rw [h4' h];omega)
    rw [List.drop_of_length_le (by rw [yf _ _ _ h4'];omega),hi1,hn1,qrc]
    simp only [jr,List.nil_append,ye,sb,Sum.elim_inr,bne_self_eq_false,Bool.false_eq_true,if_false,jq]
  | succ m ih =>
    intro i hi' hlen
    have hlt:i<items.length:=by omega
    have hp:=qt9 h4' hlt
    have hpl:=yf k items names h4'
    have hpd:(q6 k items names).drop i=(if k=4 then qa1 (elt .str names i) (txt items[i]) else txt items[i])::(q6 k items names).drop (i+1):=by
      rw [xg (by omega)]
      congr 1
      rw [List.getElem?_eq_getElem (by omega)] at hp
      exact Option.some.inj hp
    have hw:w64 ((d:Int)+1-1)=(d:Int):=by rw [qx (by omega)];omega
    have hz:decide (i+1=0)=false:=by simp
    have ih:=ih (i+1) (by omega)
    rw [hz] at ih
    rw [hpd] at hlen ⊢
    have hx:=hok _ (List.getElem_mem hlt)
    have hti:items.take (i+1)=items.take i++[items[i]]:=List.take_succ_eq_append_getElem hlt
    have hs3:qq ((items.take i).length+[items[i]].length) 80:=qfq (by simp;omega) (by omega)
    have hle:((items.take i++[items[i]]).length:Int)≤16:=by simp;omega
    have hle': ¬((items.take i++[items[i]]).length:Int)>16:=by omega
    have hnd:=q7i ((q6 k items names).drop (i+1)) e hed rest
    -- what the member leads to
    have hK: ∀y:Str,y=(if k=4 then qa1 (elt .str names i) (txt items[i]) else txt items[i])++(jr false ((q6 k items names).drop (i+1))++e::rest)→y.length≤4096→
        q0g ((d:Int)+1) (e.toNat:Int) (k,((0:Int),[])) c2 (items.take i) (names.take i) y=some (.inr ((e.toNat:Int),(e::rest,(c2,((k,((0:Int),[])),(items,names)))))):=by
      intro y hy hyl
      unfold q0g
      rw [hw]
      rcases hk with⟨rfl,rfl⟩|⟨rfl,rfl⟩
      · have hn0 := h3 rfl
        subst hn0
        have hy:y=txt items[i]++(jr false ((q6 3 items []).drop (i+1))++93::rest):=hy
        subst hy
        rw [if_neg (by simp),hv _ hx _ hnd hyl,sb]
        simp only [Sum.elim_inr,jq]
        rw [if_pos hs3,decide_eq_false hle',if_neg (by simp),←hti]
        have hlen':(jr false ((q6 3 items []).drop (i+1))++93::rest).length≤4096:=by
          rw [List.length_append] at hyl ⊢
          rw [List.length_append] at hyl
          omega
        have:=ih hlen'
        simp only [List.take_nil] at this ⊢
        exact this
      · have hn : i < names.length := by rw [h4' rfl]; exact hlt
        have hwd:=(h4 rfl).2 _ (List.getElem_mem hn)
        rw [qg8 hn] at hy
        have hy:y=quo names[i]++(58::(txt items[i]++(jr false ((q6 4 items names).drop (i+1))++125::rest))):=by
          rw [hy]
          simp [qa1]
        subst hy
        rw [if_pos (by simp),qph hwd hyl,sb]
        simp only [Sum.elim_inr]
        have hs4:qq ((names.take i).length+[names[i]].length) 16:=qfq (by simp;omega) (by omega)
        rw [if_pos hs4,zi,sb,if_pos (by rfl)]
        simp only [Sum.elim_inr]
        have hlen':(txt items[i]++(jr false ((q6 4 items names).drop (i+1))++125::rest)).length≤4096:=by
          rw [List.length_append,List.length_cons] at hyl
          omega
        rw [hv _ hx _ hnd hlen',sb]
        simp only [Sum.elim_inr,jq]
        rw [if_pos hs3,decide_eq_false hle',if_neg (by simp),←hti]
        have hni:names.take i++[names[i]]=names.take (i+1):=(List.take_succ_eq_append_getElem hn).symm
        rw [hni]
        refine ih ?_
        rw [List.length_append] at hlen'
        omega
    rw [qrc]
    by_cases hi0:i=0
    · subst hi0
      have hc:jr (decide (0=0)) ((if k=4 then qa1 (elt .str names 0) (txt items[0]) else txt items[0])::(q6 k items names).drop (0+1))++e::rest
          =(if k=4 then qa1 (elt .str names 0) (txt items[0]) else txt items[0])++(jr false ((q6 k items names).drop (0+1))++e::rest):=by
        simp [jr]
      rw [hc] at hlen ⊢
      have hK:=hK _ rfl hlen
      have hhead: ∃b r,(if k=4 then qa1 (elt .str names 0) (txt items[0]) else txt items[0])=b::r∧(b.toNat:Int)≠(e.toNat:Int):=by
        rcases hk with⟨rfl,rfl⟩|⟨rfl,rfl⟩
        · obtain ⟨b, r, h1, g1, g2, g3, g4⟩ := qux hx
          refine⟨b,r,h1, ?_⟩
          rcases q4i hx with q|q|q|q
          · have := qd6.1 (g1 q)
            have e93:((93:UInt8).toNat:Int)=93:=rfl
            omega
          · rw [g2 q];decide
          · rw [g3 q];decide
          · rw [g4 q];decide
        · exact⟨34,(elt .str names 0:Str)++([34]:Str)++([58]:Str)++txt items[0],by simp [qa1,quo],by decide⟩
      obtain⟨b,r,hb,hne⟩:=hhead
      rw [hb] at hK ⊢
      rw [List.cons_append,ye,sb]
      have hne':((b.toNat:Int) !=(e.toNat:Int))=true:=by simpa using hne
      simp only [Sum.elim_inr,hne',if_true,List.take_zero,List.length_nil]
      exact hK
    · have hd0 : decide (i = 0) = false := by simp [hi0]
      rw [hd0] at hlen ⊢
      have hc:jr false ((if k=4 then qa1 (elt .str names i) (txt items[i]) else txt items[i])::(q6 k items names).drop (i+1))++e::rest
          =44::((if k=4 then qa1 (elt .str names i) (txt items[i]) else txt items[i])++(jr false ((q6 k items names).drop (i+1))++e::rest)):=by
        simp [jr]
      rw [hc] at hlen ⊢
      rw [ye,sb]
      have hne':(((44:UInt8).toNat:Int) !=(e.toNat:Int))=true:=by simpa using he44
      have hg:((items.take i).length:Int)>0:=by simp;omega
      simp only [Sum.elim_inr,hne',if_true,hg,decide_true]
      rw [zi,sb,if_pos (by rfl)]
      simp only [Sum.elim_inr]
      exact hK _ rfl (by rw [List.length_cons] at hlen;omega)
theorem qw7 : ∀ (d : Nat), d ≤ 6 → ∀ v, okV d v = true → ∀ rest, jan rest → (txt v ++ rest).length ≤ 4096 → z06 ((d : Int), txt v ++ rest) = some (.inr (v, rest)) := by
  intro d
  induction d with
  |zero=>intro _ v h;simp [okV] at h
  | succ d ih =>
    intro hd v hv rest hr hlen
    have hh:=qux hv
    cases v with
    | mk k n s items names =>
      obtain⟨hi,hc⟩:=qhk hv
      rw [show((d+1:Nat):Int)=(d:Int)+1 by omega,qxa]
      unfold q5y
      have h0:((d:Int)+1==0)=false:=by simpa using(show¬(d:Int)+1=0 by omega)
      simp only [h0,Bool.false_eq_true,if_false]
      obtain⟨b,r,hb,g1,g2,g3,g4⟩:=hh
      rw [hb] at hlen ⊢
      rw [List.cons_append] at hlen ⊢
      rw [ye,sb]
      simp only [Sum.elim_inr]
      have hb':b::(r++rest)=txt (.mk k n s items names)++rest:=by rw [hb];rfl
      rcases hc with⟨rfl,rfl,rfl,rfl,h1,h2⟩|⟨rfl,rfl,rfl,rfl,h1⟩|⟨rfl,rfl,rfl,rfl,hm⟩|⟨rfl,hN,hl,rfl,rfl,hm⟩
      · have hd := qd6.1 (g1 rfl)
        have q1:((b.toNat:Int)==34)=false:=by rw [beq_eq_false_iff_ne];omega
        have q2:((b.toNat:Int)==91)=false:=by rw [beq_eq_false_iff_ne];omega
        have q3:((b.toNat:Int)==123)=false:=by rw [beq_eq_false_iff_ne];omega
        simp only [q1,q2,q3,Bool.false_eq_true,if_false]
        have e:txt (.mk 1 n [] [] [])=Lib.itoa n:=by unfold txt;simp
        rw [e] at hb'
        rw [hb'] at hlen ⊢
        rw [qw9 h1 h2 hr (by omega),sb]
        rfl
      · have := g2 rfl
        subst this
        have e:txt (.mk 2 0 s [] [])=quo s:=by unfold txt;simp
        rw [e] at hb'
        rw [hb'] at hlen ⊢
        rw [if_pos (by rfl),qph h1 hlen,sb]
        rfl
      · have := g3 rfl
        subst this
        have hb2:r++rest=jr true (q6 3 items [])++93::rest:=by
          rw [xt (by omega) (by omega)] at hb'
          simp at hb'
          exact hb'
        rw [hb2] at hlen ⊢
        rw [if_neg (by decide),if_pos (by rfl)]
        rw [qxc]
        unfold q1g
        have h1:(1:Int)≤(((91:UInt8)::(jr true (q6 3 items [])++93::rest):Str).length:Int):=by rw [List.length_cons];omega
        simp only [h1,Int.le_refl,if_true,Int.toNat_natCast,List.take_length,List.drop_succ_cons,List.drop_zero]
        have hL:=qx6 (k:=3) (e:=93) (by omega) (.inl ⟨rfl,rfl⟩) (GVal.mk 0 0 [] [] []) (names:=[]) hi (by intro h;omega) (fun _=>rfl) hm (ih (by omega)) rest items.length 0 (by omega) (by
          rw [List.drop_zero]
          rw [List.length_cons] at hlen
          simp only [decide_true]
          omega)
        simp only [decide_true,List.drop_zero,List.take_zero] at hL
        have hL:kr (((d:Int)+1,(93:Int)),(jr true (q6 3 items [])++93::rest,(((3:Int),((0:Int),[])),(GVal.mk 0 0 [] [] [],([],[])))))=some (.inr ((93:Int),(93::rest,(GVal.mk 0 0 [] [] [],(((3:Int),((0:Int),[])),(items,[])))))):=hL
        rw [hL,sb]
        simp only [Sum.elim_inr,zi]
        rw [sb,if_pos (by rfl),Sum.elim_inr,sb,Sum.elim_inr,jq]
      · have := g4 rfl
        subst this
        have hb2:r++rest=jr true (q6 4 items names)++125::rest:=by
          rw [xt (by omega) (by omega)] at hb'
          simp at hb'
          exact hb'
        rw [hb2] at hlen ⊢
        rw [if_neg (by decide),if_neg (by decide),if_pos (by rfl)]
        rw [qxc]
        unfold q1g
        have h1:(1:Int)≤(((123:UInt8)::(jr true (q6 4 items names)++125::rest):Str).length:Int):=by rw [List.length_cons];omega
        simp only [h1,Int.le_refl,if_true,Int.toNat_natCast,List.take_length,List.drop_succ_cons,List.drop_zero]
        have hL:=qx6 (k:=4) (e:=125) (by omega) (.inr ⟨rfl,rfl⟩) (GVal.mk 0 0 [] [] []) (names:=names) hi (fun _=>⟨hl,qlc hN⟩) (by intro h;omega) hm (ih (by omega)) rest items.length 0 (by omega) (by
          rw [List.drop_zero]
          rw [List.length_cons] at hlen
          simp only [decide_true]
          omega)
        simp only [decide_true,List.drop_zero,List.take_zero] at hL
        have hL:kr (((d:Int)+1,(125:Int)),(jr true (q6 4 items names)++125::rest,(((4:Int),((0:Int),[])),(GVal.mk 0 0 [] [] [],([],[])))))=some (.inr ((125:Int),(125::rest,(GVal.mk 0 0 [] [] [],(((4:Int),((0:Int),[])),(items,names)))))):=hL
        rw [hL,sb]
        simp only [Sum.elim_inr,zi]
        rw [sb,if_pos (by rfl),Sum.elim_inr,sb,Sum.elim_inr,jq]
theorem ql0{v:GVal}(h:okV 6 v=true)(hl:(txt v).length≤4096):z06 ((6:Int),txt v)=some (.inr (v,[])):=by
  have:=qw7 6 (by omega) v h [] (by intro b r q;cases q) (by simpa using hl)
  rw [List.append_nil] at this
  exact this
theorem qys{v w:GVal}(hv:okV 6 v=true)(hw:okV 6 w=true)(hl:(txt v).length≤4096)(h:txt v=txt w):v=w:=by
  have h1:=ql0 hv hl
  have h2:=ql0 hw (by rw [←h];exact hl)
  rw [h,h2] at h1
  injection h1 with h1
  injection h1 with h1
  injection h1 with h1
  exact h1.symm
def qot(s:Str)(v:GVal):Prop:=okV 6 v=true∧txt v=s
theorem jbm {s : Str} : ∃ r, z2e s = some r ∧ (if s.length > 4096 then r = (GVal.mk 0 0 [] [] [], 2) else (qot s r.1 ∧ inV r.1 ∧ r.2 = 0) ∨ ((∀ v, ¬ qot s v) ∧ r = (GVal.mk 0 0 [] [] [], 6))) := by
  unfold z2e
  by_cases hl:s.length>4096
  · have : (s.length : Int) > 4096 := by omega
    simp only [this,decide_true,if_true,hl]
    exact⟨_,rfl,rfl⟩
  · have hl' : ¬ (s.length : Int) > 4096 := by omega
    simp only [hl',decide_false,Bool.false_eq_true,if_false,hl]
    obtain⟨r,h1,h2⟩:=q1e 6 (by omega) s (by omega)
    have h1:z06 ((6:Int),s)=some r:=h1
    have hno:(∀v,qot s v→r= .inr (v,[])):=by
      rintro v ⟨q1,q2⟩
      have:=ql0 q1 (by rw [q2];omega)
      rw [q2,h1] at this
      exact Option.some.inj this
    rw [h1,sb]
    cases r with
    | inl y =>
      refine⟨_,rfl,.inr ⟨fun v hv=> ?_,rfl⟩⟩
      have:=hno v hv
      cases this
    | inr q =>
      obtain⟨v,t⟩:=q
      have hvv:=(h2 v t rfl).1
      simp only [Sum.elim_inr,jq,q56 hvv,sb]
      have hno: ∀x,qot s x→v=x:=fun x hx=>by
        have:=hno x hx
        injection this with this
        injection this
      by_cases ok:okV 6 v=true
      · by_cases lg : (txt v).length > 4096
        · simp only [ok, lg, if_true]
          rw [if_pos (by decide)]
          refine⟨_,rfl,.inr ⟨fun x hx=> ?_,rfl⟩⟩
          have:=hno x hx
          subst this
          rw [hx.2] at lg
          omega
        · simp only [ok, lg, if_true, if_false]
          rw [if_neg (by decide)]
          by_cases eq:txt v=s
          · rw [if_neg (by simp [eq])]
            exact⟨_,rfl,.inl ⟨⟨ok,eq⟩,hvv,rfl⟩⟩
          · rw [if_pos (by simpa using eq)]
            refine⟨_,rfl,.inr ⟨fun x hx=> ?_,rfl⟩⟩
            have:=hno x hx
            subst this
            exact eq hx.2
      · have ok : okV 6 v = false := by simpa using ok
        simp only [ok,Bool.false_eq_true,if_false]
        rw [if_pos (by decide)]
        refine⟨_,rfl,.inr ⟨fun x hx=> ?_,rfl⟩⟩
        have:=hno x hx
        subst this
        rw [hx.1] at ok
        cases ok
end Go.Plain
namespace Go.Plain
open Go.AM
open Classical
theorem qfi(d:Nat)(s:Str):okV (d+1) (.mk 2 0 s [] [])=okW s:=by
  simp [okV,GVal.items,GVal.kind,GVal.names,GVal.s,GVal.n]
end Go.Plain
namespace Go.Plain
open Go.AM
open Classical
end Go.Plain
namespace Go.Plain
open Go.AM
open Classical
end Go.Plain
namespace Go.Plain
open Go.AM
open Classical
theorem qip: ∀a:Str,Op.bytesLess a a=false
  |[]=>rfl
  |x::a=>by simp [Op.bytesLess,qip a]
theorem we: ∀a b c:Str,Op.bytesLess a b=true→Op.bytesLess b c=true→Op.bytesLess a c=true
  |[],[],_,h,_=>by simp [Op.bytesLess] at h
  |[],_::_,[],_,h=>by simp [Op.bytesLess] at h
  |[],_::_,_::_,_,_=>rfl
  |_::_,[],_,h,_=>by simp [Op.bytesLess] at h
  |_::_,_::_,[],_,h=>by simp [Op.bytesLess] at h
  | x :: a, y :: b, z :: c, h1, h2 => by
    simp only [qc0,Bool.or_eq_true,Bool.and_eq_true,decide_eq_true_eq,beq_iff_eq,UInt8.lt_iff_toNat_lt] at h1 h2 ⊢
    rcases h1 with h1|⟨rfl,h1⟩
    · rcases h2 with h2 | ⟨rfl, h2⟩
      · exact .inl (by omega)
      · exact .inl h1
    · rcases h2 with h2 | ⟨rfl, h2⟩
      · exact .inl h2
      · exact .inr ⟨rfl,we a b c h1 h2⟩
theorem qo0: ∀{l:List Str} {p:Str},qhi (some p) l=true→∀x∈l,Op.bytesLess p x=true
  |[],_,_,x,hx=>by cases hx
  | y :: r, p, h, x, hx => by
    unfold qhi at h
    simp only [Bool.and_eq_true] at h
    rcases List.mem_cons.1 hx with rfl|hx
    · exact h.1.2
    · exact we p y x h.1.2 (qo0 h.2 x hx)
theorem qlb : ∀ {l : List Str} {p : Option Str}, qhi p l = true → ∀ (i j : Nat) (x : Str), l[i]? = some x → l[j]? = some x → i = j
  |[],_,_,i,j,x,hi,_=>by simp at hi
  | y :: r, p, h, i, j, x, hi, hj => by
    unfold qhi at h
    simp only [Bool.and_eq_true] at h
    have hne: ∀n,r[n]? =some y→False:=fun n hn=>by
      have:=qo0 h.2 y (List.mem_of_getElem? hn)
      rw [qip] at this
      cases this
    cases i with
    | zero =>
      cases j with
      |zero=>rfl
      | succ j =>
        simp at hi hj
        subst hi
        exact(hne j hj).elim
    | succ i =>
      cases j with
      | zero =>
        simp at hi hj
        subst hj
        exact(hne i hi).elim
      | succ j =>
        simp at hi hj
        rw [qlb h.2 i j x hi hj]
theorem qtg {l : List Str} (hl : l.length ≤ 9223372036854775807) (nm : Str) : ∀ (m i : Nat), i + m = l.length →
    ∃r,qmx ((i:Int),(l,(nm,(l.length:Int))))=some r∧((r= .inr ()∧∀j,i≤j→l[j]? ≠some nm)∨∃j:Nat,r= .inl (j:Int)∧l[j]? =some nm):=by
  intro m
  induction m with
  | zero =>
    intro i hi
    rw [qpx]
    unfold qgj
    have: ¬((i:Int)<(l.length:Int)):=by omega
    simp only [this,decide_false,Bool.false_eq_true,if_false]
    exact⟨_,rfl,.inl ⟨rfl,fun j hj=>by rw [List.getElem?_eq_none (by omega)];simp⟩⟩
  | succ m ih =>
    intro i hi
    have hlt:i<l.length:=by omega
    have h1:(i:Int)<(l.length:Int):=by omega
    have h0:(0:Int)≤(i:Int):=by omega
    have hw:w64 ((i:Int)+1)=((i+1:Nat):Int):=by rw [qx (by omega)];omega
    rw [qpx]
    unfold qgj
    simp only [h1,h0,decide_true,if_true,Int.toNat_natCast,qg8 hlt,hw]
    by_cases e:nm=l[i]
    · rw [if_pos (by simp [e])]
      exact⟨_,rfl,.inr ⟨i,rfl,by rw [List.getElem?_eq_getElem hlt,e]⟩⟩
    · rw [if_neg (by simpa using e)]
      obtain⟨r,q1,q2⟩:=ih (i+1) (by omega)
      refine⟨r,q1, ?_⟩
      rcases q2 with⟨q,q'⟩|q
      · refine .inl ⟨q, fun j hj => ?_⟩
        rcases Nat.eq_or_lt_of_le hj with rfl|hj
        · rw [List.getElem?_eq_getElem hlt]
          intro h
          injection h with h
          exact e h.symm
        · exact q' j (by omega)
      · exact .inr q
theorem qtf{l:List Str}(hl:l.length≤9223372036854775807)(nm:Str): ∃r,z0q (l,nm)=some r∧((r= -1∧∀j:Nat,l[j]? ≠some nm)∨∃j:Nat,r=(j:Int)∧l[j]? =some nm):=by
  obtain⟨r,h1,h2⟩:=qtg hl nm l.length 0 (by omega)
  have h1:qmx ((0:Int),(l,(nm,(l.length:Int))))=some r:=h1
  unfold z0q
  simp only [h1,sb]
  rcases h2 with⟨rfl,h2⟩|⟨j,rfl,h2⟩
  · exact⟨_,rfl,.inl ⟨rfl,fun j=>h2 j (by omega)⟩⟩
  · exact⟨_,rfl,.inr ⟨j,rfl,h2⟩⟩
theorem qvg{v:GVal}(hv:inV v)(h4:v.kind=4→v.names.length=v.items.length)(nm:Str)(kind:Int): ∃x f,z0o (v,(nm,kind))=some (x,f)∧
    ((f = 8 ∧ x = .mk 0 0 [] [] [] ∧ (v.kind = 4 → okN v.names = true → ∀ (j : Nat) (y : GVal), v.names[j]? = some nm → v.items[j]? = some y → y.kind ≠ kind)) ∨
     (f=0∧v.kind=4∧∃j:Nat,v.names[j]? =some nm∧v.items[j]? =some x∧x.kind=kind)):=by
  obtain⟨_,_,_,hnl⟩:=qhf hv
  obtain⟨r,h1,h2⟩:=qtf hnl nm
  unfold z0o
  dsimp only
  rw [h1,sb]
  by_cases k4:v.kind=4
  case neg=>
    rw [if_pos (by simpa using k4)]
    exact⟨_,_,rfl,.inl ⟨rfl,rfl,fun h=>absurd h k4⟩⟩
  have hll:=h4 k4
  rw [if_neg (by simp [k4]),if_neg (by simp [hll])]
  rcases h2 with⟨rfl,h2⟩|⟨j,rfl,h2⟩
  · rw [if_pos (by decide)]
    exact⟨_,_,rfl,.inl ⟨rfl,rfl,fun _ _ j y hj _=>absurd hj (h2 j)⟩⟩
  · have hjl : j < v.names.length := by
      rcases Nat.lt_or_ge j v.names.length with q|q
      · exact q
      · rw [List.getElem?_eq_none q] at h2;cases h2
    have hji:j<v.items.length:=by omega
    rw [if_neg (by rw [decide_eq_true_eq];omega),if_pos (by omega),if_pos (by omega)]
    simp only [Int.toNat_natCast,qqu hji]
    by_cases kk:v.items[j].kind=kind
    · rw [if_neg (by simp [kk]), if_pos (by omega), if_pos (by omega), jq]
      exact⟨_,_,rfl,.inr ⟨rfl,k4,j,h2,by rw [List.getElem?_eq_getElem hji],kk⟩⟩
    · rw [if_pos (by simpa using kk)]
      refine⟨_,_,rfl,.inl ⟨rfl,rfl,fun _ hN i y hi hy=> ?_⟩⟩
      have:=qlb hN i j nm hi h2
      subst this
      rw [List.getElem?_eq_getElem hji] at hy
      injection hy with hy
      rw [←hy]
      exact kk
end Go.Plain
