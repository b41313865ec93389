import Derived.Test.YtjmmcdbogbpedaaGreatDoorPrn
import Derived.IntWalk
import Derived.Test.YtjmmcdbogbpedaaGreatDoorBMTrod
import Derived.Lib.ItoaLen
namespace Go.Plain
open Go.AM
theorem qh{n:Int}(h: -9223372036854775808≤n∧n≤9223372036854775807):w64 n=n:=Go.IntWalk.i64_in n h
theorem ww{s:Str}{i:Nat}(h:i<s.length):bt s (i:Int)=((s[i]).toNat:Int):=by
  unfold bt
  simp [List.getD_eq_getElem?_getD,List.getElem?_eq_getElem h]
theorem jb{α:Type}{s:List α}{i:Nat}(h:i<s.length):s.drop i=s[i]::s.drop (i+1):=(List.drop_eq_getElem_cons h)
def okC(b:UInt8):Bool:= !(decide (b.toNat<32)||decide (b.toNat>126)||decide (b.toNat=34)||decide (b.toNat=92))
def okW(s:Str):Bool:=s.all okC&&decide (s.length≤200)
theorem q85 {s : Str} (hs : s.length ≤ 9223372036854775807) : ∀ (n i : Nat), i + n = s.length → qys ((i : Int), s) = some (if (s.drop i).all okC then .inr s else .inl false) := by
  intro n
  induction n with
  | zero =>
    intro i hi
    rw [qvd]
    unfold qi4
    have: ¬((i:Int)<(s.length:Int)):=by omega
    simp only [this,decide_false,Bool.false_eq_true,if_false]
    rw [List.drop_of_length_le (by omega)]
    rfl
  | succ n ih =>
    intro i hi
    have hlt:i<s.length:=by omega
    have h1:(i:Int)<(s.length:Int):=by omega
    have h0:(0:Int)≤(i:Int):=by omega
    rw [qvd]
    unfold qi4
    simp only [h1,h0,decide_true,if_true,ww hlt]
    rw [jb hlt,List.all_cons]
    have hw:w64 ((i:Int)+1)=((i+1:Nat):Int):=by rw [qh (by omega)];omega
    rw [hw,ih (i+1) (by omega)]
    generalize s[i]=b
    by_cases q1:b.toNat<32
    · have : ((b.toNat : Int) < 32) := by omega
      simp [okC,q1,this]
    · have k1 : ¬ ((b.toNat : Int) < 32) := by omega
      by_cases q2:b.toNat>126
      · have : ((b.toNat : Int) > 126) := by omega
        simp [okC,q2,k1,this]
      · have k2 : ¬ ((b.toNat : Int) > 126) := by omega
        by_cases q3:b.toNat=34
        · simp [okC,k1,k2,q3]
        · have k3 : ¬ ((b.toNat : Int) = 34) := by omega
          by_cases q4:b.toNat=92
          · simp [okC,k1,k2,q4]
          · have k4 : ¬ ((b.toNat : Int) = 92) := by omega
            simp [okC,q1,q2,q3,q4,k1,k2,k3,k4]
theorem jez{s:Str}(hs:s.length≤9223372036854775807):z0v s=some (okW s):=by
  unfold z0v
  rw [show((0:Int),s)=(((0:Nat):Int),s) from rfl,q85 hs s.length 0 (by omega)]
  simp only [List.drop_zero,okW]
  by_cases h:s.all okC=true
  · simp only [h, if_true, Bool.true_and]
    show some (decide ((s.length:Int)≤200))=_
    congr 1
    exact decide_eq_decide.2 (by omega)
  · simp only [h, Bool.false_eq_true, if_false]
    simp [h]
theorem jlm (b : UInt8) : z3e (b.toNat : Int) = some (!okC b) := by
  unfold z3e
  by_cases q1:b.toNat<32
  · have : ((b.toNat : Int) < 32) := by omega
    simp [okC,q1,this]
  · have k1 : ¬ ((b.toNat : Int) < 32) := by omega
    by_cases q2:b.toNat>126
    · have : ((b.toNat : Int) > 126) := by omega
      simp [okC,q2,k1,this]
    · have k2 : ¬ ((b.toNat : Int) > 126) := by omega
      by_cases q3:b.toNat=34
      · simp [okC,q3]
      · have k3 : ¬ ((b.toNat : Int) = 34) := by omega
        by_cases q4:b.toNat=92
        · simp [okC,q4]
        · have k4 : ¬ ((b.toNat : Int) = 92) := by omega
          simp [okC,q1,q2,q3,q4,k1,k2,k3,k4]
theorem gq(s:Str):(qj s).length=s.length:=by simp [qj]
theorem q1n{s:Str}{i:Nat}(h:i<s.length):elt (.int .u8) (qj s) i=((s[i]).toNat:Int):=by
  unfold elt qj
  simp [List.getD_eq_getElem?_getD,h]
theorem jcw{s:Str}(hs:s.length≤9223372036854775807): ∀(n i:Nat),i+n=s.length→
    if(s.drop i).all okC then qr9 ((i:Int),(qj s,(s.length:Int)))=some (.inr ()) else∃k:Nat,qr9 ((i:Int),(qj s,(s.length:Int)))=some (.inl (k:Int)):=by
  intro n
  induction n with
  | zero =>
    intro i hi
    rw [List.drop_of_length_le (by omega)]
    rw [qwd]
    unfold qj5
    have: ¬((i:Int)<(s.length:Int)):=by omega
    simp [this]
  | succ n ih =>
    intro i hi
    have hlt:i<s.length:=by omega
    have h1:(i:Int)<(s.length:Int):=by omega
    have h0:(0:Int)≤(i:Int):=by omega
    have ih:=ih (i+1) (by omega)
    rw [qwd]
    unfold qj5
    simp only [h1,h0,decide_true,if_true,gq,Int.toNat_natCast,q1n hlt,jlm]
    rw [jb hlt,List.all_cons]
    have hw:w64 ((i:Int)+1)=((i+1:Nat):Int):=by rw [qh (by omega)];omega
    rw [hw]
    cases hb:okC s[i] with
    |true=>simpa [hb] using ih
    |false=>exact⟨i,rfl⟩
theorem je5{s:Str}(hs:s.length≤9223372036854775807):z2c s=some (okW s):=by
  unfold z2c okW
  by_cases hl:s.length≤200
  · have h1 : ((s.length : Int) ≤ 200) := by omega
    simp only [h1,decide_true,if_true,hl,Bool.and_true]
    unfold z3w z29
    have:=jcw hs s.length 0 (by omega)
    rw [List.drop_zero] at this
    rw [gq]
    by_cases h:s.all okC=true
    · rw [if_pos h] at this
      rw [show((0:Int),(qj s,(s.length:Int)))=(((0:Nat):Int),(qj s,(s.length:Int))) from rfl,this,h]
      rfl
    · rw [if_neg h] at this
      obtain⟨k,hk⟩:=this
      rw [show((0:Int),(qj s,(s.length:Int)))=(((0:Nat):Int),(qj s,(s.length:Int))) from rfl,hk]
      have h':s.all okC=false:=by simpa using h
      rw [h']
      show some (!(decide ((k:Int)≥0)))=some false
      have:((k:Int)≥0):=by omega
      simp [this]
  · have h1 : ¬ ((s.length : Int) ≤ 200) := by omega
    simp [h1,hl]
end Go.Plain
namespace Go.Plain
open Go.AM
def qfk(p:Option Str):List Str→Bool
  |[]=>true
  |x::r=>okW x&&(match p with|some q=>Op.bytesLess q x|none=>true)&&qfk (some x) r
def okN(l:List Str):Bool:=qfk none l
def qhn(l:List Str)(i:Nat):Option Str:=match i with|0=>none|j+1=>l[j]?
theorem qbh{l:List Str}{i:Nat}(h:i<l.length):elt .str l i=l[i]:=by
  unfold elt
  simp [List.getD_eq_getElem?_getD,h]
theorem sb{α β:Type}(a:α)(f:α→Option β):(some a>>=f)=f a:=rfl
theorem q87 {l : List Str} (many : Int) (hl : l.length ≤ 9223372036854775807) (hs : ∀ x ∈ l, x.length ≤ 9223372036854775807) : ∀ (n i : Nat), i + n = l.length →
    qrk ((i:Int),(l,(l,(many,(l.length:Int)))))=some (if qfk (qhn l i) (l.drop i) then .inr (many,l) else .inl false):=by
  intro n
  induction n with
  | zero =>
    intro i hi
    rw [List.drop_of_length_le (by omega),qvl]
    unfold qjc
    have: ¬((i:Int)<(l.length:Int)):=by omega
    simp [this,qfk]
  | succ n ih =>
    intro i hi
    have hlt:i<l.length:=by omega
    have h1:(i:Int)<(l.length:Int):=by omega
    have h0:(0:Int)≤(i:Int):=by omega
    have hw:w64 ((i:Int)+1)=((i+1:Nat):Int):=by rw [qh (by omega)];omega
    rw [qvl]
    unfold qjc
    simp only [h1,h0,decide_true,if_true,Int.toNat_natCast,qbh hlt,je5 (hs _ (List.getElem_mem hlt)),hw,ih (i+1) (by omega)]
    rw [jb hlt]
    have hp:qhn l (i+1)=some l[i]:=by simp [qhn,hlt]
    rw [hp]
    simp only [qfk]
    simp only [sb]
    by_cases hb:okW l[i]=true
    case neg=>
      have hb:okW l[i]=false:=by simpa using hb
      simp only [hb,Bool.not_false,if_true,Bool.false_and,Bool.false_eq_true,if_false]
    simp only [hb,Bool.not_true,Bool.false_eq_true,if_false,Bool.true_and]
    match i,hi,hlt,h1,h0,hw,hp,hb with
    |0,_,_,_,_,_,_,_=>simp [qhn]
    | j + 1, hi, hlt, h1, h0, hw, hp, hb =>
      have g1:((j+1:Nat):Int)>0:=by omega
      have g2:w64 (((j+1:Nat):Int)-1)=(j:Int):=by rw [qh (by omega)];omega
      have g3:(j:Int)<(l.length:Int):=by omega
      have hj:j<l.length:=by omega
      have hpj:qhn l (j+1)=some l[j]:=by simp [qhn,hj]
      rw [hpj]
      simp only [g1,g2,g3,decide_true,if_true,Int.toNat_natCast,qbh hj,Int.natCast_nonneg]
      by_cases hq:Op.bytesLess l[j] l[j+1]=true
      · simp only [hq,Bool.not_true,Bool.false_eq_true,if_false,Bool.true_and]
      · have hq : Op.bytesLess l[j] l[j + 1] = false := by simpa using hq
        simp only [hq,Bool.not_false,if_true,Bool.false_and,Bool.false_eq_true,if_false]
theorem jk5{l:List Str}(many:Int)(hl:l.length≤9223372036854775807)(hs: ∀x∈l,x.length≤9223372036854775807):z18 (l,many)=some (okN l&&decide ((l.length:Int)=many)):=by
  change (qrk (((0:Nat):Int),(l,(l,(many,(l.length:Int)))))>>=fun r=>Sum.elim (fun r1=>some r1) (fun r1=>some ((r1.2.length:Int)==r1.1)) r)=_
  have:=q87 many hl hs l.length 0 (by omega)
  rw [List.drop_zero] at this
  rw [this,sb]
  by_cases h:okN l=true
  · have h' : qfk (qhn l 0) l = true := h
    simp only [h',if_true,h,Bool.true_and]
    show some ((l.length:Int)==many)=_
    congr 1
  · have h : okN l = false := by simpa using h
    have h':qfk (qhn l 0) l=false:=h
    simp only [h',Bool.false_eq_true,if_false,h,Bool.false_and]
    rfl
end Go.Plain
namespace Go.Plain
open Go.AM
theorem qq(v:GVal):v.re=v:=by cases v;rfl
theorem qgx{l:List GVal}{i:Nat}(h:i<l.length):elt .val l i=l[i]:=by
  unfold elt
  simp [List.getD_eq_getElem?_getD,h]
def okV : Nat → GVal → Bool
  |0,_=>false
  | d + 1, v => decide (v.items.length ≤ 16) &&
    (if v.kind = 1 then decide (v.items = []) && decide (v.names = []) && decide (v.s = []) && decide (0 ≤ v.n) && decide (v.n ≤ 1099511627776)
     else if v.kind=2 then decide (v.items=[])&&decide (v.names=[])&&decide (v.n=0)&&okW v.s
     else if v.kind=3 then decide (v.names=[])&&decide (v.n=0)&&decide (v.s=[])&&v.items.all (okV d)
     else if v.kind=4 then okN v.names&&decide (v.names.length=v.items.length)&&decide (v.n=0)&&decide (v.s=[])&&v.items.all (okV d)
     else false)
theorem zt: ∀{l:List GVal},qf3 l→∀x∈l,inV x
  |[],_,x,h=>by cases h
  | y :: r, h, x, hx => by
    rcases List.mem_cons.1 hx with rfl|hx
    · exact h.1
    · exact zt h.2 x hx
theorem jf8{d:Nat}(hd:(d:Int)+1≤9223372036854775807){l:List GVal}(hl:l.length≤9223372036854775807)(hm: ∀x∈l,z02 (x,(d:Int))=some (okV d x)): ∀(n i:Nat),i+n=l.length→
    if(l.drop i).all (okV d) then wm (((i:Int),(l,(l.length:Int))),(d:Int)+1)=some (.inr ((d:Int)+1))
    else∃k:Nat,wm (((i:Int),(l,(l.length:Int))),(d:Int)+1)=some (.inl ((k:Int),(d:Int)+1)):=by
  intro n
  induction n with
  | zero =>
    intro i hi
    rw [List.drop_of_length_le (by omega)]
    rw [qu3]
    unfold qir
    have: ¬((i:Int)<(l.length:Int)):=by omega
    simp [this]
  | succ n ih =>
    intro i hi
    have hlt:i<l.length:=by omega
    have h1:(i:Int)<(l.length:Int):=by omega
    have h0:(0:Int)≤(i:Int):=by omega
    have ih:=ih (i+1) (by omega)
    have hw:w64 ((i:Int)+1)=((i+1:Nat):Int):=by rw [qh (by omega)];omega
    have hone:z2f (l[i],(d:Int)+1)=some (!okV d l[i],(d:Int)+1):=by
      rw [jlf]
      unfold jhp
      simp only [qq]
      rw [show w64 ((d:Int)+1-1)=(d:Int) by rw [qh (by omega)];omega,hm _ (List.getElem_mem hlt)]
      rfl
    rw [qu3]
    unfold qir
    simp only [h1,h0,decide_true,if_true,Int.toNat_natCast,qgx hlt,qq,hone,sb]
    rw [jb hlt,List.all_cons,hw]
    by_cases hb:okV d l[i]=true
    · simp only [hb, Bool.not_true, Bool.false_eq_true, if_false, Bool.true_and]
      exact ih
    · have hb : okV d l[i] = false := by simpa using hb
      simp only [hb,Bool.not_false,if_true,Bool.false_and,Bool.false_eq_true,if_false]
      exact⟨i,rfl⟩
theorem jf5{d:Nat}(hd:(d:Int)+1≤9223372036854775807){l:List GVal}(hl:l.length≤9223372036854775807)(hm: ∀x∈l,z02 (x,(d:Int))=some (okV d x)):
    z1c (l,(d:Int)+1)=some (!l.all (okV d),(d:Int)+1):=by
  have:=jf8 hd hl hm l.length 0 (by omega)
  rw [List.drop_zero] at this
  rw [jk7]
  unfold jho
  simp only
  rw [jk1]
  unfold jhk
  by_cases h:l.all (okV d)=true
  · rw [if_pos h] at this
    change (wm ((((0:Nat):Int),(l,(l.length:Int))),(d:Int)+1)>>=_)>>=_=_
    rw [this,h]
    rfl
  · rw [if_neg h] at this
    obtain⟨k,hk⟩:=this
    have h:l.all (okV d)=false:=by simpa using h
    change (wm ((((0:Nat):Int),(l,(l.length:Int))),(d:Int)+1)>>=_)>>=_=_
    rw [hk,h]
    show some (decide ((k:Int)≥0),(d:Int)+1)=_
    have:((k:Int)≥0):=by omega
    simp [this]
theorem jks : ∀ (d : Nat), (d : Int) ≤ 9223372036854775807 → ∀ (v : GVal), inV v → z02 (v, (d : Int)) = some (okV d v) := by
  intro d
  induction d with
  | zero =>
    intro _ v _
    rw [jep]
    unfold jeo
    simp [okV]
  | succ d ih =>
    intro hd v hv
    have hd':(d:Int)+1≤9223372036854775807:=by omega
    cases v with
    | mk kd n s items names =>
      obtain⟨hk,hn,hs,hil,hi,hnl,hns⟩:=hv
      have hm: ∀x∈items,z02 (x,(d:Int))=some (okV d x):=fun x hx=>ih (by omega) x (zt hi x hx)
      have hc:=jf5 hd' hil hm
      have hN:=jk5 (items.length:Int) hnl hns
      rw [show((d+1:Nat):Int)=(d:Int)+1 by omega,jep]
      unfold jeo
      have h0:((d:Int)+1==0)=false:=by simpa using(show¬(d:Int)+1=0 by omega)
      simp only [h0,Bool.false_eq_true,if_false,GVal.kind,GVal.n,GVal.s,GVal.items,GVal.names,hc,hN,je5 hs,sb,okV]
      generalize items.all (okV d)=A
      generalize okN names=B
      by_cases h16:items.length≤16
      case neg=>
        have:(items.length:Int)>16:=by omega
        simp [h16,this]
      have h16': ¬((items.length:Int)>16):=by omega
      simp only [h16,h16',decide_true,decide_false,Bool.false_eq_true,if_false,Bool.true_and]
      have hi0:((items.length:Int)==0)=decide (items=[]):=by cases items <;>simp <;>omega
      have hn0:((names.length:Int)==0)=decide (names=[]):=by cases names <;>simp <;>omega
      have hn1:decide ((names.length:Int)>0)= !decide (names=[]):=by cases names <;>simp <;>omega
      have hnl':decide ((names.length:Int)=(items.length:Int))=decide (names.length=items.length):=decide_eq_decide.2 (by omega)
      have hs0:(s==[])=decide (s=[]):=by cases s <;>simp
      have hs1:(s !=[])= !decide (s=[]):=by cases s <;>simp
      have hz0:(n==0)=decide (n=0):=by by_cases q:n=0 <;>simp [q]
      have hz1:(n !=0)= !decide (n=0):=by by_cases q:n=0 <;>simp [q]
      simp only [hi0,hn0,hn1,hnl',hs0,hs1,hz0,hz1]
      generalize hC:decide (names.length=items.length)=C
      by_cases k1:kd=1
      · subst k1
        by_cases e1:items=[] <;>by_cases e2:names=[] <;>by_cases e3:s=[] <;>by_cases e4:n≥0 <;>simp [e1,e2,e3,e4] <;>omega
      by_cases k2:kd=2
      · subst k2
        by_cases e1:items=[] <;>by_cases e2:names=[] <;>by_cases e3:n=0 <;>simp [e1,e2,e3]
      by_cases k3:kd=3
      · subst k3
        by_cases e1:items=[] <;>by_cases e2:names=[] <;>by_cases e3:n=0 <;>by_cases e4:s=[] <;>simp [e1,e2,e3,e4]
      by_cases k4:kd=4
      · subst k4
        by_cases e1:items=[] <;>by_cases e2:names=[] <;>by_cases e3:n=0 <;>by_cases e4:s=[] <;>cases B <;>cases A <;>cases C <;>simp [e1,e2] at hC <;>simp [e1,e2,e3,e4,hC]
      simp [k1,k2,k3,k4]
end Go.Plain
namespace Go.Plain
open Go.AM
theorem qkm(a b:UInt8)(x y:Str):Op.bytesLess (a::x) (b::y)=(decide (a<b)||(a==b&&Op.bytesLess x y)):=rfl
theorem q86 {a b : Str} (ha : a.length ≤ 9223372036854775807) (hb : b.length ≤ 9223372036854775807) : ∀ (n i : Nat), i + n = a.length → i ≤ b.length →
    ∃r,qrb ((i:Int),(b,a))=some r∧(Sum.elim (fun r1=>some r1) (fun r1=>some (decide ((r1.2.length:Int)<(r1.1.length:Int)))) r:Option Bool)=some (Op.bytesLess (a.drop i) (b.drop i)):=by
  intro n
  induction n with
  | zero =>
    intro i hi hib
    refine⟨.inr (b,a), ?_, ?_⟩
    · rw [qk5]
      unfold qe6
      have: ¬((i:Int)<(a.length:Int)):=by omega
      simp [this]
    · rw [List.drop_of_length_le (l := a) (by omega)]
      simp only [Sum.elim_inr]
      congr 1
      by_cases h:i<b.length
      · rw [jb h]
        simp [Op.bytesLess]
        omega
      · rw [List.drop_of_length_le (by omega)]
        simp [Op.bytesLess]
        omega
  | succ n ih =>
    intro i hi hib
    have hlt:i<a.length:=by omega
    have h1:(i:Int)<(a.length:Int):=by omega
    have h0:(0:Int)≤(i:Int):=by omega
    by_cases hbl:i<b.length
    · have h2 : (i : Int) < (b.length : Int) := by omega
      have hw:w64 ((i:Int)+1)=((i+1:Nat):Int):=by rw [qh (by omega)];omega
      obtain⟨r,hr,hr2⟩:=ih (i+1) (by omega) (by omega)
      rw [qk5]
      unfold qe6
      simp only [h1,h2,h0,decide_true,if_true,ww hlt,ww hbl,hw,hr]
      rw [jb hlt,jb hbl,qkm]
      generalize a[i]=p
      generalize b[i]=q
      by_cases e:p=q
      · subst e
        refine⟨r,by simp, ?_⟩
        rw [hr2]
        have:decide (p<p)=false:=by simp
        rw [this]
        simp
      · have hne : ((p.toNat : Int) != (q.toNat : Int)) = true := by
          rw [bne_iff_ne]
          intro h
          exact e (UInt8.toNat_inj.1 (by omega))
        have hpq:(p==q)=false:=by simpa using e
        refine⟨.inl (decide ((p.toNat:Int)<(q.toNat:Int))),by simp only [hne,if_true], ?_⟩
        simp only [Sum.elim_inl,hpq,Bool.false_and,Bool.or_false]
        congr 1
        exact decide_eq_decide.2 (by rw [UInt8.lt_iff_toNat_lt];omega)
    · have h2 : ¬ ((i : Int) < (b.length : Int)) := by omega
      refine⟨.inr (b,a), ?_, ?_⟩
      · rw [qk5]
        unfold qe6
        simp [h1,h2]
      · rw [List.drop_of_length_le (l := b) (by omega)]
        rw [jb hlt]
        simp only [Sum.elim_inr,Op.bytesLess]
        congr 1
        simp
        omega
theorem qyt{a b:Str}(ha:a.length≤9223372036854775807)(hb:b.length≤9223372036854775807):z0y (a,b)=some (Op.bytesLess a b):=by
  obtain⟨r,h1,h2⟩:=q86 ha hb a.length 0 (by omega) (by omega)
  rw [List.drop_zero,List.drop_zero] at h2
  change (qrb (((0:Nat):Int),(b,a))>>=_)=_
  rw [h1,sb]
  exact h2
theorem q82 {v : GVal} (hl : v.names.length ≤ 9223372036854775807) (hs : ∀ x ∈ v.names, x.length ≤ 9223372036854775807) : ∀ (n i : Nat), i + n = v.names.length →
    je (((i:Int),(v.names,(v.names.length:Int))),v)=some (if qfk (qhn v.names i) (v.names.drop i) then .inr () else .inl false):=by
  intro n
  induction n with
  | zero =>
    intro i hi
    rw [List.drop_of_length_le (by omega),qu1]
    unfold qio
    have: ¬((i:Int)<(v.names.length:Int)):=by omega
    simp [this,qfk]
  | succ n ih =>
    intro i hi
    have hlt:i<v.names.length:=by omega
    have h1:(i:Int)<(v.names.length:Int):=by omega
    have h0:(0:Int)≤(i:Int):=by omega
    have hw:w64 ((i:Int)+1)=((i+1:Nat):Int):=by rw [qh (by omega)];omega
    rw [qu1]
    unfold qio
    simp only [h1,h0,decide_true,if_true,Int.toNat_natCast,qbh hlt,jez (hs _ (List.getElem_mem hlt)),hw,qq,ih (i+1) (by omega)]
    rw [jb hlt]
    have hp:qhn v.names (i+1)=some v.names[i]:=by simp [qhn,hlt]
    rw [hp]
    simp only [qfk,sb]
    by_cases hb:okW v.names[i]=true
    case neg=>
      have hb:okW v.names[i]=false:=by simpa using hb
      simp only [hb,Bool.not_false,if_true,Bool.false_and,Bool.false_eq_true,if_false]
    simp only [hb,Bool.not_true,Bool.false_eq_true,if_false,Bool.true_and]
    match i,hi,hlt,h1,h0,hw,hp,hb with
    |0,_,_,_,_,_,_,_=>simp [qhn]
    | j + 1, hi, hlt, h1, h0, hw, hp, hb =>
      have g1:((j+1:Nat):Int)>0:=by omega
      have g2:w64 (((j+1:Nat):Int)-1)=(j:Int):=by rw [qh (by omega)];omega
      have g3:(j:Int)<(v.names.length:Int):=by omega
      have hj:j<v.names.length:=by omega
      have hpj:qhn v.names (j+1)=some v.names[j]:=by simp [qhn,hj]
      rw [hpj]
      simp only [g1,g2,g3,decide_true,if_true,Int.toNat_natCast,qbh hj,Int.natCast_nonneg,qyt (hs _ (List.getElem_mem hj)) (hs _ (List.getElem_mem hlt)),sb]
      by_cases hq:Op.bytesLess v.names[j] v.names[j+1]=true
      · simp only [hq,Bool.not_true,Bool.false_eq_true,if_false,Bool.true_and]
      · have hq : Op.bytesLess v.names[j] v.names[j + 1] = false := by simpa using hq
        simp only [hq,Bool.not_false,if_true,Bool.false_and,Bool.false_eq_true,if_false]
def okO (v : GVal) : Bool := decide (v.items.length ≤ 16) &&
    (if v.kind = 1 then decide (v.items = []) && decide (v.names = []) && decide (v.s = []) && decide (0 ≤ v.n) && decide (v.n ≤ 1099511627776)
     else if v.kind=2 then decide (v.items=[])&&decide (v.names=[])&&decide (v.n=0)&&okW v.s
     else if v.kind=3 then decide (v.names=[])&&decide (v.n=0)&&decide (v.s=[])
     else if v.kind=4 then okN v.names&&decide (v.names.length=v.items.length)&&decide (v.n=0)&&decide (v.s=[])
     else false)
theorem jgr(d:Nat)(v:GVal):okV (d+1) v=(okO v&&v.items.all (okV d)):=by
  unfold okV okO
  by_cases k1:v.kind=1
  · simp only [k1, if_true]
    by_cases e:v.items=[]
    · simp [e]
    · simp [e]
  by_cases k2:v.kind=2
  · simp only [k2]
    by_cases e:v.items=[]
    · simp [e]
    · simp [e]
  by_cases k3:v.kind=3
  · simp [k3,Bool.and_assoc]
  by_cases k4:v.kind=4
  · simp [k4,Bool.and_assoc]
  simp [k1,k2,k3,k4]
theorem jk0 {v : GVal} (hv : inV v) : z0h v = some (okO v) := by
  cases v with
  | mk kd n s items names =>
    obtain⟨hk,hn,hs,hil,hi,hnl,hns⟩:=hv
    have hL:=q82 (v:= .mk kd n s items names) hnl hns names.length 0 (by simp [GVal.names])
    simp only [GVal.names,List.drop_zero] at hL
    have hL:je (((0:Int),(names,(names.length:Int))),GVal.mk kd n s items names)=some (if okN names then .inr () else .inl false):=hL
    have hfin:(je (((0:Int),(names,(names.length:Int))),GVal.mk kd n s items names)>>=fun r=>(Sum.elim (fun r1=>some r1) (fun r1=>some true) r:Option Bool))=some (okN names):=by
      rw [hL,sb]
      cases okN names <;>rfl
    unfold z0h
    simp only [qq,GVal.kind,GVal.n,GVal.s,GVal.items,GVal.names,hfin,jez hs,sb,okO]
    have hB:names=[]→okN names=true:=by rintro rfl;rfl
    have hW:s=[]→okW s=true:=by rintro rfl;rfl
    generalize okN names=B at hB
    generalize okW s=Wd at hW
    have hi0:decide ((items.length:Int)>0)= !decide (items=[]):=by cases items <;>simp <;>omega
    have hi16:decide ((items.length:Int)>16)= !decide (items.length≤16):=by
      by_cases q:items.length≤16
      · have : ¬ ((items.length : Int) > 16) := by omega
        simp [q,this]
      · have : ((items.length : Int) > 16) := by omega
        simp [q,this]
    have hn1:decide ((names.length:Int)>0)= !decide (names=[]):=by cases names <;>simp <;>omega
    have hnl':((names.length:Int) !=(items.length:Int))= !decide (names.length=items.length):=by
      by_cases q:names.length=items.length
      · simp [q]
      · have : (names.length : Int) ≠ (items.length : Int) := by omega
        simp [q,this]
    have hs1:(s !=[])= !decide (s=[]):=by cases s <;>simp
    have hz1:(n !=0)= !decide (n=0):=by by_cases q:n=0 <;>simp [q]
    simp only [hi0,hi16,hn1,hnl',hs1,hz1]
    by_cases k0:kd<1
    · have k1 : kd ≠ 1 := by omega
      have k2:kd≠2:=by omega
      have k3:kd≠3:=by omega
      have k4:kd≠4:=by omega
      simp [k0,k1,k2,k3,k4]
    by_cases k5:kd>4
    · have k1 : kd ≠ 1 := by omega
      have k2:kd≠2:=by omega
      have k3:kd≠3:=by omega
      have k4:kd≠4:=by omega
      simp [k0,k5,k1,k2,k3,k4]
    have hk4:kd=1∨kd=2∨kd=3∨kd=4:=by omega
    rcases hk4 with rfl|rfl|rfl|rfl
    · by_cases e1:items=[] <;>by_cases e2:names=[] <;>by_cases e3:s=[] <;>by_cases e4:n<0 <;>by_cases e5:n>1099511627776 <;>by_cases e6:items.length≤16 <;>simp [e1,e2,e3,e4,e5,e6,hB,hW] <;>(try omega) <;>(try simp_all) <;>(try exact decide_eq_false (by omega)) <;>(try omega)
    · by_cases e1:items=[] <;>by_cases e2:names=[] <;>by_cases e3:n=0 <;>by_cases e6:items.length≤16 <;>cases Wd <;>simp [e1,e2,e3,e6,hB] <;>simp_all
    · by_cases e2:names=[] <;>by_cases e3:n=0 <;>by_cases e4:s=[] <;>by_cases e6:items.length≤16 <;>simp [e2,e3,e4,e6,hB,hW] <;>simp_all
    · by_cases e3:n=0 <;>by_cases e4:s=[] <;>by_cases e6:items.length≤16 <;>by_cases e7:names.length=items.length <;>cases B <;>simp [e3,e4,e6,e7,hW] <;>(try simp_all)
theorem q8z{d:Nat}(hd:(d:Int)+1≤9223372036854775807){l:List GVal}(hl:l.length≤9223372036854775807)(hm: ∀x∈l,z06 (x,(d:Int))=some (okV d x)): ∀(n i:Nat),i+n=l.length→
    qas ((i:Int),((d:Int)+1,(l,(l.length:Int))))=some (if(l.drop i).all (okV d) then .inr () else .inl false):=by
  intro n
  induction n with
  | zero =>
    intro i hi
    rw [List.drop_of_length_le (by omega),quu]
    unfold qia
    have: ¬((i:Int)<(l.length:Int)):=by omega
    simp [this]
  | succ n ih =>
    intro i hi
    have hlt:i<l.length:=by omega
    have h1:(i:Int)<(l.length:Int):=by omega
    have h0:(0:Int)≤(i:Int):=by omega
    have hw:w64 ((i:Int)+1)=((i+1:Nat):Int):=by rw [qh (by omega)];omega
    have hw2:w64 ((d:Int)+1-1)=(d:Int):=by rw [qh (by omega)];omega
    rw [quu]
    unfold qia
    simp only [h1,h0,decide_true,if_true,Int.toNat_natCast,qgx hlt,qq,hw,hw2,hm _ (List.getElem_mem hlt),sb,ih (i+1) (by omega)]
    rw [jb hlt,List.all_cons]
    by_cases hb:okV d l[i]=true
    · simp only [hb,Bool.not_true,Bool.false_eq_true,if_false,Bool.true_and]
    · have hb : okV d l[i] = false := by simpa using hb
      simp only [hb,Bool.not_false,if_true,Bool.false_and,Bool.false_eq_true,if_false]
theorem jkt: ∀(d:Nat),(d:Int)≤9223372036854775807→∀(v:GVal),inV v→z06 (v,(d:Int))=some (okV d v):=by
  intro d
  induction d with
  | zero =>
    intro _ v _
    rw [jet]
    unfold jes
    simp [okV]
  | succ d ih =>
    intro hd v hv
    have hd':(d:Int)+1≤9223372036854775807:=by omega
    have hi:qf3 v.items:=by cases v;exact hv.2.2.2.2.1
    have hil:v.items.length≤9223372036854775807:=by cases v;exact hv.2.2.2.1
    have hm: ∀x∈v.items,z06 (x,(d:Int))=some (okV d x):=fun x hx=>ih (by omega) x (zt hi x hx)
    rw [show((d+1:Nat):Int)=(d:Int)+1 by omega,jet,jgr]
    unfold jes
    have h0:((d:Int)+1==0)=false:=by simpa using(show¬(d:Int)+1=0 by omega)
    simp only [h0,Bool.false_eq_true,if_false,qq,jk0 hv,sb]
    by_cases hb:okO v=true
    · simp only [hb, Bool.not_true, Bool.false_eq_true, if_false, Bool.true_and]
      change (qas (((0:Nat):Int),((d:Int)+1,(v.items,(v.items.length:Int))))>>=_)=_
      rw [q8z hd' hil hm v.items.length 0 (by omega),sb,List.drop_zero]
      cases v.items.all (okV d) <;>rfl
    · have hb : okO v = false := by simpa using hb
      simp only [hb,Bool.not_false,if_true,Bool.false_and]
theorem jlp{v:GVal}(hv:inV v):z3i v=some (okV 6 v):=by
  change (z06 (v.re,((6:Nat):Int))>>=_)=_
  rw [qq,jkt 6 (by omega) v hv]
  rfl
theorem jlq{v:GVal}(hv:inV v):z3j v=some (okV 6 v):=by
  change (z02 (v.re,((6:Nat):Int))>>=_)=_
  rw [qq,jks 6 (by omega) v hv]
  rfl
end Go.Plain
namespace Go.Plain
open Go.AM
def quo(s:Str):Str:=[34]++s++[34]
def gm(nm t:Str):Str:=quo nm++[58]++t
def jr:Bool→List Str→Str
  |_,[]=>[]
  |b,x::r=>(if b then [] else [44])++x++jr false r
mutual
noncomputable def txt:GVal→Str
  | .mk k n s items names =>
    if k=1 then Lib.itoa n else if k=2 then quo s
    else if k=4 then [123]++jr true (List.zipWith gm names (q8w items))++[125] else [91]++jr true (q8w items)++[93]
noncomputable def q8w:List GVal→List Str
  |[]=>[]
  |x::r=>txt x::q8w r
end
theorem q1v: ∀l:List GVal,q8w l=l.map txt
  |[]=>by unfold q8w;rfl
  |x::r=>by unfold q8w;rw [q1v r];rfl
noncomputable def qm(k:Int)(items:List GVal)(names:List Str):List Str:=if k=4 then List.zipWith gm names (items.map txt) else items.map txt
theorem jgd(l:List Str):Lib.join l [44]=jr true l:=by
  cases l with
  |nil=>rfl
  | cons x r =>
    rw [Lib.join_cons]
    simp only [jr,if_true,List.nil_append]
    congr 1
    induction r with
    |nil=>rfl
    | cons y r ih =>
      simp only [Lib.joinTail,List.map_cons,List.flatten_cons,jr,Bool.false_eq_true,if_false]
      rw [←ih]
      rfl
theorem qxf(M:Nat): ∀(l:List Str) (b:Bool),(∀x∈l,x.length≤M)→(jr b l).length≤l.length*(M+1)
  |[],_,_=>by simp [jr]
  | x :: r, b, h => by
    have h1:=qxf M r false fun y hy=>h y (by simp [hy])
    have h2:=h x (by simp)
    simp only [jr,List.length_append,List.length_cons,Nat.add_mul]
    cases b <;>simp <;>omega
theorem vv(k:Int)(items:List GVal)(names:List Str)(h:k=4→names.length=items.length):(qm k items names).length=items.length:=by
  unfold qm
  split
  · rename_i e
    simp [h e]
  · simp
theorem qoy{k:Int}{items:List GVal}{names:List Str}(h:k=4→names.length=items.length){i:Nat}(hi:i<items.length):
    (qm k items names)[i]? =some (if k=4 then gm (elt .str names i) (txt items[i]) else txt items[i]):=by
  unfold qm
  split
  · rename_i e
    have hn:i<names.length:=by rw [h e];exact hi
    rw [qbh hn]
    simp [List.getElem?_zipWith,hi,hn]
  · simp [hi]
theorem v8{k n:Int}{s:Str}{items:List GVal}{names:List Str}(h1:k≠1)(h2:k≠2):
    txt (.mk k n s items names)=(if k=4 then [123] else [91])++jr true (qm k items names)++(if k=4 then [125] else [93]):=by
  unfold txt qm
  simp only [h1,h2,if_false,q1v]
  split <;>rfl
theorem je8{s:Str}(hs:s.length≤4611686018427387904):z2y s=some (quo s):=by
  unfold z2y quo
  split
  · split
    · rfl
    · rename_i h
      exact absurd (by simp;omega) h
  · rename_i h
    exact absurd (by simp;omega) h
def lim:Nat→Nat
  |0=>0
  |d+1=>300+16*(300+lim d)
theorem qxz{s:Str}(h:okW s=true):s.length≤200:=by
  unfold okW at h
  simp at h
  exact h.2
theorem qhi: ∀{l:List Str} {p:Option Str},qfk p l=true→∀x∈l,okW x=true
  |[],_,_,x,hx=>by cases hx
  | y :: r, p, h, x, hx => by
    unfold qfk at h
    simp at h
    rcases List.mem_cons.1 hx with rfl|hx
    · exact h.1.1
    · exact qhi h.2 x hx
theorem qem{d:Nat}{v:GVal}(h:okV (d+1) v=true):
    v.items.length≤16∧((v.kind=1∧v.items=[]∧v.names=[]∧v.s=[]∧0≤v.n∧v.n≤1099511627776)∨(v.kind=2∧v.items=[]∧v.names=[]∧v.n=0∧okW v.s=true)
      ∨(v.kind=3∧v.names=[]∧v.n=0∧v.s=[]∧∀x∈v.items,okV d x=true)∨(v.kind=4∧okN v.names=true∧v.names.length=v.items.length∧v.n=0∧v.s=[]∧∀x∈v.items,okV d x=true)):=by
  unfold okV at h
  simp only [Bool.and_eq_true,decide_eq_true_eq] at h
  refine⟨h.1, ?_⟩
  have h:=h.2
  split at h
  · rename_i e
    simp only [Bool.and_eq_true,decide_eq_true_eq] at h
    exact .inl ⟨e,h.1.1.1.1,h.1.1.1.2,h.1.1.2,h.1.2,h.2⟩
  split at h
  · rename_i e
    simp only [Bool.and_eq_true,decide_eq_true_eq] at h
    exact .inr (.inl ⟨e,h.1.1.1,h.1.1.2,h.1.2,h.2⟩)
  split at h
  · rename_i e
    simp only [Bool.and_eq_true,decide_eq_true_eq,List.all_eq_true] at h
    exact .inr (.inr (.inl ⟨e,h.1.1.1,h.1.1.2,h.1.2,h.2⟩))
  split at h
  · rename_i e
    simp only [Bool.and_eq_true,decide_eq_true_eq,List.all_eq_true] at h
    exact .inr (.inr (.inr ⟨e,h.1.1.1.1,h.1.1.1.2,h.1.1.2,h.1.2,h.2⟩))
  · exact absurd h (by simp)
theorem qen{d:Nat}{k n:Int}{s:Str}{items:List GVal}{names:List Str}(h:okV (d+1) (.mk k n s items names)=true):
    items.length≤16∧((k=1∧items=[]∧names=[]∧s=[]∧0≤n∧n≤1099511627776)∨(k=2∧items=[]∧names=[]∧n=0∧okW s=true)
      ∨(k=3∧names=[]∧n=0∧s=[]∧∀x∈items,okV d x=true)∨(k=4∧okN names=true∧names.length=items.length∧n=0∧s=[]∧∀x∈items,okV d x=true)):=qem h
theorem qab{n:Int}(h0: -9223372036854775808≤n)(h1:n≤9223372036854775807):xj n=some (Lib.itoa n):=if_pos ⟨h0,h1⟩
theorem qlv{l:List Str}(h0:l.length≤140737488355328)(h1:(jr true l).length≤140737488355328):zv (l,[44])=some (jr true l):=by
  unfold zv
  simp only [jgd]
  exact if_pos ⟨h0,h1⟩
theorem jee{n B:Nat}(h:n≤200)(hB:B≤200):qi n B=true:=by
  unfold qi
  simp
  have:=Nat.mul_le_mul h hB
  omega
theorem qqa{d:Nat}(hd:lim d≤1000000000000){k n:Int}{s:Str}{items:List GVal}{names:List Str}(hi:items.length≤16)(h4:k=4→names.length=items.length)(hns: ∀x∈names,x.length≤200)
    (hm: ∀x∈items,z07 x=some (txt x)∧(txt x).length≤lim d): ∀(m i:Nat) (c:List Str),i+m=items.length→c.length=i→
    xr (((i:Int),(items,(items.length:Int))),(c,.mk k n s items names))=some (.mk k n s items names,c++(qm k items names).drop i):=by
  intro m
  induction m with
  | zero =>
    intro i c hi' hc
    rw [List.drop_of_length_le (by rw [vv _ _ _ h4];omega),qqb]
    unfold qdm
    have: ¬((i:Int)<(items.length:Int)):=by omega
    simp [this,qq]
  | succ m ih =>
    intro i c hi' hc
    have hlt:i<items.length:=by omega
    have h1:(i:Int)<(items.length:Int):=by omega
    have h0:(0:Int)≤(i:Int):=by omega
    have hw:w64 ((i:Int)+1)=((i+1:Nat):Int):=by rw [qh (by omega)];omega
    obtain⟨q1,q2⟩:=hm _ (List.getElem_mem hlt)
    have hpl:=vv k items names h4
    have hp:=qoy h4 hlt
    have hpd:(qm k items names).drop i=(if k=4 then gm (elt .str names i) (txt items[i]) else txt items[i])::(qm k items names).drop (i+1):=by
      rw [jb (by omega)]
      congr 1
      rw [List.getElem?_eq_getElem (by omega)] at hp
      exact Option.some.inj hp
    rw [qqb]
    unfold qdm
    have hs1: ∀x:Str,qi (c.length+[x].length) 16=true:=fun x=>jee (by simp;omega) (by omega)
    simp only [h1,h0,decide_true,if_true,Int.toNat_natCast,qgx hlt,qq,q1,sb,GVal.kind,GVal.names,hw,hs1]
    by_cases k4:k=4
    · have hn : i < names.length := by rw [h4 k4]; exact hlt
      have hn':(i:Int)<(names.length:Int):=by omega
      have hl2:=hns _ (List.getElem_mem hn)
      have hq:(quo names[i]).length≤202:=by simp [quo];omega
      have b1:(quo names[i]).length+([58]:Str).length≤9223372036854775807:=by simp;omega
      have b2:(quo names[i]++([58]:Str)).length+(txt items[i]).length≤9223372036854775807:=by simp;omega
      rw [hpd]
      simp only [k4,if_true,hn',qbh hn,je8 (s:=names[i]) (by omega),sb,b1,b2,beq_self_eq_true]
      subst k4
      rw [ih (i+1) _ (by omega) (by simp;omega)]
      simp [gm]
    · have k4' : (k == 4) = false := by simpa using k4
      rw [hpd]
      simp only [k4',k4,Bool.false_eq_true,if_false]
      rw [ih (i+1) _ (by omega) (by simp;omega)]
      simp
theorem q7z{d:Nat}{k:Int}{items:List GVal}{names:List Str}(hns: ∀x∈names,x.length≤200)(hm: ∀x∈items,(txt x).length≤lim d): ∀x∈qm k items names,x.length≤203+lim d:=by
  intro x hx
  unfold qm at hx
  split at hx
  · obtain ⟨i, hi, rfl⟩ := List.mem_iff_getElem.1 hx
    simp only [List.length_zipWith,List.length_map] at hi
    have a1:=hns _ (List.getElem_mem (l:=names) (n:=i) (by omega))
    have a2:=hm _ (List.getElem_mem (l:=items) (n:=i) (by omega))
    simp only [List.getElem_zipWith,List.getElem_map,gm,quo,List.length_append,List.length_singleton]
    omega
  · obtain ⟨y, hy, rfl⟩ := List.mem_map.1 hx
    have:=hm y hy
    omega
theorem jc4{d:Nat}(h:d≤6):lim d≤1000000000000:=by
  rcases d with _|_|_|_|_|_|_|d
  all_goals first|(simp [lim];done)|omega
theorem jc1{d:Nat}{k:Int}{items:List GVal}{names:List Str}(hi:items.length≤16)(h4:k=4→names.length=items.length)(hns: ∀x∈names,x.length≤200)(hm: ∀x∈items,(txt x).length≤lim d):
    (jr true (qm k items names)).length+2≤lim (d+1):=by
  have h1:=qxf (203+lim d) (qm k items names) true (q7z hns hm)
  rw [vv _ _ _ h4] at h1
  have h2:items.length*(203+lim d+1)≤16*(203+lim d+1):=Nat.mul_le_mul_right _ hi
  simp only [lim]
  omega
theorem jkv : ∀ (d : Nat), d ≤ 6 → ∀ (v : GVal), okV d v = true → z07 v = some (txt v) ∧ (txt v).length ≤ lim d := by
  intro d
  induction d with
  |zero=>intro _ v h;simp [okV] at h
  | succ d ih =>
    intro hd v hv
    cases v with
    | mk k n s items names =>
      have hlim:=jc4 (d:=d) (by omega)
      have hlim':=jc4 (d:=d+1) hd
      obtain⟨hi,hc⟩:=qen hv
      rw [jku]
      unfold jhi
      rcases hc with⟨rfl,rfl,rfl,rfl,h1,h2⟩|⟨rfl,rfl,rfl,rfl,h1⟩|⟨rfl,rfl,rfl,rfl,hm⟩|⟨rfl,hN,hl,rfl,rfl,hm⟩
      · have e : txt (.mk 1 n [] [] []) = Lib.itoa n := by unfold txt; simp
        have:=Lib.itoa_length_le n (by omega) (by omega)
        rw [e]
        refine⟨?_,by simp only [lim];omega⟩
        change (xj n>>=fun i=>some i)=_
        rw [qab (by omega) (by omega)]
        rfl
      · have e : txt (.mk 2 0 s [] []) = quo s := by unfold txt; simp
        have:=qxz h1
        simp only [GVal.kind,GVal.s,je8 (s:=s) (by omega),e]
        exact⟨rfl,by simp only [lim,quo,List.length_append,List.length_singleton];omega⟩
      · have hm' := fun x hx => ih (by omega) x (hm x hx)
        have hL:=qqa (k:=3) (n:=0) (s:=[]) (names:=[]) hlim hi (by intro h;omega) (by simp) hm' items.length 0 [] (by omega) rfl
        have hJ:=jc1 (k:=3) (names:=[]) hi (by intro h;omega) (by simp) (fun x hx=>(hm' x hx).2)
        rw [v8 (by omega) (by omega)]
        simp only [GVal.kind,GVal.items,qq]
        change (xr ((((0:Nat):Int),(items,(items.length:Int))),([],_))>>=_)=_∧_
        rw [hL,sb]
        have hq:(qm 3 items []).length≤16:=by rw [vv _ _ _ (by intro h;omega)];exact hi
        simp only [List.nil_append,List.drop_zero]
        rw [qlv (by omega) (by omega),sb]
        dsimp +instances only [GVal.kind]
        have b1:([91]:Str).length+(jr true (qm 3 items [])).length≤9223372036854775807:=by simp;omega
        have b2:(([91]:Str)++jr true (qm 3 items [])).length+([93]:Str).length≤9223372036854775807:=by simp;omega
        have b2':(jr true (qm 3 items [])).length+1+1≤9223372036854775807:=by omega
        have b3:(if(3:Int)=4 then([123]:Str) else [91])=[91]:=rfl
        have b4:(if(3:Int)=4 then([125]:Str) else [93])=[93]:=rfl
        rw [b3,b4]
        refine⟨?_,by simp;omega⟩
        simp [b2']
        omega
      · have hm' := fun x hx => ih (by omega) x (hm x hx)
        have hns: ∀x∈names,x.length≤200:=fun x hx=>qxz (qhi hN x hx)
        have hL:=qqa (k:=4) (n:=0) (s:=[]) (names:=names) hlim hi (fun _=>hl) hns hm' items.length 0 [] (by omega) rfl
        have hJ:=jc1 (k:=4) (names:=names) hi (fun _=>hl) hns (fun x hx=>(hm' x hx).2)
        rw [v8 (by omega) (by omega)]
        simp only [GVal.kind,GVal.items,qq]
        change (xr ((((0:Nat):Int),(items,(items.length:Int))),([],_))>>=_)=_∧_
        rw [hL,sb]
        have hq:(qm 4 items names).length≤16:=by rw [vv _ _ _ (fun _=>hl)];exact hi
        simp only [List.nil_append,List.drop_zero]
        rw [qlv (by omega) (by omega),sb]
        dsimp +instances only [GVal.kind]
        have b1:([123]:Str).length+(jr true (qm 4 items names)).length≤9223372036854775807:=by simp;omega
        have b2':(jr true (qm 4 items names)).length+1+1≤9223372036854775807:=by omega
        refine⟨?_,by simp;omega⟩
        simp [b2']
        omega
theorem je9{v:GVal}(hv:inV v):z2z v=some (if okV 6 v then(if(txt v).length>4096 then([],2) else(txt v,0)) else([],1)):=by
  unfold z2z
  simp only [qq,jlq hv,sb]
  by_cases h:okV 6 v=true
  · obtain ⟨h1, _⟩ := jkv 6 (by omega) v h
    simp only [h,Bool.not_true,Bool.false_eq_true,if_false,h1,sb,if_true]
    by_cases g:(txt v).length>4096
    · have : ((txt v).length : Int) > 4096 := by omega
      simp only [this,g,decide_true,if_true]
    · have : ¬ ((txt v).length : Int) > 4096 := by omega
      simp only [this,g,decide_false,Bool.false_eq_true,if_false]
  · have h : okV 6 v = false := by simpa using h
    simp only [h,Bool.not_false,if_true,Bool.false_eq_true,if_false]
end Go.Plain
namespace Go.Plain
open Go.AM
open Classical
theorem xz{v:GVal}(h:inV v):v.s.length≤9223372036854775807∧v.items.length≤9223372036854775807∧qf3 v.items∧v.names.length≤9223372036854775807:=by
  cases v
  exact⟨h.2.2.1,h.2.2.2.1,h.2.2.2.2.1,h.2.2.2.2.2.1⟩
end Go.Plain
namespace Go.Plain
open Go.AM
def dg(b:UInt8):Bool:=decide (48≤b.toNat)&&decide (b.toNat≤57)
def num(w:Str):Nat:=w.foldl (fun a b=>10*a+(b.toNat-48)) 0
theorem qoq(w:Str)(b:UInt8):num (w++[b])=10*num w+(b.toNat-48):=by simp [num]
theorem qal{b:UInt8}:dg b=true↔48≤b.toNat∧b.toNat≤57:=by simp [dg]
theorem jea{α:Type}{P:List α→Prop}(h0:P [])(h1: ∀l a,P l→P (l++[a]))(l:List α):P l:=by
  have: ∀(n:Nat) (l:List α),l.length=n→P l:=by
    intro n
    induction n with
    |zero=>intro l h;rw [List.length_eq_zero_iff.1 h];exact h0
    | succ n ih =>
      intro l h
      have hne:l≠[]:=by rintro rfl;simp at h
      rw [←List.dropLast_concat_getLast hne]
      exact h1 _ _ (ih _ (by simp;omega))
  exact this _ l rfl
theorem jdd: ∀{w:Str},w.all dg=true→num w<10^w.length:=by
  intro w
  induction w using jea with
  |h0=>intro _;simp [num]
  | h1 l a ih =>
    intro h
    simp only [List.all_append,List.all_cons,List.all_nil,Bool.and_true,Bool.and_eq_true] at h
    have h1:=ih h.1
    have h2:=qal.1 h.2
    rw [qoq,List.length_append,List.length_singleton,Nat.pow_succ]
    omega
theorem b48(u:Nat)(h:u<10):(UInt8.ofNat (48+u)).toNat=48+u:=by
  simp [UInt8.toNat_ofNat']
  omega
theorem qkd (u : Nat) : (Lib.decDigits u).all dg = true ∧ num (Lib.decDigits u) = u ∧ (Lib.decDigits u ≠ []) ∧ (1 ≤ u → ∃ b r, Lib.decDigits u = b :: r ∧ b.toNat ≠ 48) ∧ ((u < 10 → (Lib.decDigits u).length = 1)) ∧ ∀ k, u < 10 ^ (k + 1) → (Lib.decDigits u).length ≤ k + 1 := by
  induction u using Nat.strongRecOn with
  | _ u ih =>
    unfold Lib.decDigits
    split
    · rename_i h
      have hb:=b48 u h
      refine⟨?_, ?_,by simp,fun h1=>⟨_,_,rfl,by omega⟩,fun _=>rfl,fun k _=>by simp⟩
      · simp only [List.all_cons, List.all_nil, Bool.and_true]
        exact qal.2 ⟨by omega,by omega⟩
      · simp only [num, List.foldl_cons, List.foldl_nil, hb]
        omega
    · rename_i h
      obtain⟨a1,a2,a3,a4,a5,a6⟩:=ih (u / 10) (by omega)
      have hb:=b48 (u%10) (by omega)
      refine⟨?_, ?_,by simp,fun h1=> ?_,fun h'=>absurd h' h,fun k hk=> ?_⟩
      · simp only [List.all_append, List.all_cons, List.all_nil, Bool.and_true, a1, Bool.true_and]
        exact qal.2 ⟨by omega,by omega⟩
      · rw [qoq, a2, hb]
        omega
      · obtain ⟨b, r, e, hne⟩ := a4 (by omega)
        exact⟨b,r++[UInt8.ofNat (48+u%10)],by rw [e];rfl,hne⟩
      · rw [List.length_append, List.length_singleton]
        cases k with
        |zero=>omega
        | succ k =>
          have:=a6 k (by rw [Nat.pow_succ] at hk;omega)
          omega
theorem qyi{w:Str}(rest:Str)(hw:w.all dg=true)(hr: ∀b r,rest=b::r→dg b=false):(w++rest).takeWhile dg=w∧(w++rest).dropWhile dg=rest:=by
  induction w with
  | nil =>
    cases rest with
    |nil=>simp
    |cons b r=>simp [hr b r rfl]
  | cons b r ih =>
    simp only [List.all_cons,Bool.and_eq_true] at hw
    obtain⟨i1,i2⟩:=ih hw.2
    simp [hw.1,i1,i2]
theorem jjd: ∀b:UInt8,([48,49,50,51,52,53,54,55,56,57]:Str).contains b=dg b:=by
  intro b
  by_cases h:dg b=true
  · rw [h, List.contains_iff_mem]
    have h:=qal.1 h
    have:b.toNat=48∨b.toNat=49∨b.toNat=50∨b.toNat=51∨b.toNat=52∨b.toNat=53∨b.toNat=54∨b.toNat=55∨b.toNat=56∨b.toNat=57:=by omega
    have hb:b=UInt8.ofNat b.toNat:=by simp
    rcases this with e|e|e|e|e|e|e|e|e|e <;>rw [hb,e] <;>decide
  · have h : dg b = false := by simpa using h
    rw [h]
    by_cases c:([48,49,50,51,52,53,54,55,56,57]:Str).contains b=true
    · rw [List.contains_iff_mem] at c
      simp only [List.mem_cons,List.not_mem_nil,or_false] at c
      rcases c with rfl|rfl|rfl|rfl|rfl|rfl|rfl|rfl|rfl|rfl <;>exact absurd h (by decide)
    · simpa using c
theorem qmh(c:Str):yn (c,([48,49,50,51,52,53,54,55,56,57]:Str))=some (c.dropWhile dg):=by
  unfold yn
  simp only
  rw [if_pos (by decide)]
  unfold Lib.trimLeftS
  congr 1
  congr 1
  funext b
  exact jjd b
theorem jde{w:Str}{i:Nat}(h:i<w.length):num (w.take (i+1))=10*num (w.take i)+(w[i].toNat-48):=by
  rw [List.take_succ_eq_append_getElem h,qoq]
theorem wr8{n:Int}(h:0≤n∧n≤255):IntKind.wrap .u8 n=n:=by
  unfold IntKind.wrap
  simp [IntKind.bits,IntKind.signed]
  omega
theorem q11{w t:Str}(hw:w.all dg=true)(hl:w.length≤13)(z:GVal): ∀(m i:Nat),i+m=w.length→
    qk7 (((i:Int),(w,(w.length:Int))),(t,(GVal.mk 1 (num (w.take i)) [] [] [],z)))=some (t,(z,GVal.mk 1 (num w) [] [] [])):=by
  intro m
  induction m with
  | zero =>
    intro i hi
    rw [qvy]
    unfold qjp
    have: ¬((i:Int)<(w.length:Int)):=by omega
    rw [List.take_of_length_le (by omega)]
    simp [this,qq]
  | succ m ih =>
    intro i hi
    have hlt:i<w.length:=by omega
    have h1:(i:Int)<(w.length:Int):=by omega
    have h0:(0:Int)≤(i:Int):=by omega
    have hwi:w64 ((i:Int)+1)=((i+1:Nat):Int):=by rw [qh (by omega)];omega
    have hb:=qal.1 (List.all_eq_true.1 hw _ (List.getElem_mem hlt))
    have hn:num (w.take i)<10^13:=by
      have a1:=jdd (w:=w.take i) (by rw [List.all_eq_true];intro x hx;exact List.all_eq_true.1 hw x (List.mem_of_mem_take hx))
      have a2:(w.take i).length≤13:=by simp;omega
      exact Nat.lt_of_lt_of_le a1 (Nat.pow_le_pow_right (by omega) a2)
    have hn:num (w.take i)<10000000000000:=hn
    have e1:IntKind.wrap .u8 ((w[i].toNat:Int)-48)=(w[i].toNat:Int)-48:=wr8 (by omega)
    have e2:w64 ((w[i].toNat:Int)-48)=(w[i].toNat:Int)-48:=qh (by omega)
    have e3:w64 ((10:Int)*(num (w.take i):Int))=(10:Int)*(num (w.take i):Int):=qh (by omega)
    have e4:w64 ((10:Int)*(num (w.take i):Int)+((w[i].toNat:Int)-48))=(num (w.take (i+1)):Int):=by
      rw [qh (by omega),jde hlt]
      omega
    rw [qvy]
    unfold qjp
    simp only [h1,h0,decide_true,if_true,ww hlt,hwi,qq,GVal.kind,GVal.n,GVal.s,GVal.items,GVal.names,e1,e2,e3,e4]
    exact ih (i+1) (by omega)
theorem q10 {c : Str} (hc : c.length ≤ 9223372036854775807) : z1q c = some (
    if(c.takeWhile dg).length=0∨13<(c.takeWhile dg).length∨(1<(c.takeWhile dg).length∧bt (c.takeWhile dg) 0=48) then .inl (c.dropWhile dg)
    else .inr (.mk 1 (num (c.takeWhile dg)) [] [] [],c.dropWhile dg)):=by
  have hsp:=List.takeWhile_append_dropWhile (p:=dg) (l:=c)
  have hall:(c.takeWhile dg).all dg=true:=by
    rw [List.all_eq_true]
    intro x hx
    induction c with
    |nil=>simp at hx
    | cons b r ih =>
      by_cases e:dg b=true
      · simp only [List.takeWhile_cons, e, if_true, List.mem_cons] at hx
        rcases hx with rfl|hx
        · exact e
        · exact ih (by simp at hc;omega) List.takeWhile_append_dropWhile hx
      · simp [e] at hx
  unfold z1q
  rw [qmh,sb]
  generalize c.takeWhile dg=w at hsp hall
  generalize c.dropWhile dg=t at hsp
  subst hsp
  have hn:w64 (((w++t).length:Int)-(t.length:Int))=(w.length:Int):=by
    rw [List.length_append] at hc ⊢
    rw [qh (by omega)]
    omega
  have h0:(0:Int)≤(w.length:Int):=by omega
  have h1:(w.length:Int)≤((w++t).length:Int):=by rw [List.length_append];omega
  have h2:List.drop w.length (List.take (w++t).length (w++t))=t:=by
    rw [List.take_length,List.drop_left]
  have h3:List.take w.length (w++t)=w:=List.take_left
  simp only [hn,h0,h1,if_true,Int.toNat_natCast,h2,h3]
  by_cases c1:w.length=0
  · have : ((w.length : Int) == 0) = true := by simpa using List.length_eq_zero_iff.1 c1
    simp [c1]
  have c1':((w.length:Int)==0)=false:=by rw [beq_eq_false_iff_ne];omega
  by_cases c2:13<w.length
  · have : (w.length : Int) > 13 := by omega
    simp [c1',c2,this]
  have c2': ¬((w.length:Int)>13):=by omega
  have hL:=q11 (t:=t) hall (by omega) (GVal.mk 0 0 [] [] []) w.length 0 (by omega)
  have hL:qk7 (((0:Int),(w,(w.length:Int))),(t,(GVal.mk 1 0 [] [] [],GVal.mk 0 0 [] [] [])))=some (t,(GVal.mk 0 0 [] [] [],GVal.mk 1 (num w) [] [] [])):=hL
  by_cases c3:1<w.length
  · have g1 : (w.length : Int) > 1 := by omega
    have g2:(0:Int)<(w.length:Int):=by omega
    simp only [c1',c2',g1,g2,decide_true,decide_false,Bool.false_eq_true,if_false,if_true,hL,sb,qq]
    by_cases c4:bt w 0=48
    · simp [c3,c4]
    · simp [c4,c1,c2]
  · have g1 : ¬ ((w.length : Int) > 1) := by omega
    simp only [c1',c2',g1,decide_false,Bool.false_eq_true,if_false,hL,sb,qq]
    simp [c1,c2,c3]
theorem q4f{n:Int}(h0:0≤n)(h1:n≤1099511627776){rest:Str}(hr: ∀b r,rest=b::r→dg b=false)(hc:(Lib.itoa n++rest).length≤9223372036854775807):
    z1q (Lib.itoa n++rest)=some (.inr (.mk 1 n [] [] [],rest)):=by
  obtain⟨u,rfl⟩: ∃u:Nat,n=u:=⟨n.toNat,by omega⟩
  rw [Lib.itoa_nonneg] at hc ⊢
  obtain⟨a1,a2,a3,a4,a5,a6⟩:=qkd u
  obtain⟨t1,t2⟩:=qyi rest a1 hr
  rw [q10 hc,t1,t2,a2]
  have l1:(Lib.decDigits u).length≠0:=fun h=>a3 (List.length_eq_zero_iff.1 h)
  have l2:=a6 12 (by omega)
  rw [if_neg]
  rintro(h|h|⟨h,h'⟩)
  · exact l1 h
  · omega
  · have hu : 10 ≤ u := by
      by_cases q:u<10
      · have:=a5 q;omega
      · omega
    obtain⟨b,r,e,hne⟩:=a4 (by omega)
    rw [e] at h'
    have:=ww (s:=b::r) (i:=0) (by simp)
    simp only [List.getElem_cons_zero] at this
    have h'':bt (b::r) ((0:Nat):Int)=48:=h'
    rw [this] at h''
    omega
end Go.Plain
namespace Go.Plain
open Go.AM
open Classical
theorem q0j:z2p []=some (.inl []):=rfl
theorem y9(b:UInt8)(r:Str):z2p (b::r)=some (.inr ((b.toNat:Int),b::r)):=by
  unfold z2p
  have e:((b::r:Str)==[])=false:=rfl
  have h:(0:Int)<((b::r:Str).length:Int):=by rw [List.length_cons];omega
  simp only [e,Bool.false_eq_true,if_false,h,if_true]
  rfl
theorem take_nil(k:Int):z2k (k,[])=some (.inl []):=rfl
theorem ue(k:Int)(b:UInt8)(r:Str):z2k (k,b::r)=some (if(b.toNat:Int)=k then .inr r else .inl (b::r)):=by
  unfold z2k
  simp only [y9,sb,Sum.elim_inr]
  by_cases e:(b.toNat:Int)=k
  · have e1 : ((b.toNat : Int) != k) = false := by simp [e]
    have h1:(1:Int)≤((b::r:Str).length:Int):=by rw [List.length_cons];omega
    rw [if_pos e]
    simp only [e1,Bool.false_eq_true,if_false,h1,Int.le_refl,if_true,Int.toNat_natCast,List.take_length,List.drop_succ_cons,List.drop_zero]
  · have e1 : ((b.toNat : Int) != k) = true := by simp [e]
    simp only [e1,if_true,e,if_false]
theorem qhw(k:Int)(c:Str): ∃r,z2k (k,c)=some r∧∀t,r= .inr t→t.length≤c.length:=by
  cases c with
  |nil=>exact⟨_,take_nil k,fun t h=>by cases h⟩
  | cons b r =>
    refine⟨_,ue k b r,fun t h=> ?_⟩
    split at h
    · injection h with h;subst h;simp
    · cases h
theorem qz3: ∀(s rest:Str),(∀b∈s,b≠34)→Lib.index (s++34::rest) [34]=(s.length:Int)
  |[],rest,_=>by simp [Lib.index]
  | b :: s, rest, h => by
    have h1: ¬(34=b):=fun e=>h b (by simp) e.symm
    have ih:=qz3 s rest fun x hx=>h x (by simp [hx])
    simp only [List.cons_append,Lib.index,ih]
    have:((s.length:Int)== -1)=false:=by rw [beq_eq_false_iff_ne];omega
    simp [List.isPrefixOf,h1,this]
theorem ji8(s rest:Str)(h: ∀b∈s,b≠34):Lib.cut (s++34::rest) [34]=(s,rest,true):=by
  unfold Lib.cut
  rw [qz3 s rest h,if_pos (by omega),Int.toNat_natCast]
  simp
theorem q3i{s:Str}(h:okW s=true): ∀b∈s,b≠34:=by
  intro b hb e
  unfold okW at h
  simp only [Bool.and_eq_true,List.all_eq_true] at h
  have:=h.1 b hb
  subst e
  exact absurd this (by decide)
theorem qom{s:Str}(h:s.length≤4096):qhb (s,([34]:Str))=some (Lib.cut s [34]):=by
  unfold qhb
  simp only
  rw [if_pos (by omega)]
theorem qum{s rest:Str}(h:okW s=true)(hl:(quo s++rest).length≤4096):z2r (quo s++rest)=some (.inr (s,rest)):=by
  unfold z2r
  have e:quo s++rest=34::(s++34::rest):=by simp [quo]
  rw [e] at hl ⊢
  rw [ue,sb]
  have e2:(((34:UInt8).toNat:Int)=34):=rfl
  rw [if_pos e2]
  simp only [Sum.elim_inr]
  rw [qom (by simp at hl ⊢;omega),ji8 s rest (q3i h)]
  rfl
theorem q12{c:Str}(hl:c.length≤4096): ∃r,z2r c=some r∧∀w t,r= .inr (w,t)→w.length≤4096∧t.length≤c.length:=by
  unfold z2r
  obtain⟨r,h1,h2⟩:=qhw 34 c
  rw [h1,sb]
  cases r with
  |inl y=>exact⟨_,rfl,fun w t h=>by cases h⟩
  | inr y =>
    have hy:=h2 y rfl
    simp only [Sum.elim_inr]
    rw [qom (by omega),sb]
    have hc:(Lib.cut y [34]).1.length≤y.length∧(Lib.cut y [34]).2.1.length≤y.length:=by
      unfold Lib.cut
      split <;>simp
      omega
    split
    · exact⟨_,rfl,fun w t h=>by cases h⟩
    · refine ⟨_, rfl, fun w t h => ?_⟩
      injection h with h
      injection h with ha hb
      subst ha;subst hb
      omega
noncomputable def q7m(deep end1:Int)(c1:Int×(Int×Str))(c2:GVal)(c3:List GVal)(c4:List Str)(y:Str):Option (Str⊕(Int×(Str×(GVal×((Int×(Int×Str))×((List GVal)×(List Str))))))):=
  if(c1.1==(4:Int)) then(z2r y>>=fun e2=>
    Sum.elim (fun e3=>some (.inl e3)) (fun e3=>if(qi (c4.length+[e3.1].length) 16) then
    z2k ((58:Int),e3.2)>>=fun y2=>
    Sum.elim (fun y3=>some (.inl y3)) (fun y3=>z0b ((w64 (deep-(1:Int))),y3)>>=fun e4=>
    Sum.elim (fun e5=>some (.inl e5)) (fun e5=>if(qi (c3.length+[e5.1.re].length) 80) then
    if(decide (((c3++[e5.1.re]).length:Int)>(16:Int))) then some (.inl e5.2) else
    vl ((deep,end1),(e5.2,(c1,(c2.re,((c3++[e5.1.re]),(c4++[e3.1])))))) else none) e4) y2 else none) e2) else
  z0b ((w64 (deep-(1:Int))),y)>>=fun e2=>
  Sum.elim (fun e3=>some (.inl e3)) (fun e3=>if(qi (c3.length+[e3.1.re].length) 80) then
  if(decide (((c3++[e3.1.re]).length:Int)>(16:Int))) then some (.inl e3.2) else
  vl ((deep,end1),(e3.2,(c1,(c2.re,((c3++[e3.1.re]),c4))))) else none) e2
theorem qxm (deep end1 : Int) (c : Str) (c1 : Int × (Int × Str)) (c2 : GVal) (c3 : List GVal) (c4 : List Str) :
    vl ((deep,end1),(c,(c1,(c2,(c3,c4)))))=(z2p c>>=fun e=>
      Sum.elim (fun e1=>some (.inl e1)) (fun e1=>if(e1.1 !=end1) then(if(decide ((c3.length:Int)>(0:Int))) then(z2k ((44:Int),e1.2)>>=fun y=>
        Sum.elim (fun y1=>some (.inl y1)) (fun y1=>q7m deep end1 c1 c2 c3 c4 y1) y) else q7m deep end1 c1 c2 c3 c4 e1.2) else
        some (.inr (end1,(e1.2,(c2.re,(c1,(c3,c4))))))) e):=by
  rw [q84]
  rfl
theorem zy{n B:Nat}(h:n≤1000)(hB:B≤200):qi n B:=by
  unfold qi
  have:=Nat.mul_le_mul h hB
  omega
theorem qmx: ∀{l:List GVal},(∀x∈l,inV x)→qf3 l
  |[],_=>trivial
  |x::r,h=>⟨h x (by simp),qmx fun y hy=>h y (by simp [hy])⟩
theorem q7d{l:List GVal}{x:GVal}(h:qf3 l)(hx:inV x):qf3 (l++[x]):=qmx fun y hy=>by
  rcases List.mem_append.1 hy with hy|hy
  · exact zt h y hy
  · rw [List.mem_singleton] at hy
    subst hy
    exact hx
theorem jju {d : Nat} (hd : (d : Int) + 1 ≤ 9223372036854775807) (end1 : Int) (c1 : Int × (Int × Str)) (c2 : GVal)
    (hv: ∀c:Str,c.length≤4096→∃r,z0b ((d:Int),c)=some r∧∀v t,r= .inr (v,t)→inV v∧t.length≤c.length):
    ∀(m:Nat) (c:Str) (c3:List GVal) (c4:List Str),c3.length+m=16→c4.length≤c3.length→qf3 c3→(∀x∈c4,x.length≤4096)→c.length≤4096→
    ∃r,vl (((d:Int)+1,end1),(c,(c1,(c2,(c3,c4)))))=some r∧∀e t z h l n,r= .inr (e,(t,(z,(h,(l,n)))))→e=end1∧t.length≤c.length∧h=c1∧qf3 l∧l.length≤16∧n.length≤16∧∀x∈n,x.length≤4096:=by
  intro m
  induction m using Nat.strongRecOn with
  | _ m ihm =>
    intro c c3 c4 hm hn4 hi3 hi4 hc
    have hw:w64 ((d:Int)+1-1)=(d:Int):=by rw [qh (by omega)];omega
    -- what a member leads to
    have hgo: ∀(x:GVal) (t:Str) (n4:List Str),inV x→t.length≤c.length→n4.length≤c3.length+1→(∀y∈n4,y.length≤4096)→
        ∃ r, (if (qi (c3.length + [x.re].length) 80) then
          if(decide (((c3++[x.re]).length:Int)>(16:Int))) then some (.inl t) else
          vl (((d:Int)+1,end1),(t,(c1,(c2.re,((c3++[x.re]),n4))))) else none)=some r∧∀e t z h l n,r= .inr (e,(t,(z,(h,(l,n)))))→e=end1∧t.length≤c.length∧h=c1∧qf3 l∧l.length≤16∧n.length≤16∧∀x∈n,x.length≤4096:=by
      intro x t n4 hx ht hn hn'
      have hs:qi (c3.length+[x].length) 80:=zy (by simp;omega) (by omega)
      simp only [qq]
      rw [if_pos hs]
      cases m with
      | zero =>
        have:((c3++[x]).length:Int)>16:=by simp;omega
        simp only [this,decide_true,if_true]
        exact⟨_,rfl,fun e t z h l n q=>by cases q⟩
      | succ m =>
        have: ¬((c3++[x]).length:Int)>16:=by simp;omega
        simp only [this,decide_false,Bool.false_eq_true,if_false]
        obtain⟨r,h1,h2⟩:=ihm m (by omega) t (c3++[x]) n4 (by simp;omega) (by simp;omega) (q7d hi3 hx) hn' (by omega)
        exact⟨r,h1,fun e t' z h l n q=>by
          obtain⟨a1,a2,a3⟩:=h2 e t' z h l n q
          exact⟨a1,by omega,a3⟩⟩
    have hK : ∀ y : Str, y.length ≤ c.length → ∃ r, q7m ((d : Int) + 1) end1 c1 c2 c3 c4 y = some r ∧ ∀ e t z h l n, r = .inr (e, (t, (z, (h, (l, n))))) → e = end1 ∧ t.length ≤ c.length ∧ h = c1 ∧ qf3 l ∧ l.length ≤ 16 ∧ n.length ≤ 16 ∧ ∀ x ∈ n, x.length ≤ 4096 := by
      intro y hy
      unfold q7m
      rw [hw]
      split
      · obtain ⟨r, h1, h2⟩ := q12 (c := y) (by omega)
        rw [h1,sb]
        cases r with
        |inl y=>exact⟨_,rfl,fun e t z h l n q=>by cases q⟩
        | inr w =>
          obtain⟨g1,g2⟩:=h2 w.1 w.2 rfl
          have hs:qi (c4.length+[w.1].length) 16:=zy (by simp;omega) (by omega)
          simp only [Sum.elim_inr]
          rw [if_pos hs]
          obtain⟨r,h1,h2⟩:=qhw 58 w.2
          rw [h1,sb]
          cases r with
          |inl y=>exact⟨_,rfl,fun e t z h l n q=>by cases q⟩
          | inr u =>
            have hu:=h2 u rfl
            obtain⟨r,h1,h2⟩:=hv u (by omega)
            simp only [Sum.elim_inr,h1,sb]
            cases r with
            |inl y=>exact⟨_,rfl,fun e t z h l n q=>by cases q⟩
            | inr x =>
              obtain⟨k1,k2⟩:=h2 x.1 x.2 rfl
              simp only [Sum.elim_inr]
              exact hgo x.1 x.2 (c4++[w.1]) k1 (by omega) (by simp;omega) (fun z hz=>by
                rcases List.mem_append.1 hz with hz|hz
                · exact hi4 z hz
                · rw [List.mem_singleton] at hz;subst hz;exact g1)
      · obtain ⟨r, h1, h2⟩ := hv y (by omega)
        rw [h1,sb]
        cases r with
        |inl y=>exact⟨_,rfl,fun e t z h l n q=>by cases q⟩
        | inr x =>
          obtain⟨k1,k2⟩:=h2 x.1 x.2 rfl
          simp only [Sum.elim_inr]
          exact hgo x.1 x.2 c4 k1 (by omega) (by omega) hi4
    rw [qxm]
    cases c with
    |nil=>rw [q0j,sb];exact⟨_,rfl,fun e t z h l n q=>by cases q⟩
    | cons b r =>
      rw [y9,sb]
      simp only [Sum.elim_inr]
      split
      · split
        · obtain ⟨q, h1, h2⟩ := qhw 44 (b :: r)
          rw [h1,sb]
          cases q with
          |inl y=>exact⟨_,rfl,fun e t z h l n q=>by cases q⟩
          | inr u =>
            simp only [Sum.elim_inr]
            exact hK u (h2 u rfl)
        · exact hK (b::r) (Nat.le_refl _)
      · refine ⟨_, rfl, fun e t z h l n q => ?_⟩
        injection q with q
        simp only [Prod.mk.injEq] at q
        obtain⟨rfl,rfl,rfl,rfl,rfl,rfl⟩:=q
        exact⟨rfl,Nat.le_refl _,rfl,hi3,by omega,by omega,hi4⟩
theorem qtr{d:Nat}(hd:(d:Int)+1≤9223372036854775807)(k end1:Int)(hk:0≤k∧k≤4)
    (hv: ∀c:Str,c.length≤4096→∃r,z0b ((d:Int),c)=some r∧∀v t,r= .inr (v,t)→inV v∧t.length≤c.length) (b:UInt8) (c:Str) (hc:(b::c).length≤4096):
    ∃r,z0i (((k,((0:Int),([]:Str))),(end1,(d:Int)+1)),b::c)=some r∧∀v t,r= .inr (v,t)→inV v∧t.length≤(b::c).length:=by
  rw [q4l]
  unfold q83
  have h1:(1:Int)≤((b::c:Str).length:Int):=by rw [List.length_cons];omega
  simp only [h1,Int.le_refl,if_true,Int.toNat_natCast,List.take_length,List.drop_succ_cons,List.drop_zero]
  obtain⟨r,g1,g2⟩:=jju hd end1 (k,(0,[])) (GVal.mk 0 0 [] [] []) hv 16 c [] [] rfl (by simp) trivial (by simp) (by simp at hc;omega)
  rw [g1,sb]
  cases r with
  |inl y=>exact⟨_,rfl,fun v t h=>by cases h⟩
  | inr q =>
    obtain⟨e,t,z,h,l,n⟩:=q
    obtain⟨rfl,a2,rfl,a4,a5,a6,a7⟩:=g2 e t z h l n rfl
    simp only [Sum.elim_inr]
    obtain⟨r,t1,t2⟩:=qhw e t
    rw [t1,sb]
    cases r with
    |inl y=>exact⟨_,rfl,fun v t h=>by cases h⟩
    | inr u =>
      refine⟨_,rfl,fun v t h=> ?_⟩
      injection h with h
      injection h with ha hb
      subst ha;subst hb
      have:=t2 u rfl
      refine⟨⟨by omega,by omega,by simp,by omega,a4,by omega,fun x hx=> ?_⟩,by simp;omega⟩
      have:=a7 x hx
      omega
theorem q8x : ∀ (d : Nat), (d : Int) ≤ 9223372036854775807 → ∀ c : Str, c.length ≤ 4096 → ∃ r, z0b ((d : Int), c) = some r ∧ ∀ v t, r = .inr (v, t) → inV v ∧ t.length ≤ c.length := by
  intro d
  induction d with
  | zero =>
    intro _ c hc
    rw [q4i]
    exact⟨_,rfl,fun v t h=>by cases h⟩
  | succ d ih =>
    intro hd c hc
    have hd':(d:Int)+1≤9223372036854775807:=by omega
    rw [show((d+1:Nat):Int)=(d:Int)+1 by omega,q4i]
    unfold jeu
    have h0:((d:Int)+1==0)=false:=by simpa using(show¬(d:Int)+1=0 by omega)
    simp only [h0,Bool.false_eq_true,if_false]
    cases c with
    |nil=>rw [q0j,sb];exact⟨_,rfl,fun v t h=>by cases h⟩
    | cons b c =>
      rw [y9,sb]
      simp only [Sum.elim_inr]
      split
      · obtain ⟨r, h1, h2⟩ := q12 (c := b :: c) hc
        rw [h1,sb]
        cases r with
        |inl y=>exact⟨_,rfl,fun v t h=>by cases h⟩
        | inr w =>
          refine⟨_,rfl,fun v t h=> ?_⟩
          obtain⟨g1,g2⟩:=h2 w.1 w.2 rfl
          injection h with h
          injection h with ha hb
          subst ha;subst hb
          exact⟨⟨by omega,by omega,by omega,by simp,trivial,by simp,by simp⟩,g2⟩
      split
      · obtain ⟨r, h1, h2⟩ := qtr hd' 3 93 (by omega) (ih (by omega)) b c hc
        rw [h1,sb]
        cases r with
        |inl y=>exact⟨_,rfl,fun v t h=>by cases h⟩
        | inr w =>
          refine⟨_,rfl,fun v t h=> ?_⟩
          obtain⟨g1,g2⟩:=h2 w.1 w.2 rfl
          injection h with h
          injection h with ha hb
          subst ha;subst hb
          rw [qq]
          exact⟨g1,g2⟩
      split
      · obtain ⟨r, h1, h2⟩ := qtr hd' 4 125 (by omega) (ih (by omega)) b c hc
        rw [h1,sb]
        cases r with
        |inl y=>exact⟨_,rfl,fun v t h=>by cases h⟩
        | inr w =>
          refine⟨_,rfl,fun v t h=> ?_⟩
          obtain⟨g1,g2⟩:=h2 w.1 w.2 rfl
          injection h with h
          injection h with ha hb
          subst ha;subst hb
          rw [qq]
          exact⟨g1,g2⟩
      · rw [q10 (c := b :: c) (by omega), sb]
        split
        · exact⟨_,rfl,fun v t h=>by cases h⟩
        · rename_i hw
          refine⟨_,rfl,fun v t h=> ?_⟩
          injection h with h
          injection h with ha hb
          subst ha;subst hb
          rw [qq]
          have hall:(List.takeWhile dg (b::c)).all dg=true:=List.all_takeWhile
          have hlt:=jdd hall
          have hp:10^(List.takeWhile dg (b::c)).length≤10^13:=Nat.pow_le_pow_right (by omega) (by omega)
          have h13:(10:Nat)^13=10000000000000:=rfl
          refine⟨⟨by omega,by omega,by simp,by simp,trivial,by simp,by simp⟩, ?_⟩
          have hsp:=congrArg List.length (List.takeWhile_append_dropWhile (p:=dg) (l:=b::c))
          rw [List.length_append] at hsp
          show(List.dropWhile dg (b::c)).length≤_
          omega
end Go.Plain
namespace Go.Plain
open Go.AM
open Classical
theorem qhx : ∀ {d : Nat} {v : GVal}, okV d v = true → ∃ b r, txt v = b :: r ∧ (v.kind = 1 → dg b = true) ∧ (v.kind = 2 → b = 34) ∧ (v.kind = 3 → b = 91) ∧ (v.kind = 4 → b = 123) := by
  intro d v h
  cases d with
  |zero=>simp [okV] at h
  | succ d =>
    cases v with
    | mk k n s items names =>
      obtain⟨_,hc⟩:=qen h
      rcases hc with⟨rfl,rfl,rfl,rfl,h1,h2⟩|⟨rfl,rfl,rfl,rfl,h1⟩|⟨rfl,rfl,rfl,rfl,hm⟩|⟨rfl,hN,hl,rfl,rfl,hm⟩
      · have e : txt (.mk 1 n [] [] []) = Lib.itoa n := by unfold txt; simp
        obtain⟨u,rfl⟩: ∃u:Nat,n=u:=⟨n.toNat,by omega⟩
        rw [e,Lib.itoa_nonneg]
        obtain⟨a1,a2,a3,_⟩:=qkd u
        cases hq:Lib.decDigits u with
        |nil=>exact absurd hq a3
        | cons b r =>
          rw [hq] at a1
          simp only [List.all_cons,Bool.and_eq_true] at a1
          exact⟨b,r,rfl,fun _=>a1.1,fun h=>by simp [GVal.kind] at h,fun h=>by simp [GVal.kind] at h,fun h=>by simp [GVal.kind] at h⟩
      · have e : txt (.mk 2 0 s [] []) = quo s := by unfold txt; simp
        rw [e]
        exact⟨34,s++[34],by simp [quo],fun h=>by simp [GVal.kind] at h,fun _=>rfl,fun h=>by simp [GVal.kind] at h,fun h=>by simp [GVal.kind] at h⟩
      · rw [v8 (by omega) (by omega)]
        exact⟨91,jr true (qm 3 items [])++[93],by simp,fun h=>by simp [GVal.kind] at h,fun h=>by simp [GVal.kind] at h,fun _=>rfl,fun h=>by simp [GVal.kind] at h⟩
      · rw [v8 (by omega) (by omega)]
        exact⟨123,jr true (qm 4 items names)++[125],by simp,fun h=>by simp [GVal.kind] at h,fun h=>by simp [GVal.kind] at h,fun h=>by simp [GVal.kind] at h,fun _=>rfl⟩
theorem q0n{d:Nat}{v:GVal}(h:okV d v=true):v.kind=1∨v.kind=2∨v.kind=3∨v.kind=4:=by
  cases d with
  |zero=>simp [okV] at h
  | succ d =>
    obtain⟨_,hc⟩:=qem h
    rcases hc with h|h|h|h
    · exact .inl h.1
    · exact .inr (.inl h.1)
    · exact .inr (.inr (.inl h.1))
    · exact .inr (.inr (.inr h.1))
def qxu(rest:Str):Prop:= ∀b r,rest=b::r→dg b=false
theorem jgp(l:List Str)(e:UInt8)(he:dg e=false)(rest:Str):qxu (jr false l++e::rest):=by
  intro b r h
  cases l with
  |nil=>simp [jr] at h;rw [←h.1];exact he
  |cons x q=>simp [jr] at h;rw [←h.1];decide
theorem q5e {d : Nat} (hd : d ≤ 6) {k : Int} {e : UInt8} (hk : (k = 3 ∧ e = 93) ∨ (k = 4 ∧ e = 125)) (c2 : GVal) {items : List GVal} {names : List Str} (hi : items.length ≤ 16)
    (h4:k=4→names.length=items.length∧∀x∈names,okW x=true) (h3:k=3→names=[]) (hok: ∀x∈items,okV d x=true)
    (hv: ∀v,okV d v=true→∀rest,qxu rest→(txt v++rest).length≤4096→z0b ((d:Int),txt v++rest)=some (.inr (v,rest))) (rest:Str):
    ∀(m i:Nat),i+m=items.length→(jr (decide (i=0)) ((qm k items names).drop i)++e::rest).length≤4096→
    vl (((d:Int)+1,(e.toNat:Int)),(jr (decide (i=0)) ((qm k items names).drop i)++e::rest,((k,((0:Int),[])),(c2,(items.take i,names.take i)))))=
      some (.inr ((e.toNat:Int),(e::rest,(c2,((k,((0:Int),[])),(items,names)))))):=by
  have h4':k=4→names.length=items.length:=fun h=>(h4 h).1
  have hed:dg e=false:=by rcases hk with⟨_,rfl⟩|⟨_,rfl⟩ <;>rfl
  have he44:(44:Int)≠(e.toNat:Int):=by rcases hk with⟨_,rfl⟩|⟨_,rfl⟩ <;>decide
  intro m
  induction m with
  | zero =>
    intro i hi' hlen
    have hi1:items.take i=items:=List.take_of_length_le (by omega)
    have hn1:names.take i=names:=by
      rcases hk with⟨h,_⟩|⟨h,_⟩
      · rw [h3 h];simp
      · exact List.take_of_length_le (by rw [h4' h];omega)
    rw [List.drop_of_length_le (by rw [vv _ _ _ h4'];omega),hi1,hn1,qxm]
    simp only [jr,List.nil_append,y9,sb,Sum.elim_inr,bne_self_eq_false,Bool.false_eq_true,if_false,qq]
  | succ m ih =>
    intro i hi' hlen
    have hlt:i<items.length:=by omega
    have hp:=qoy h4' hlt
    have hpl:=vv k items names h4'
    have hpd:(qm k items names).drop i=(if k=4 then gm (elt .str names i) (txt items[i]) else txt items[i])::(qm k items names).drop (i+1):=by
      rw [jb (by omega)]
      congr 1
      rw [List.getElem?_eq_getElem (by omega)] at hp
      exact Option.some.inj hp
    have hw:w64 ((d:Int)+1-1)=(d:Int):=by rw [qh (by omega)];omega
    have hz:decide (i+1=0)=false:=by simp
    have ih:=ih (i+1) (by omega)
    rw [hz] at ih
    rw [hpd] at hlen ⊢
    have hx:=hok _ (List.getElem_mem hlt)
    have hti:items.take (i+1)=items.take i++[items[i]]:=List.take_succ_eq_append_getElem hlt
    have hs3:qi ((items.take i).length+[items[i]].length) 80:=zy (by simp;omega) (by omega)
    have hle:((items.take i++[items[i]]).length:Int)≤16:=by simp;omega
    have hle': ¬((items.take i++[items[i]]).length:Int)>16:=by omega
    have hnd:=jgp ((qm k items names).drop (i+1)) e hed rest
    -- what the member leads to
    have hK: ∀y:Str,y=(if k=4 then gm (elt .str names i) (txt items[i]) else txt items[i])++(jr false ((qm k items names).drop (i+1))++e::rest)→y.length≤4096→
        q7m ((d:Int)+1) (e.toNat:Int) (k,((0:Int),[])) c2 (items.take i) (names.take i) y=some (.inr ((e.toNat:Int),(e::rest,(c2,((k,((0:Int),[])),(items,names)))))):=by
      intro y hy hyl
      unfold q7m
      rw [hw]
      rcases hk with⟨rfl,rfl⟩|⟨rfl,rfl⟩
      · have hn0 := h3 rfl
        subst hn0
        have hy:y=txt items[i]++(jr false ((qm 3 items []).drop (i+1))++93::rest):=hy
        subst hy
        rw [if_neg (by simp),hv _ hx _ hnd hyl,sb]
        simp only [Sum.elim_inr,qq]
        rw [if_pos hs3,decide_eq_false hle',if_neg (by simp),←hti]
        have hlen':(jr false ((qm 3 items []).drop (i+1))++93::rest).length≤4096:=by
          rw [List.length_append] at hyl ⊢
          rw [List.length_append] at hyl
          omega
        have:=ih hlen'
        simp only [List.take_nil] at this ⊢
        exact this
      · have hn : i < names.length := by rw [h4' rfl]; exact hlt
        have hwd:=(h4 rfl).2 _ (List.getElem_mem hn)
        rw [qbh hn] at hy
        have hy:y=quo names[i]++(58::(txt items[i]++(jr false ((qm 4 items names).drop (i+1))++125::rest))):=by
          rw [hy]
          simp [gm]
        subst hy
        rw [if_pos (by simp),qum hwd hyl,sb]
        simp only [Sum.elim_inr]
        have hs4:qi ((names.take i).length+[names[i]].length) 16:=zy (by simp;omega) (by omega)
        rw [if_pos hs4,ue,sb,if_pos (by rfl)]
        simp only [Sum.elim_inr]
        have hlen':(txt items[i]++(jr false ((qm 4 items names).drop (i+1))++125::rest)).length≤4096:=by
          rw [List.length_append,List.length_cons] at hyl
          omega
        rw [hv _ hx _ hnd hlen',sb]
        simp only [Sum.elim_inr,qq]
        rw [if_pos hs3,decide_eq_false hle',if_neg (by simp),←hti]
        have hni:names.take i++[names[i]]=names.take (i+1):=(List.take_succ_eq_append_getElem hn).symm
        rw [hni]
        refine ih ?_
        rw [List.length_append] at hlen'
        omega
    rw [qxm]
    by_cases hi0:i=0
    · subst hi0
      have hc:jr (decide (0=0)) ((if k=4 then gm (elt .str names 0) (txt items[0]) else txt items[0])::(qm k items names).drop (0+1))++e::rest
          =(if k=4 then gm (elt .str names 0) (txt items[0]) else txt items[0])++(jr false ((qm k items names).drop (0+1))++e::rest):=by
        simp [jr]
      rw [hc] at hlen ⊢
      have hK:=hK _ rfl hlen
      have hhead: ∃b r,(if k=4 then gm (elt .str names 0) (txt items[0]) else txt items[0])=b::r∧(b.toNat:Int)≠(e.toNat:Int):=by
        rcases hk with⟨rfl,rfl⟩|⟨rfl,rfl⟩
        · obtain ⟨b, r, h1, g1, g2, g3, g4⟩ := qhx hx
          refine⟨b,r,h1, ?_⟩
          rcases q0n hx with q|q|q|q
          · have := qal.1 (g1 q)
            have e93:((93:UInt8).toNat:Int)=93:=rfl
            omega
          · rw [g2 q];decide
          · rw [g3 q];decide
          · rw [g4 q];decide
        · exact⟨34,(elt .str names 0:Str)++([34]:Str)++([58]:Str)++txt items[0],by simp [gm,quo],by decide⟩
      obtain⟨b,r,hb,hne⟩:=hhead
      rw [hb] at hK ⊢
      rw [List.cons_append,y9,sb]
      have hne':((b.toNat:Int) !=(e.toNat:Int))=true:=by simpa using hne
      simp only [Sum.elim_inr,hne',if_true,List.take_zero,List.length_nil]
      exact hK
    · have hd0 : decide (i = 0) = false := by simp [hi0]
      rw [hd0] at hlen ⊢
      have hc:jr false ((if k=4 then gm (elt .str names i) (txt items[i]) else txt items[i])::(qm k items names).drop (i+1))++e::rest
          =44::((if k=4 then gm (elt .str names i) (txt items[i]) else txt items[i])++(jr false ((qm k items names).drop (i+1))++e::rest)):=by
        simp [jr]
      rw [hc] at hlen ⊢
      rw [y9,sb]
      have hne':(((44:UInt8).toNat:Int) !=(e.toNat:Int))=true:=by simpa using he44
      have hg:((items.take i).length:Int)>0:=by simp;omega
      simp only [Sum.elim_inr,hne',if_true,hg,decide_true]
      rw [ue,sb,if_pos (by rfl)]
      simp only [Sum.elim_inr]
      exact hK _ rfl (by rw [List.length_cons] at hlen;omega)
theorem q4d : ∀ (d : Nat), d ≤ 6 → ∀ v, okV d v = true → ∀ rest, qxu rest → (txt v ++ rest).length ≤ 4096 → z0b ((d : Int), txt v ++ rest) = some (.inr (v, rest)) := by
  intro d
  induction d with
  |zero=>intro _ v h;simp [okV] at h
  | succ d ih =>
    intro hd v hv rest hr hlen
    have hh:=qhx hv
    cases v with
    | mk k n s items names =>
      obtain⟨hi,hc⟩:=qen hv
      rw [show((d+1:Nat):Int)=(d:Int)+1 by omega,q4i]
      unfold jeu
      have h0:((d:Int)+1==0)=false:=by simpa using(show¬(d:Int)+1=0 by omega)
      simp only [h0,Bool.false_eq_true,if_false]
      obtain⟨b,r,hb,g1,g2,g3,g4⟩:=hh
      rw [hb] at hlen ⊢
      rw [List.cons_append] at hlen ⊢
      rw [y9,sb]
      simp only [Sum.elim_inr]
      have hb':b::(r++rest)=txt (.mk k n s items names)++rest:=by rw [hb];rfl
      rcases hc with⟨rfl,rfl,rfl,rfl,h1,h2⟩|⟨rfl,rfl,rfl,rfl,h1⟩|⟨rfl,rfl,rfl,rfl,hm⟩|⟨rfl,hN,hl,rfl,rfl,hm⟩
      · have hd := qal.1 (g1 rfl)
        have q1:((b.toNat:Int)==34)=false:=by rw [beq_eq_false_iff_ne];omega
        have q2:((b.toNat:Int)==91)=false:=by rw [beq_eq_false_iff_ne];omega
        have q3:((b.toNat:Int)==123)=false:=by rw [beq_eq_false_iff_ne];omega
        simp only [q1,q2,q3,Bool.false_eq_true,if_false]
        have e:txt (.mk 1 n [] [] [])=Lib.itoa n:=by unfold txt;simp
        rw [e] at hb'
        rw [hb'] at hlen ⊢
        rw [q4f h1 h2 hr (by omega),sb]
        rfl
      · have := g2 rfl
        subst this
        have e:txt (.mk 2 0 s [] [])=quo s:=by unfold txt;simp
        rw [e] at hb'
        rw [hb'] at hlen ⊢
        rw [if_pos (by rfl),qum h1 hlen,sb]
        rfl
      · have := g3 rfl
        subst this
        have hb2:r++rest=jr true (qm 3 items [])++93::rest:=by
          rw [v8 (by omega) (by omega)] at hb'
          simp at hb'
          exact hb'
        rw [hb2] at hlen ⊢
        rw [if_neg (by decide),if_pos (by rfl)]
        rw [q4l]
        unfold q83
        have h1:(1:Int)≤(((91:UInt8)::(jr true (qm 3 items [])++93::rest):Str).length:Int):=by rw [List.length_cons];omega
        simp only [h1,Int.le_refl,if_true,Int.toNat_natCast,List.take_length,List.drop_succ_cons,List.drop_zero]
        have hL:=q5e (k:=3) (e:=93) (by omega) (.inl ⟨rfl,rfl⟩) (GVal.mk 0 0 [] [] []) (names:=[]) hi (by intro h;omega) (fun _=>rfl) hm (ih (by omega)) rest items.length 0 (by omega) (by
          rw [List.drop_zero]
          rw [List.length_cons] at hlen
          simp only [decide_true]
          omega)
        simp only [decide_true,List.drop_zero,List.take_zero] at hL
        have hL:vl (((d:Int)+1,(93:Int)),(jr true (qm 3 items [])++93::rest,(((3:Int),((0:Int),[])),(GVal.mk 0 0 [] [] [],([],[])))))=some (.inr ((93:Int),(93::rest,(GVal.mk 0 0 [] [] [],(((3:Int),((0:Int),[])),(items,[])))))):=hL
        rw [hL,sb]
        simp only [Sum.elim_inr,ue]
        rw [sb,if_pos (by rfl),Sum.elim_inr,sb,Sum.elim_inr,qq]
      · have := g4 rfl
        subst this
        have hb2:r++rest=jr true (qm 4 items names)++125::rest:=by
          rw [v8 (by omega) (by omega)] at hb'
          simp at hb'
          exact hb'
        rw [hb2] at hlen ⊢
        rw [if_neg (by decide),if_neg (by decide),if_pos (by rfl)]
        rw [q4l]
        unfold q83
        have h1:(1:Int)≤(((123:UInt8)::(jr true (qm 4 items names)++125::rest):Str).length:Int):=by rw [List.length_cons];omega
        simp only [h1,Int.le_refl,if_true,Int.toNat_natCast,List.take_length,List.drop_succ_cons,List.drop_zero]
        have hL:=q5e (k:=4) (e:=125) (by omega) (.inr ⟨rfl,rfl⟩) (GVal.mk 0 0 [] [] []) (names:=names) hi (fun _=>⟨hl,qhi hN⟩) (by intro h;omega) hm (ih (by omega)) rest items.length 0 (by omega) (by
          rw [List.drop_zero]
          rw [List.length_cons] at hlen
          simp only [decide_true]
          omega)
        simp only [decide_true,List.drop_zero,List.take_zero] at hL
        have hL:vl (((d:Int)+1,(125:Int)),(jr true (qm 4 items names)++125::rest,(((4:Int),((0:Int),[])),(GVal.mk 0 0 [] [] [],([],[])))))=some (.inr ((125:Int),(125::rest,(GVal.mk 0 0 [] [] [],(((4:Int),((0:Int),[])),(items,names)))))):=hL
        rw [hL,sb]
        simp only [Sum.elim_inr,ue]
        rw [sb,if_pos (by rfl),Sum.elim_inr,sb,Sum.elim_inr,qq]
theorem qpn{v:GVal}(h:okV 6 v=true)(hl:(txt v).length≤4096):z0b ((6:Int),txt v)=some (.inr (v,[])):=by
  have:=q4d 6 (by omega) v h [] (by intro b r q;cases q) (by simpa using hl)
  rw [List.append_nil] at this
  exact this
theorem qyj{v w:GVal}(hv:okV 6 v=true)(hw:okV 6 w=true)(hl:(txt v).length≤4096)(h:txt v=txt w):v=w:=by
  have h1:=qpn hv hl
  have h2:=qpn hw (by rw [←h];exact hl)
  rw [h,h2] at h1
  injection h1 with h1
  injection h1 with h1
  injection h1 with h1
  exact h1.symm
def qcs(s:Str)(v:GVal):Prop:=okV 6 v=true∧txt v=s
theorem jln {s : Str} : ∃ r, z3f s = some r ∧ (if s.length > 4096 then r = (GVal.mk 0 0 [] [] [], 2) else (qcs s r.1 ∧ inV r.1 ∧ r.2 = 0) ∨ ((∀ v, ¬ qcs s v) ∧ r = (GVal.mk 0 0 [] [] [], 6))) := by
  unfold z3f
  by_cases hl:s.length>4096
  · have : (s.length : Int) > 4096 := by omega
    simp only [this,decide_true,if_true,hl]
    exact⟨_,rfl,rfl⟩
  · have hl' : ¬ (s.length : Int) > 4096 := by omega
    simp only [hl',decide_false,Bool.false_eq_true,if_false,hl]
    obtain⟨r,h1,h2⟩:=q8x 6 (by omega) s (by omega)
    have h1:z0b ((6:Int),s)=some r:=h1
    have hno:(∀v,qcs s v→r= .inr (v,[])):=by
      rintro v ⟨q1,q2⟩
      have:=qpn q1 (by rw [q2];omega)
      rw [q2,h1] at this
      exact Option.some.inj this
    rw [h1,sb]
    cases r with
    | inl y =>
      refine⟨_,rfl,.inr ⟨fun v hv=> ?_,rfl⟩⟩
      have:=hno v hv
      cases this
    | inr q =>
      obtain⟨v,t⟩:=q
      have hvv:=(h2 v t rfl).1
      simp only [Sum.elim_inr,qq,je9 hvv,sb]
      have hno: ∀x,qcs s x→v=x:=fun x hx=>by
        have:=hno x hx
        injection this with this
        injection this
      by_cases ok:okV 6 v=true
      · by_cases lg : (txt v).length > 4096
        · simp only [ok, lg, if_true]
          rw [if_pos (by decide)]
          refine⟨_,rfl,.inr ⟨fun x hx=> ?_,rfl⟩⟩
          have:=hno x hx
          subst this
          rw [hx.2] at lg
          omega
        · simp only [ok, lg, if_true, if_false]
          rw [if_neg (by decide)]
          by_cases eq:txt v=s
          · rw [if_neg (by simp [eq])]
            exact⟨_,rfl,.inl ⟨⟨ok,eq⟩,hvv,rfl⟩⟩
          · rw [if_pos (by simpa using eq)]
            refine⟨_,rfl,.inr ⟨fun x hx=> ?_,rfl⟩⟩
            have:=hno x hx
            subst this
            exact eq hx.2
      · have ok : okV 6 v = false := by simpa using ok
        simp only [ok,Bool.false_eq_true,if_false]
        rw [if_pos (by decide)]
        refine⟨_,rfl,.inr ⟨fun x hx=> ?_,rfl⟩⟩
        have:=hno x hx
        subst this
        rw [hx.1] at ok
        cases ok
end Go.Plain
namespace Go.Plain
open Go.AM
open Classical
theorem qhj(d:Nat)(s:Str):okV (d+1) (.mk 2 0 s [] [])=okW s:=by
  simp [okV,GVal.items,GVal.kind,GVal.names,GVal.s,GVal.n]
end Go.Plain
namespace Go.Plain
open Go.AM
open Classical
theorem xm{s:Str}{i:Nat}{b:UInt8}{r:Str}(h:s.drop i=b::r):i<s.length∧(i:Int)<(s.length:Int)∧bt s (i:Int)=(b.toNat:Int)∧s.drop (i+1)=r:=by
  have hl:i<s.length:=by
    rcases Nat.lt_or_ge i s.length with q|q
    · exact q
    · rw [List.drop_of_length_le q] at h;cases h
  rw [jb hl] at h
  injection h with h1 h2
  exact⟨hl,by omega,by rw [ww hl,h1],h2⟩
theorem qke{s a b:Str}{i:Nat}(h:s.drop i=a++b):s.drop (i+a.length)=b:=by
  rw [←List.drop_drop,h,List.drop_left]
theorem zp{s a b:Str}{i:Nat}(h:s.drop i=a++b)(hi:i≤s.length):i+a.length+b.length=s.length:=by
  have:=congrArg List.length h
  rw [List.length_drop,List.length_append] at this
  omega
def n34(b:UInt8):Bool:= !decide (b=34)
theorem q01 {s : Str} (hs : s.length ≤ 4096) (at1 : Nat) (z : GVal) : ∀ (m i : Nat), i + m = s.length → at1 + 1 ≤ i →
    qyw (((i:Int),((at1:Int),s)),(z,0))=some (if((s.drop i).takeWhile n34).length<(s.drop i).length then .inl (.mk 2 0 ((s.drop (at1+1)).take (i-(at1+1)+((s.drop i).takeWhile n34).length)) [] [],((i+((s.drop i).takeWhile n34).length+1:Nat):Int)) else .inr (z,0)):=by
  intro m
  induction m with
  | zero =>
    intro i hi ha
    rw [List.drop_of_length_le (by omega),qvo]
    unfold qjf
    have: ¬((i:Int)<(s.length:Int)):=by omega
    simp [this,qq]
  | succ m ih =>
    intro i hi ha
    have hlt:i<s.length:=by omega
    have h1:(i:Int)<(s.length:Int):=by omega
    have h0:(0:Int)≤(i:Int):=by omega
    have hw:w64 ((i:Int)+1)=((i+1:Nat):Int):=by rw [qh (by omega)];omega
    have hw2:w64 ((at1:Int)+1)=((at1+1:Nat):Int):=by rw [qh (by omega)];omega
    have hle:((at1+1:Nat):Int)≤(i:Int):=by omega
    have hle2:(i:Int)≤(s.length:Int):=by omega
    have h0':(0:Int)≤((at1+1:Nat):Int):=by omega
    rw [qvo]
    unfold qjf
    simp only [h1,h0,h0',hle,hle2,decide_true,if_true,ww hlt,hw,hw2,qq,Int.toNat_natCast]
    rw [ih (i+1) (by omega) (by omega),jb hlt]
    by_cases e:s[i]=34
    · have e1 : ((s[i].toNat : Int) == 34) = true := by rw [e]; rfl
      have e2:n34 s[i]=false:=by simp [n34,e]
      simp only [e1,if_true,List.takeWhile_cons,e2,Bool.false_eq_true,if_false,List.length_nil,List.length_cons,Nat.add_zero]
      rw [if_pos (by omega),List.drop_take]
    · have e1 : ((s[i].toNat : Int) == 34) = false := by
        rw [beq_eq_false_iff_ne]
        intro h
        exact e (UInt8.toNat_inj.1 (by have:(34:UInt8).toNat=34:=rfl;omega))
      have e2:n34 s[i]=true:=by simp [n34,e]
      simp only [e1,Bool.false_eq_true,if_false,List.takeWhile_cons,e2,if_true,List.length_cons]
      by_cases q:((s.drop (i+1)).takeWhile n34).length<(s.drop (i+1)).length
      · rw [if_pos q, if_pos (by omega)]
        congr 3
        · congr 2;omega
        · omega
      · rw [if_neg q,if_neg (by omega)]
theorem q00 {s : Str} (hs : s.length ≤ 4096) (i : Nat) : z1g (s, (i : Int)) = some (match s.drop i with
    |[]=>(.mk 0 0 [] [] [], -1)
    |b::c=>if b=34 then(if(c.takeWhile n34).length<c.length then(.mk 2 0 (c.takeWhile n34) [] [],((i+(c.takeWhile n34).length+2:Nat):Int)) else(.mk 0 0 [] [] [], -1)) else(.mk 0 0 [] [] [], -1)):=by
  unfold z1g
  cases hd:s.drop i with
  | nil =>
    have hl:s.length≤i:=by
      have:=congrArg List.length hd
      simp at this
      omega
    have:(i:Int)≥(s.length:Int):=by omega
    simp only [this,decide_true,if_true]
  | cons b c =>
    obtain⟨g1,g2,g3,g4⟩:=xm hd
    have k1: ¬(i:Int)≥(s.length:Int):=by omega
    have k2:(0:Int)≤(i:Int):=by omega
    simp only [k1,k2,g2,g3,decide_false,Bool.false_eq_true,if_false,if_true]
    by_cases e:b=34
    · subst e
      have e1:((((34:UInt8)).toNat:Int) !=34)=false:=rfl
      have hw2:w64 ((i:Int)+1)=((i+1:Nat):Int):=by rw [qh (by omega)];omega
      simp only [e1,Bool.false_eq_true,if_false,hw2,if_true]
      rw [q01 hs i _ (s.length-(i+1)) (i+1) (by omega) (Nat.le_refl _),sb,g4,Nat.sub_self,Nat.zero_add]
      have ht:c.take (c.takeWhile n34).length=c.takeWhile n34:=by
        have:=List.takeWhile_append_dropWhile (p:=n34) (l:=c)
        have h2:=congrArg (List.take (c.takeWhile n34).length) this
        rw [List.take_left] at h2
        exact h2.symm
      rw [ht]
      by_cases q:(c.takeWhile n34).length<c.length
      · rw [if_pos q, if_pos q]
        simp only [Sum.elim_inl,qq]
        congr 3
        omega
      · rw [if_neg q, if_neg q]
        rfl
    · have e1 : ((b.toNat : Int) != 34) = true := by
        rw [bne_iff_ne]
        intro h
        exact e (UInt8.toNat_inj.1 (by have:(34:UInt8).toNat=34:=rfl;omega))
      simp only [e1,if_true,e,if_false]
theorem jje(c:Str)(h:(c.takeWhile n34).length<c.length): ∃r,c=c.takeWhile n34++34::r:=by
  have hs:=List.takeWhile_append_dropWhile (p:=n34) (l:=c)
  cases hd:c.dropWhile n34 with
  | nil =>
    rw [hd] at hs
    have:=congrArg List.length hs
    simp at this
    omega
  | cons b r =>
    have hb:n34 b=false:=by
      have h1:=List.head?_dropWhile_not n34 c
      rw [hd] at h1
      simpa using h1
    have:b=34:=by simpa [n34] using hb
    subst this
    refine⟨r, ?_⟩
    rw [hd] at hs
    exact hs.symm
theorem jkk{w:Str}(rest:Str)(h: ∀b∈w,b≠34):(w++34::rest).takeWhile n34=w:=by
  induction w with
  |nil=>simp [n34]
  | cons b r ih =>
    have h1:=h b (by simp)
    have h2:=ih fun x hx=>h x (by simp [hx])
    simp [n34,h1] at h2 ⊢
    exact h2
theorem qt2 {s : Str} (hs : s.length ≤ 4096) (i : Nat) : ∃ v e, z1g (s, (i : Int)) = some (v, e) ∧ (e = -1 ∨ ∃ (w : Str) (j : Nat), v = .mk 2 0 w [] [] ∧ e = (j : Int) ∧ j ≤ s.length ∧ s.drop i = quo w ++ s.drop j) := by
  rw [q00 hs i]
  cases hd:s.drop i with
  |nil=>exact⟨_,_,rfl,.inl rfl⟩
  | cons b c =>
    obtain⟨g1,g2,g3,g4⟩:=xm hd
    by_cases e:b=34
    · subst e
      simp only [if_true]
      by_cases q:(c.takeWhile n34).length<c.length
      · rw [if_pos q]
        obtain⟨r,hr⟩:=jje c q
        have hq:s.drop i=quo (c.takeWhile n34)++r:=by
          rw [hd]
          conv=>lhs;rw [hr]
          simp [quo]
        have hdm:=qke hq
        have hln:=zp hq (by omega)
        have hlq:(quo (c.takeWhile n34)).length=(c.takeWhile n34).length+2:=by simp [quo]
        refine⟨_,_,rfl,.inr ⟨c.takeWhile n34,i+(c.takeWhile n34).length+2,rfl,rfl,by omega, ?_⟩⟩
        rw [←hd,hq,←hdm,hlq]
        rfl
      · rw [if_neg q]
        exact⟨_,_,rfl,.inl rfl⟩
    · simp only [e, if_false]
      exact⟨_,_,rfl,.inl rfl⟩
theorem qo3{s w rest:Str}(hs:s.length≤4096){i:Nat}(h:s.drop i=quo w++rest)(hw: ∀b∈w,b≠34):z1g (s,(i:Int))=some (.mk 2 0 w [] [],((i+(quo w).length:Nat):Int)):=by
  have hd:s.drop i=34::(w++34::rest):=by rw [h];simp [quo]
  rw [q00 hs i,hd]
  simp only [if_true]
  rw [jkk rest hw,if_pos (by simp)]
  congr 3
  simp [quo]
  omega
theorem qso {s : Str} (hs : s.length ≤ 4096) (fr : Nat) (z : GVal) : ∀ (m i : Nat) (n : Int), i + m = s.length → 0 ≤ n → n ≤ 10995116277769 →
    ∃r,qk6 (((i:Int),(s,(n,(fr:Int)))),(z,0))=some r∧(r= .inl (.mk 0 0 [] [] [], -1)∨∃(j:Nat) (n':Int),r= .inr (((j:Int),(n',((fr:Int),s))),(z,0))∧i≤j∧j≤s.length∧0≤n'∧n'≤10995116277769):=by
  intro m
  induction m with
  | zero =>
    intro i n hi h0 h1
    rw [qfc]
    unfold qb2
    have: ¬((i:Int)<(s.length:Int)):=by omega
    simp only [this,decide_false,Bool.false_eq_true,if_false,qq]
    exact⟨_,rfl,.inr ⟨i,n,rfl,by omega,by omega,h0,h1⟩⟩
  | succ m ih =>
    intro i n hi n0 n1
    have hlt:i<s.length:=by omega
    have h1:(i:Int)<(s.length:Int):=by omega
    have h0:(0:Int)≤(i:Int):=by omega
    have hw:w64 ((i:Int)+1)=((i+1:Nat):Int):=by rw [qh (by omega)];omega
    rw [qfc]
    unfold qb2
    simp only [h1,h0,decide_true,if_true,ww hlt,hw,qq]
    generalize s[i]=b
    have hb:=b.toNat_lt
    by_cases c1:(b.toNat:Int)≥48
    · by_cases c2 : (b.toNat : Int) ≤ 57
      · by_cases c3 : n > 1099511627776
        · simp only [c1, c2, c3, decide_true, if_true]
          exact⟨_,rfl,.inl rfl⟩
        · have e1 : IntKind.wrap .u8 ((b.toNat : Int) - 48) = (b.toNat : Int) - 48 := wr8 (by omega)
          have e2:w64 ((b.toNat:Int)-48)=(b.toNat:Int)-48:=qh (by omega)
          have e3:w64 ((10:Int)*n)=(10:Int)*n:=qh (by omega)
          have e4:w64 ((10:Int)*n+((b.toNat:Int)-48))=(10:Int)*n+((b.toNat:Int)-48):=qh (by omega)
          simp only [c1,c2,c3,decide_true,decide_false,Bool.false_eq_true,if_true,if_false,e1,e2,e3,e4]
          obtain⟨r,q1,q2⟩:=ih (i+1) ((10:Int)*n+((b.toNat:Int)-48)) (by omega) (by omega) (by omega)
          refine⟨r,q1, ?_⟩
          rcases q2 with q|⟨j,n',p1,p2,p3⟩
          · exact .inl q
          · exact .inr ⟨j,n',p1,by omega,p3⟩
      · simp only [c1, c2, decide_true, decide_false, Bool.false_eq_true, if_true, if_false]
        exact⟨_,rfl,.inr ⟨i,n,rfl,by omega,by omega,n0,n1⟩⟩
    · simp only [c1, decide_false, Bool.false_eq_true, if_false]
      exact⟨_,rfl,.inr ⟨i,n,rfl,by omega,by omega,n0,n1⟩⟩
def q7p(n:Nat)(w:Str):Nat:=w.foldl (fun a b=>10*a+(b.toNat-48)) n
theorem qxv: ∀(w:Str) (n:Nat),n≤q7p n w
  |[],n=>Nat.le_refl _
  | b :: w, n => by
    have:=qxv w (10*n+(b.toNat-48))
    show n≤q7p (10*n+(b.toNat-48)) w
    omega
theorem qor {s : Str} (hs : s.length ≤ 4096) (fr : Nat) (z : GVal) (rest : Str) (hr : qxu rest) : ∀ (w : Str) (i n : Nat), w.all dg = true → s.drop i = w ++ rest → i ≤ s.length → q7p n w ≤ 1099511627776 →
    qk6 (((i:Int),(s,((n:Int),(fr:Int)))),(z,0))=some (.inr (((((i+w.length:Nat):Int)),((q7p n w:Nat),((fr:Int),s))),(z,0))):=by
  intro w
  induction w with
  | nil =>
    intro i n hw hd hi hn
    rw [List.nil_append] at hd
    rw [qfc]
    unfold qb2
    cases hq:rest with
    | nil =>
      rw [hq] at hd
      have hl:s.length≤i:=by
        have:=congrArg List.length hd
        simp at this
        omega
      have: ¬((i:Int)<(s.length:Int)):=by omega
      simp only [this,decide_false,Bool.false_eq_true,if_false,qq]
      rfl
    | cons b r =>
      rw [hq] at hd
      obtain⟨g1,g2,g3,g4⟩:=xm hd
      have hb:=hr b r hq
      have h0:(0:Int)≤(i:Int):=by omega
      simp only [g2,h0,g3,decide_true,if_true,qq]
      by_cases c1:(b.toNat:Int)≥48
      · have c2 : ¬ (b.toNat : Int) ≤ 57 := by
          intro c2
          have:dg b=true:=qal.2 ⟨by omega,by omega⟩
          rw [hb] at this
          cases this
        simp only [c1,c2,decide_true,decide_false,Bool.false_eq_true,if_true,if_false]
        rfl
      · simp only [c1, decide_false, Bool.false_eq_true, if_false]
        rfl
  | cons b w ih =>
    intro i n hw hd hi hn
    simp only [List.all_cons,Bool.and_eq_true] at hw
    have hb:=qal.1 hw.1
    obtain⟨g1,g2,g3,g4⟩:=xm hd
    have h0:(0:Int)≤(i:Int):=by omega
    have hnb:=qxv (b::w) n
    have hn':q7p (10*n+(b.toNat-48)) w≤1099511627776:=hn
    have hnb':=qxv w (10*n+(b.toNat-48))
    have c1:(b.toNat:Int)≥48:=by omega
    have c2:(b.toNat:Int)≤57:=by omega
    have c3: ¬(n:Int)>1099511627776:=by omega
    have hwi:w64 ((i:Int)+1)=((i+1:Nat):Int):=by rw [qh (by omega)];omega
    have e1:IntKind.wrap .u8 ((b.toNat:Int)-48)=(b.toNat:Int)-48:=wr8 (by omega)
    have e2:w64 ((b.toNat:Int)-48)=(b.toNat:Int)-48:=qh (by omega)
    have e3:w64 ((10:Int)*n)=(10:Int)*n:=qh (by omega)
    have e4:w64 ((10:Int)*n+((b.toNat:Int)-48))=((10*n+(b.toNat-48):Nat):Int):=by rw [qh (by omega)];omega
    rw [qfc]
    unfold qb2
    simp only [g2,h0,g3,c1,c2,c3,decide_true,decide_false,Bool.false_eq_true,if_true,if_false,hwi,qq,e1,e2,e3,e4]
    rw [ih (i+1) (10*n+(b.toNat-48)) hw.2 g4 (by omega) hn']
    have hl:i+1+w.length=i+(b::w).length:=by rw [List.length_cons];omega
    rw [hl]
    rfl
theorem q3h {s : Str} (hs : s.length ≤ 4096) {i : Nat} (hi : i ≤ s.length) : ∃ v e, z1d (s, (i : Int)) = some (v, e) ∧ (e = -1 ∨ ∃ (n : Int) (j : Nat), 0 ≤ n ∧ n ≤ 10995116277769 ∧ v = .mk 1 n [] [] [] ∧ e = (j : Int) ∧ j ≤ s.length ∧ s.drop i = Lib.itoa n ++ s.drop j) := by
  unfold z1d
  simp only
  obtain⟨r,h1,h2⟩:=qso hs i (GVal.mk 0 0 [] [] []) (s.length-i) i 0 (by omega) (by omega) (by omega)
  rw [h1,sb]
  rcases h2 with rfl|⟨j,n,rfl,k1,k2,k3,k4⟩
  · exact⟨_,_,rfl,.inl rfl⟩
  · simp only [Sum.elim_inr]
    by_cases c:(j:Int)=(i:Int)
    · rw [if_pos (by simpa using c)]
      exact⟨_,_,rfl,.inl rfl⟩
    · rw [if_neg (by simpa using c), qab (by omega) (by omega), sb, if_pos (by omega), if_pos (by omega), if_pos (by omega)]
      simp only [Int.toNat_natCast]
      by_cases q:Lib.itoa n=List.drop i (List.take j s)
      · rw [if_neg (by simp [← q])]
        refine⟨_,_,rfl,.inr ⟨n,j,k3,k4,rfl,rfl,k2, ?_⟩⟩
        rw [q]
        have h3:=List.take_append_drop j s
        have h4:=congrArg (List.drop i) h3
        rw [List.drop_append_of_le_length (by rw [List.length_take];omega)] at h4
        exact h4.symm
      · rw [if_pos (by simpa using q)]
        exact⟨_,_,rfl,.inl rfl⟩
theorem q0k{s:Str}(hs:s.length≤4096){i:Nat}(hi:i≤s.length){n:Int}(h0:0≤n)(h1:n≤1099511627776){rest:Str}(hr:qxu rest)(hd:s.drop i=Lib.itoa n++rest):
    z1d (s,(i:Int))=some (.mk 1 n [] [] [],((i+(Lib.itoa n).length:Nat):Int)):=by
  obtain⟨u,rfl⟩: ∃u:Nat,n=u:=⟨n.toNat,by omega⟩
  rw [Lib.itoa_nonneg] at hd ⊢
  obtain⟨a1,a2,a3,a4,a5,a6⟩:=qkd u
  have a2':q7p 0 (Lib.decDigits u)=u:=a2
  have hln:=zp hd hi
  have hne:0<(Lib.decDigits u).length:=List.length_pos_iff.2 a3
  unfold z1d
  simp only
  have hL:=qor hs i (GVal.mk 0 0 [] [] []) rest hr (Lib.decDigits u) i 0 a1 hd hi (by rw [a2'];omega)
  rw [a2'] at hL
  have hL:qk6 (((i:Int),(s,((0:Int),(i:Int)))),(GVal.mk 0 0 [] [] [],(0:Int)))=_:=hL
  rw [hL,sb]
  simp only [Sum.elim_inr]
  rw [if_neg (by rw [beq_iff_eq];omega),qab (by omega) (by omega),sb,if_pos (by omega),if_pos (by omega),if_pos (by omega)]
  simp only [Int.toNat_natCast]
  have q:Lib.itoa (u:Int)=List.drop i (List.take (i+(Lib.decDigits u).length) s):=by
    rw [Lib.itoa_nonneg,List.drop_take,hd,Nat.add_sub_cancel_left,List.take_left]
  rw [if_neg (by simp [←q])]
end Go.Plain
namespace Go.Plain
open Go.AM
open Classical
theorem qxe(x:Str)(l:List Str)(h:l≠[]):jr true (x::l)=x++44::jr true l:=by
  cases l with
  |nil=>exact absurd rfl h
  |cons y r=>simp [jr]
theorem qoz{k:Int}{x:GVal}{xs:List GVal}{ns:List Str}(hk:k≠4):qm k (x::xs) ns=txt x::qm k xs ns:=by simp [qm,hk]
theorem ql0{x:GVal}{xs:List GVal}{n:Str}{ns:List Str}:qm 4 (x::xs) (n::ns)=gm n (txt x)::qm 4 xs ns:=by simp [qm]
noncomputable def qtp(s:Str)(end1 deep:Int)(c:GVal×Int)(c1:Int×(Int×Str))(c2:List GVal)(c3:List Str)(at1:Int):Option ((GVal×Int)⊕(GVal×Int)):=
  z05 (s,(at1,(w64 (deep-(1:Int)))))>>=fun r=>
  if(decide (r.2<(0:Int))) then some (.inl ((GVal.mk (0:Int) (0:Int) [] [] []),(-1:Int))) else
  if(decide (r.2≥(s.length:Int))) then some (.inl ((GVal.mk (0:Int) (0:Int) [] [] []),(-1:Int))) else
  if(qi (c2.length+[r.1.re].length) 80) then
  if((0:Int)≤r.2) then
  if(r.2<(s.length:Int)) then
  if((bt s r.2)==end1) then some (.inl ((GVal.mk c1.1 c1.2.1 c1.2.2 (c2++[r.1.re]) c3),(w64 (r.2+(1:Int))))) else
  if((0:Int)≤r.2) then
  if(r.2<(s.length:Int)) then
  if((bt s r.2) !=(44:Int)) then some (.inl ((GVal.mk (0:Int) (0:Int) [] [] []),(-1:Int))) else
  ji ((s,(end1,(deep,(w64 (r.2+(1:Int)))))),((c.1.re,c.2),(c1,((c2++[r.1.re]),c3)))) else none else none else none else none else none
theorem qoj(s:Str)(end1 deep at1:Int)(c:GVal×Int)(c1:Int×(Int×Str))(c2:List GVal)(c3:List Str):
    ji ((s,(end1,(deep,at1))),(c,(c1,(c2,c3))))=(if(decide ((c2.length:Int)<(17:Int))) then(if(c1.1==(4:Int)) then(z1g (s,at1)>>=fun q=>
      if(decide (q.2<(0:Int))) then some (.inl ((GVal.mk (0:Int) (0:Int) [] [] []),(-1:Int))) else
      if(decide (q.2≥(s.length:Int))) then some (.inl ((GVal.mk (0:Int) (0:Int) [] [] []),(-1:Int))) else
      if((0:Int)≤q.2) then
      if(q.2<(s.length:Int)) then
      if((bt s q.2) !=(58:Int)) then some (.inl ((GVal.mk (0:Int) (0:Int) [] [] []),(-1:Int))) else
      if(qi (c3.length+[q.1.s].length) 16) then
      qtp s end1 deep c c1 c2 (c3++[q.1.s]) (w64 (q.2+(1:Int))) else none else none else none) else
      qtp s end1 deep c c1 c2 c3 at1) else
      some (.inr (c.1.re,c.2))):=by
  rw [q4h]
  rfl
def jqd (s : Str) (k : Int) (e : UInt8) (c2 : List GVal) (c3 : List Str) (i : Nat) (r : (GVal × Int) ⊕ (GVal × Int)) : Prop :=
  (∃v,r= .inr (v,0))∨(∃v,r= .inl (v, -1))∨∃(xs:List GVal) (ns:List Str) (j:Nat),r= .inl (.mk k 0 [] (c2++xs) (c3++ns),(j:Int))∧j≤s.length∧xs≠[]∧s.drop i=jr true (qm k xs ns)++e::s.drop j∧
    qf3 xs∧c2.length+xs.length≤17∧(k=4→ns.length=xs.length)∧(k≠4→ns=[])∧∀x∈ns,x.length≤4096
theorem jgh {d : Nat} (hd : (d : Int) + 1 ≤ 9223372036854775807) {s : Str} (hs : s.length ≤ 4096) (k : Int) (e : UInt8) (c : GVal)
    (hv: ∀i:Nat,i≤s.length→∃v e,z05 (s,((i:Int),(d:Int)))=some (v,e)∧(e= -1∨∃j:Nat,e=(j:Int)∧j≤s.length∧inV v∧s.drop i=txt v++s.drop j)):
    ∀(m i:Nat) (c2:List GVal) (c3:List Str),c2.length+m=17→c3.length≤c2.length→i≤s.length→
    ∃r,ji ((s,((e.toNat:Int),((d:Int)+1,(i:Int)))),((c,0),((k,(0,[])),(c2,c3))))=some r∧jqd s k e c2 c3 i r:=by
  intro m
  induction m with
  | zero =>
    intro i c2 c3 hm h3 hi
    rw [qoj]
    have: ¬(c2.length:Int)<17:=by omega
    simp only [this,decide_false,Bool.false_eq_true,if_false,qq]
    exact⟨_,rfl,.inl ⟨c,rfl⟩⟩
  | succ m ih =>
    intro i c2 c3 hm h3 hi
    have hw:w64 ((d:Int)+1-1)=(d:Int):=by rw [qh (by omega)];omega
    have hc17:(c2.length:Int)<17:=by omega
    -- an item at a place
    have hK : ∀ (p : Nat) (n3 : List Str), p ≤ s.length → n3.length ≤ c2.length + 1 → ∃ r, qtp s (e.toNat : Int) ((d : Int) + 1) (c, 0) (k, (0, [])) c2 n3 (p : Int) = some r ∧
        ((∃ v, r = .inr (v, 0)) ∨ (∃ v, r = .inl (v, -1)) ∨ ∃ (x : GVal) (xs : List GVal) (ns : List Str) (j : Nat), r = .inl (.mk k 0 [] (c2 ++ x :: xs) (n3 ++ ns), (j : Int)) ∧ j ≤ s.length ∧
          s.drop p=txt x++(if xs=[] then e::s.drop j else 44::jr true (qm k xs ns)++e::s.drop j)∧inV x∧qf3 xs∧c2.length+1+xs.length≤17∧(k=4→ns.length=xs.length)∧(k≠4→ns=[])∧∀x∈ns,x.length≤4096):=by
      intro p n3 hp hn3
      unfold qtp
      rw [hw]
      obtain⟨x,a,h1,h2⟩:=hv p hp
      rw [h1,sb]
      rcases h2 with rfl|⟨j,rfl,j1,j2,j3⟩
      · exact⟨_,rfl,.inr (.inl ⟨_,rfl⟩)⟩
      · have q0 : ¬ (j : Int) < 0 := by omega
        have q0':(0:Int)≤(j:Int):=by omega
        simp only [q0,q0',decide_false,Bool.false_eq_true,if_false,if_true,qq]
        by_cases q1:(j:Int)≥(s.length:Int)
        · simp only [q1, decide_true, if_true]
          exact⟨_,rfl,.inr (.inl ⟨_,rfl⟩)⟩
        · have q2 : (j : Int) < (s.length : Int) := by omega
          have hjl:j<s.length:=by omega
          have hs3:qi (c2.length+[x].length) 80:=zy (by simp;omega) (by omega)
          have hwj:w64 ((j:Int)+1)=((j+1:Nat):Int):=by rw [qh (by omega)];omega
          simp only [q1,q2,decide_false,Bool.false_eq_true,if_false,if_true,hwj,ww hjl]
          rw [if_pos hs3]
          have hdj:=jb hjl
          by_cases q3:s[j]=e
          · rw [if_pos (by rw [q3]; simp)]
            refine⟨_,rfl,.inr (.inr ⟨x,[],[],j+1,by simp,by omega, ?_,j2,trivial,by simp;omega,fun _=>rfl,fun _=>rfl,by simp⟩)⟩
            rw [if_pos rfl,j3,hdj,q3]
          · have q3' : ¬ ((s[j].toNat : Int) == (e.toNat : Int)) = true := by
              rw [beq_iff_eq]
              intro h
              exact q3 (UInt8.toNat_inj.1 (by omega))
            rw [if_neg q3']
            by_cases q4:s[j]=44
            · have q4' : ¬ ((s[j].toNat : Int) != 44) = true := by
                rw [q4]
                decide
              rw [if_neg q4']
              obtain⟨r,g1,g2⟩:=ih (j+1) (c2++[x]) n3 (by simp;omega) (by simp;omega) (by omega)
              rw [g1]
              refine⟨r,rfl, ?_⟩
              rcases g2 with g|g|⟨xs,ns,jj,rfl,g3,g4,g5,g6,g7,g8,g9,g10⟩
              · exact .inl g
              · exact .inr (.inl g)
              · refine .inr (.inr ⟨x, xs, ns, jj, by simp, g3, ?_, j2, g6, by simp at g7; omega, g8, g9, g10⟩)
                rw [if_neg g4,j3,hdj,q4,g5]
                rfl
            · have q4' : ((s[j].toNat : Int) != 44) = true := by
                rw [bne_iff_ne]
                intro h
                exact q4 (UInt8.toNat_inj.1 (by have:(44:UInt8).toNat=44:=rfl;omega))
              rw [if_pos q4']
              exact⟨_,rfl,.inr (.inl ⟨_,rfl⟩)⟩
    rw [qoj]
    simp only [hc17,decide_true,if_true]
    by_cases k4:k=4
    · subst k4
      rw [if_pos (by rfl)]
      obtain⟨v,a,h1,h2⟩:=qt2 hs i
      rw [h1,sb]
      rcases h2 with rfl|⟨w,j,rfl,rfl,j1,j2⟩
      · exact⟨_,rfl,.inr (.inl ⟨_,rfl⟩)⟩
      · have q0 : ¬ (j : Int) < 0 := by omega
        have q0':(0:Int)≤(j:Int):=by omega
        simp only [q0,q0',decide_false,Bool.false_eq_true,if_false,if_true]
        by_cases q1:(j:Int)≥(s.length:Int)
        · simp only [q1, decide_true, if_true]
          exact⟨_,rfl,.inr (.inl ⟨_,rfl⟩)⟩
        · have q2 : (j : Int) < (s.length : Int) := by omega
          have hjl:j<s.length:=by omega
          have hwj:w64 ((j:Int)+1)=((j+1:Nat):Int):=by rw [qh (by omega)];omega
          have hwl:w.length≤4096:=by
            have:=zp j2 hi
            simp [quo] at this
            omega
          simp only [q1,q2,decide_false,Bool.false_eq_true,if_false,if_true,hwj,ww hjl]
          have hdj:=jb hjl
          by_cases q4:s[j]=58
          · have q4' : ¬ ((s[j].toNat : Int) != 58) = true := by
              rw [q4]
              decide
            have hs4:qi (c3.length+[w].length) 16:=zy (by simp;omega) (by omega)
            rw [if_neg q4']
            dsimp only [GVal.s]
            rw [if_pos hs4]
            obtain⟨r,g1,g2⟩:=hK (j+1) (c3++[w]) (by omega) (by simp;omega)
            rw [g1]
            refine⟨r,rfl, ?_⟩
            rcases g2 with g|g|⟨x,xs,ns,jj,rfl,g3,g5,g6,g7,g8,g9,g10,g11⟩
            · exact .inl g
            · exact .inr (.inl g)
            · refine .inr (.inr ⟨x :: xs, w :: ns, jj, by simp, g3, by simp, ?_, ⟨g6, g7⟩, by simp; omega, fun _ => by simp [g9 rfl], fun h => absurd rfl h, fun y hy => ?_⟩)
              · rw [ql0, j2, hdj, q4, g5]
                by_cases hx:xs=[]
                · subst hx
                  have:ns=[]:=List.length_eq_zero_iff.1 (g9 rfl)
                  subst this
                  simp [qm,jr,gm]
                · rw [if_neg hx, qxe]
                  · simp [gm]
                  · intro h
                    have:=vv 4 xs ns (fun _=>g9 rfl)
                    rw [h] at this
                    exact hx (List.length_eq_zero_iff.1 this.symm)
              · rcases List.mem_cons.1 hy with rfl | hy
                · exact hwl
                · exact g11 y hy
          · have q4' : ((s[j].toNat : Int) != 58) = true := by
              rw [bne_iff_ne]
              intro h
              exact q4 (UInt8.toNat_inj.1 (by have:(58:UInt8).toNat=58:=rfl;omega))
            rw [if_pos q4']
            exact⟨_,rfl,.inr (.inl ⟨_,rfl⟩)⟩
    · have k4' : ¬ (k == 4) = true := by simpa using k4
      rw [if_neg k4']
      obtain⟨r,g1,g2⟩:=hK i c3 hi (by omega)
      rw [g1]
      refine⟨r,rfl, ?_⟩
      rcases g2 with g|g|⟨x,xs,ns,jj,rfl,g3,g5,g6,g7,g8,g9,g10,g11⟩
      · exact .inl g
      · exact .inr (.inl g)
      · have hns := g10 k4
        subst hns
        refine .inr (.inr ⟨x::xs,[],jj,by simp,g3,by simp, ?_,⟨g6,g7⟩,by simp;omega,fun h=>absurd h k4,fun _=>rfl,by simp⟩)
        rw [qoz k4,g5]
        by_cases hx:xs=[]
        · subst hx
          simp [qm,jr,k4]
        · rw [if_neg hx, qxe]
          · simp
          · intro h
            have:=vv k xs [] (fun h=>absurd h k4)
            rw [h] at this
            exact hx (List.length_eq_zero_iff.1 this.symm)
theorem quh{k:Int}(h1:k≠1)(h2:k≠2):txt (.mk k 0 [] [] [])=(if k=4 then [123,125] else [91,93]):=by
  rw [v8 h1 h2]
  by_cases h:k=4 <;>simp [h,qm,jr]
theorem jg8 {d : Nat} (hd : (d : Int) + 1 ≤ 9223372036854775807) {s : Str} (hs : s.length ≤ 4096) {k : Int} {o e : UInt8} (hk : (k = 3 ∧ o = 91 ∧ e = 93) ∨ (k = 4 ∧ o = 123 ∧ e = 125))
    (hv: ∀i:Nat,i≤s.length→∃v e,z05 (s,((i:Int),(d:Int)))=some (v,e)∧(e= -1∨∃j:Nat,e=(j:Int)∧j≤s.length∧inV v∧s.drop i=txt v++s.drop j)) {i:Nat} {r:Str} (hdr:s.drop i=o::r):
    ∃ v a, ((ji ((s, ((e.toNat : Int), ((d : Int) + 1, ((i + 1 : Nat) : Int)))), (((GVal.mk 0 0 [] [] []), 0), ((k, (0, [])), ([], [])))) >>= fun r => Sum.elim (fun r1 => some (r1.1.re, r1.2)) (fun _ => some ((GVal.mk 0 0 [] [] []), (-1 : Int))) r) : Option (GVal × Int)) = some (v, a) ∧
      (a= -1∨∃j:Nat,a=(j:Int)∧j≤s.length∧inV v∧s.drop i=txt v++s.drop j):=by
  obtain⟨g1,g2,g3,g4⟩:=xm hdr
  obtain⟨q,h1,h2⟩:=jgh hd hs k e (GVal.mk 0 0 [] [] []) hv 17 (i+1) [] [] rfl (by simp) (by omega)
  rw [h1,sb]
  rcases h2 with⟨v,rfl⟩|⟨v,rfl⟩|⟨xs,ns,j,rfl,p1,p2,p3,p4,p5,p6,p7,p8⟩
  · exact⟨_,_,rfl,.inl rfl⟩
  · exact⟨_,_,rfl,.inl rfl⟩
  · refine ⟨_, _, rfl, .inr ⟨j, rfl, p1, ?_, ?_⟩⟩
    · have hx17 : xs.length ≤ 17 := by simpa using p5
      have hn17:ns.length≤17:=by
        rcases hk with⟨rfl,_⟩|⟨rfl,_⟩
        · rw [p7 (by omega)];simp
        · rw [p6 rfl];exact hx17
      have hk0: -9223372036854775808≤k∧k≤9223372036854775807:=by rcases hk with⟨rfl,_⟩|⟨rfl,_⟩ <;>omega
      have:inV (.mk k 0 [] xs ns):=⟨hk0,by omega,by simp,by omega,p4,by omega,fun x hx=>by have:=p8 x hx;omega⟩
      exact this
    · rw [qq, hdr, ← g4, p3]
      simp only [List.nil_append]
      rcases hk with⟨rfl,rfl,rfl⟩|⟨rfl,rfl,rfl⟩
      · rw [v8 (by omega) (by omega)]
        simp
      · rw [v8 (by omega) (by omega)]
        simp
theorem jd2 {s : Str} (hs : s.length ≤ 4096) : ∀ (d : Nat), (d : Int) ≤ 9223372036854775807 → ∀ i : Nat, i ≤ s.length → ∃ v e, z05 (s, ((i : Int), (d : Int))) = some (v, e) ∧ (e = -1 ∨ ∃ j : Nat, e = (j : Int) ∧ j ≤ s.length ∧ inV v ∧ s.drop i = txt v ++ s.drop j) := by
  intro d
  induction d with
  | zero =>
    intro _ i hi
    rw [q4g]
    unfold q8y
    dsimp only
    by_cases q:decide ((i:Int)≥(s.length:Int))=true
    · rw [if_pos q]
      exact⟨_,_,rfl,.inl rfl⟩
    · rw [if_neg q, if_pos (by rfl)]
      exact⟨_,_,rfl,.inl rfl⟩
  | succ d ih =>
    intro hd i hi
    have hd':(d:Int)+1≤9223372036854775807:=by omega
    have ih:=ih (by omega)
    rw [show((d+1:Nat):Int)=(d:Int)+1 by omega,q4g]
    unfold q8y
    cases hdr:s.drop i with
    | nil =>
      have hl:(i:Int)≥(s.length:Int):=by
        have:=congrArg List.length hdr
        simp at this
        omega
      simp only [hl,decide_true,if_true]
      exact⟨_,_,rfl,.inl rfl⟩
    | cons b c =>
      obtain⟨g1,g2,g3,g4⟩:=xm hdr
      have hl: ¬(i:Int)≥(s.length:Int):=by omega
      have h0:((d:Int)+1==0)=false:=by simpa using(show¬(d:Int)+1=0 by omega)
      have h00:(0:Int)≤(i:Int):=by omega
      have hw:w64 ((i:Int)+1)=((i+1:Nat):Int):=by rw [qh (by omega)];omega
      have hw2:w64 (((i+1:Nat):Int)+1)=((i+2:Nat):Int):=by rw [qh (by omega)];omega
      have h01:(0:Int)≤((i+1:Nat):Int):=by omega
      simp only [hl,h0,h00,g2,g3,hw,hw2,h01,decide_false,Bool.false_eq_true,if_false,if_true]
      have key: ∀(k:Int) (o e:UInt8),((k=3∧o=91∧e=93)∨(k=4∧o=123∧e=125))→b=o→∃v a,((if(decide (((i+1:Nat):Int)<(s.length:Int))) then(if(((i+1:Nat):Int)<(s.length:Int)) then
          if((bt s ((i+1:Nat):Int))==(e.toNat:Int)) then some ((GVal.mk k (0:Int) [] [] []),((i+2:Nat):Int)) else
          ji ((s,((e.toNat:Int),((d:Int)+1,((i+1:Nat):Int)))),(((GVal.mk (0:Int) (0:Int) [] [] []),(0:Int)),((k,((0:Int),[])),([],[]))))>>=fun r=>
          Sum.elim (fun r1=>some (r1.1.re,r1.2)) (fun r1=>some ((GVal.mk (0:Int) (0:Int) [] [] []),(-1:Int))) r else none) else
          ji ((s,((e.toNat:Int),((d:Int)+1,((i+1:Nat):Int)))),(((GVal.mk (0:Int) (0:Int) [] [] []),(0:Int)),((k,((0:Int),[])),([],[]))))>>=fun r=>
          Sum.elim (fun r1=>some (r1.1.re,r1.2)) (fun r1=>some ((GVal.mk (0:Int) (0:Int) [] [] []),(-1:Int))) r):Option (GVal×Int))=some (v,a)∧(a= -1∨∃j:Nat,a=(j:Int)∧j≤s.length∧inV v∧b::c=txt v++s.drop j):=by
        intro k o e hk hb
        have hrow:=jg8 hd' hs hk ih (i:=i) (r:=c) (by rw [hdr,hb])
        rw [hdr] at hrow
        by_cases c1:((i+1:Nat):Int)<(s.length:Int)
        · have hl1 : i + 1 < s.length := by omega
          simp only [c1,decide_true,if_true,ww hl1]
          by_cases c2:s[i+1]=e
          · rw [if_pos (by rw [c2]; simp)]
            refine⟨_,_,rfl,.inr ⟨i+2,rfl,by omega, ?_, ?_⟩⟩
            · refine ⟨?_, by omega, by simp, by simp, trivial, by simp, by simp⟩
              rcases hk with⟨rfl,_⟩|⟨rfl,_⟩ <;>omega
            · rw [← g4, jb hl1, c2, hb]
              rcases hk with⟨rfl,rfl,rfl⟩|⟨rfl,rfl,rfl⟩
              · rw [quh (by omega) (by omega)];rfl
              · rw [quh (by omega) (by omega)];rfl
          · have c2' : ¬ ((s[i + 1].toNat : Int) == (e.toNat : Int)) = true := by
              rw [beq_iff_eq]
              intro h
              exact c2 (UInt8.toNat_inj.1 (by omega))
            rw [if_neg c2']
            exact hrow
        · simp only [c1, decide_false, Bool.false_eq_true, if_false]
          exact hrow
      by_cases b34:b=34
      · have : ((b.toNat : Int) == 34) = true := by rw [b34]; rfl
        simp only [this,if_true]
        obtain⟨v,a,h1,h2⟩:=qt2 hs i
        rw [h1,sb]
        rcases h2 with rfl|⟨w,j,rfl,rfl,j1,j2⟩
        · exact⟨_,_,rfl,.inl rfl⟩
        · have hln := zp j2 hi
          refine⟨.mk 2 0 w [] [],(j:Int),rfl, ?_⟩
          refine .inr ⟨j,rfl,j1,⟨by omega,by omega, ?_,by simp,trivial,by simp,by simp⟩, ?_⟩
          · simp [quo] at hln
            omega
          · rw [← hdr, j2]
            have:txt (.mk 2 0 w [] [])=quo w:=by unfold txt;simp
            rw [this]
      have t34:((b.toNat:Int)==34)=false:=by
        rw [beq_eq_false_iff_ne]
        intro h
        exact b34 (UInt8.toNat_inj.1 (by have:(34:UInt8).toNat=34:=rfl;omega))
      simp only [t34,Bool.false_eq_true,if_false]
      by_cases b123:b=123
      · have t1 : ((b.toNat : Int) != 91) = true := by rw [b123]; rfl
        have t2:((b.toNat:Int) !=123)=false:=by rw [b123];rfl
        have t3:((b.toNat:Int)==123)=true:=by rw [b123];rfl
        simp only [t1,t2,t3,Bool.false_eq_true,if_false,if_true]
        exact key 4 123 125 (.inr ⟨rfl,rfl,rfl⟩) b123
      have t123:((b.toNat:Int)==123)=false:=by
        rw [beq_eq_false_iff_ne]
        intro h
        exact b123 (UInt8.toNat_inj.1 (by have:(123:UInt8).toNat=123:=rfl;omega))
      have u123:((b.toNat:Int) !=123)=true:=by rw [bne_iff_ne];exact beq_eq_false_iff_ne.1 t123
      by_cases b91:b=91
      · have t1 : ((b.toNat : Int) != 91) = false := by rw [b91]; rfl
        simp only [t1,t123,Bool.false_eq_true,if_false]
        exact key 3 91 93 (.inl ⟨rfl,rfl,rfl⟩) b91
      have u91:((b.toNat:Int) !=91)=true:=by
        rw [bne_iff_ne]
        intro h
        exact b91 (UInt8.toNat_inj.1 (by have:(91:UInt8).toNat=91:=rfl;omega))
      simp only [u91,u123,if_true]
      obtain⟨v,a,h1,h2⟩:=q3h hs hi
      rw [h1,sb]
      rcases h2 with rfl|⟨n,j,n0,n1,rfl,rfl,j1,j2⟩
      · exact⟨_,_,rfl,.inl rfl⟩
      · refine ⟨.mk 1 n [] [] [], (j : Int), rfl, ?_⟩
        refine .inr ⟨j,rfl,j1,⟨by omega,by omega,by simp,by simp,trivial,by simp,by simp⟩, ?_⟩
        rw [←hdr,j2]
        have:txt (.mk 1 n [] [] [])=Lib.itoa n:=by unfold txt;simp
        rw [this]
end Go.Plain
namespace Go.Plain
open Go.AM
open Classical
theorem qtq{d:Nat}(hd:d≤6){s:Str}(hs:s.length≤4096){k:Int}{e:UInt8}(he:dg e=false)(he44:e≠44)(c:GVal){c2:List GVal}(h2:c2.length≤15)(c3:List Str){x:GVal}
    (hx: ∀i rest,qxu rest→s.drop i=txt x++rest→i≤s.length→z05 (s,((i:Int),(d:Int)))=some (x,((s.length-rest.length:Nat):Int)))
    (Q:List Str) (rest:Str) {p:Nat} (hp:p≤s.length) (hdr:s.drop p=txt x++(if Q=[] then e::rest else 44::jr true Q++e::rest))
    (R:(GVal×Int)⊕(GVal×Int)) (h0:Q=[]→R= .inl (.mk k 0 [] (c2++[x]) c3,((s.length-rest.length:Nat):Int)))
    (h1:Q≠[]→∀q:Nat,q≤s.length→s.drop q=jr true Q++e::rest→ji ((s,((e.toNat:Int),((d:Int)+1,(q:Int)))),((c,0),((k,(0,[])),(c2++[x],c3))))=some R):
    qtp s (e.toNat:Int) ((d:Int)+1) (c,0) (k,(0,[])) c2 c3 (p:Int)=some R:=by
  have hw:w64 ((d:Int)+1-1)=(d:Int):=by rw [qh (by omega)];omega
  have hnd:qxu (if Q=[] then e::rest else 44::jr true Q++e::rest):=by
    intro b r h
    split at h
    · injection h with h3 _;rw [←h3];exact he
    · injection h with h3 _;rw [←h3];decide
  unfold qtp
  rw [hw,hx p _ hnd hdr hp,sb]
  have hln:=zp hdr hp
  have hdm:=qke hdr
  have hs3:qi (c2.length+[x].length) 80:=zy (by simp;omega) (by omega)
  by_cases hQ:Q=[]
  · rw [if_pos hQ] at hln hdm ⊢
    rw [List.length_cons] at hln ⊢
    have hj:s.length-(rest.length+1)=p+(txt x).length:=by omega
    rw [hj]
    obtain⟨g1,g2,g3,g4⟩:=xm hdm
    have q0: ¬((p+(txt x).length:Nat):Int)<0:=by omega
    have q0':(0:Int)≤((p+(txt x).length:Nat):Int):=by omega
    have q1: ¬((p+(txt x).length:Nat):Int)≥(s.length:Int):=by omega
    have hwj:w64 (((p+(txt x).length:Nat):Int)+1)=((s.length-rest.length:Nat):Int):=by rw [qh (by omega)];omega
    simp only [q0,q0',q1,g2,g3,decide_false,Bool.false_eq_true,if_false,if_true,qq,hwj,beq_self_eq_true]
    rw [if_pos hs3,h0 hQ]
  · rw [if_neg hQ] at hln hdm ⊢
    have hdm:s.drop (p+(txt x).length)=44::(jr true Q++e::rest):=by rw [hdm];rfl
    obtain⟨g1,g2,g3,g4⟩:=xm hdm
    have hj:s.length-(44::jr true Q++e::rest:Str).length=p+(txt x).length:=by omega
    rw [hj]
    have q0: ¬((p+(txt x).length:Nat):Int)<0:=by omega
    have q0':(0:Int)≤((p+(txt x).length:Nat):Int):=by omega
    have q1: ¬((p+(txt x).length:Nat):Int)≥(s.length:Int):=by omega
    have hwj:w64 (((p+(txt x).length:Nat):Int)+1)=((p+(txt x).length+1:Nat):Int):=by rw [qh (by omega)];omega
    have t1:((((44:UInt8)).toNat:Int)==(e.toNat:Int))=false:=by
      rw [beq_eq_false_iff_ne]
      intro h
      exact he44 (UInt8.toNat_inj.1 (by omega)).symm
    have t2:((((44:UInt8)).toNat:Int) !=44)=false:=rfl
    simp only [q0,q0',q1,g2,g3,decide_false,Bool.false_eq_true,if_false,if_true,qq,hwj,t1,t2]
    rw [if_pos hs3]
    exact h1 hQ _ (by omega) g4
theorem jc3 {d : Nat} (hd : d ≤ 6) {s : Str} (hs : s.length ≤ 4096) {k : Int} {e : UInt8} (hk : (k = 3 ∧ e = 93) ∨ (k = 4 ∧ e = 125)) (c : GVal) {items : List GVal} {names : List Str} (hi : items.length ≤ 16)
    (h4:k=4→names.length=items.length∧∀x∈names,okW x=true) (h3:k=3→names=[])
    (hv: ∀x∈items,∀i rest,qxu rest→s.drop i=txt x++rest→i≤s.length→z05 (s,((i:Int),(d:Int)))=some (x,((s.length-rest.length:Nat):Int))) (rest:Str):
    ∀(n m p:Nat),m+n+1=items.length→p≤s.length→s.drop p=jr true ((qm k items names).drop m)++e::rest→
    ji ((s,((e.toNat:Int),((d:Int)+1,(p:Int)))),((c,0),((k,(0,[])),(items.take m,names.take m))))=some (.inl (.mk k 0 [] items names,((s.length-rest.length:Nat):Int))):=by
  have h4':k=4→names.length=items.length:=fun h=>(h4 h).1
  have hed:dg e=false:=by rcases hk with⟨_,rfl⟩|⟨_,rfl⟩ <;>rfl
  have he44:e≠44:=by rcases hk with⟨_,rfl⟩|⟨_,rfl⟩ <;>decide
  intro n
  induction n using Nat.strongRecOn with
  | _ n ih =>
    intro m p hm hp hdr
    have hlt:m<items.length:=by omega
    have hpl:=vv k items names h4'
    have hpa:=qoy h4' hlt
    have hpd:(qm k items names).drop m=(if k=4 then gm (elt .str names m) (txt items[m]) else txt items[m])::(qm k items names).drop (m+1):=by
      rw [jb (by omega)]
      congr 1
      rw [List.getElem?_eq_getElem (by omega)] at hpa
      exact Option.some.inj hpa
    rw [hpd] at hdr
    have hti:items.take m++[items[m]]=items.take (m+1):=(List.take_succ_eq_append_getElem hlt).symm
    have hcl:((items.take m).length:Int)<17:=by rw [List.length_take];omega
    have hjr: ∀P:Str,jr true (P::(qm k items names).drop (m+1))++e::rest=P++(if(qm k items names).drop (m+1)=[] then e::rest else 44::jr true ((qm k items names).drop (m+1))++e::rest):=by
      intro P
      by_cases hQ:(qm k items names).drop (m+1)=[]
      · rw [hQ];simp [jr]
      · rw [if_neg hQ,qxe _ _ hQ];simp
    rw [hjr] at hdr
    have hQe:(qm k items names).drop (m+1)=[]→m+1=items.length:=by
      intro h
      have:=congrArg List.length h
      rw [List.length_drop,hpl,List.length_nil] at this
      omega
    have hQn:(qm k items names).drop (m+1)≠[]→m+1<items.length:=by
      intro h
      rcases Nat.lt_or_ge (m+1) items.length with q|q
      · exact q
      · exact absurd (List.drop_of_length_le (by rw [hpl];exact q)) h
    rw [qoj]
    simp only [hcl,decide_true,if_true]
    rcases hk with⟨rfl,rfl⟩|⟨rfl,rfl⟩
    · have hn0 := h3 rfl
      subst hn0
      rw [if_neg (by decide)]
      refine qtq hd hs hed he44 c (by rw [List.length_take];omega) _ (hv _ (List.getElem_mem hlt)) ((qm 3 items []).drop (m+1)) rest hp hdr _ (fun h=> ?_) (fun h q hq hdq=> ?_)
      · rw [hti, List.take_of_length_le (by have := hQe h; omega)]
        simp
      · rw [hti]
        cases n with
        |zero=>exact absurd (hQn h) (by omega)
        | succ n =>
          have:=ih n (by omega) (m+1) q (by omega) hq hdq
          simpa using this
    · have hnl := h4' rfl
      have hnm:m<names.length:=by omega
      have hww:=(h4 rfl).2 _ (List.getElem_mem hnm)
      have hdr':s.drop p=quo names[m]++(58::(txt items[m]++(if(qm 4 items names).drop (m+1)=[] then 125::rest else 44::jr true ((qm 4 items names).drop (m+1))++125::rest))):=by
        rw [hdr,if_pos rfl,qbh hnm]
        simp [gm]
      have hdm:=qke hdr'
      have hln:=zp hdr' hp
      obtain⟨g1,g2,g3,g4⟩:=xm hdm
      have q0: ¬((p+(quo names[m]).length:Nat):Int)<0:=by omega
      have q0':(0:Int)≤((p+(quo names[m]).length:Nat):Int):=by omega
      have q1: ¬((p+(quo names[m]).length:Nat):Int)≥(s.length:Int):=by omega
      have t2:((((58:UInt8)).toNat:Int) !=58)=false:=rfl
      have hwj:w64 (((p+(quo names[m]).length:Nat):Int)+1)=((p+(quo names[m]).length+1:Nat):Int):=by rw [qh (by omega)];omega
      have hs4:qi ((names.take m).length+[names[m]].length) 16:=zy (by simp;omega) (by omega)
      have hni:names.take m++[names[m]]=names.take (m+1):=(List.take_succ_eq_append_getElem hnm).symm
      rw [if_pos (by rfl),qo3 hs hdr' (q3i hww),sb]
      simp only [q0,q0',q1,g2,g3,t2,decide_false,Bool.false_eq_true,if_false,if_true,hwj]
      dsimp only [GVal.s]
      rw [if_pos hs4,hni]
      refine qtq hd hs hed he44 c (by rw [List.length_take];omega) _ (hv _ (List.getElem_mem hlt)) ((qm 4 items names).drop (m+1)) rest (by omega) g4 _ (fun h=> ?_) (fun h q hq hdq=> ?_)
      · rw [hti,List.take_of_length_le (by have:=hQe h;omega),List.take_of_length_le (by have:=hQe h;omega)]
      · rw [hti]
        cases n with
        |zero=>exact absurd (hQn h) (by omega)
        |succ n=>exact ih n (by omega) (m+1) q (by omega) hq hdq
theorem q8h {s : Str} (hs : s.length ≤ 4096) : ∀ (d : Nat), d ≤ 6 → ∀ v, okV d v = true → ∀ (i : Nat) (rest : Str), qxu rest → s.drop i = txt v ++ rest → i ≤ s.length → z05 (s, ((i : Int), (d : Int))) = some (v, ((s.length - rest.length : Nat) : Int)) := by
  intro d
  induction d with
  |zero=>intro _ v h;simp [okV] at h
  | succ d ih =>
    intro hd v hv i rest hr hdr hi
    have ih:=ih (by omega)
    have hh:=qhx hv
    cases v with
    | mk k n t items names =>
      obtain⟨hil,hc⟩:=qen hv
      rw [show((d+1:Nat):Int)=(d:Int)+1 by omega,q4g]
      unfold q8y
      obtain⟨b,r,hb,k1,k2,k3,k4⟩:=hh
      have hln:=zp hdr hi
      have hdb:s.drop i=b::(r++rest):=by rw [hdr,hb];rfl
      obtain⟨g1,g2,g3,g4⟩:=xm hdb
      have hl: ¬(i:Int)≥(s.length:Int):=by omega
      have h0:((d:Int)+1==0)=false:=by simpa using(show¬(d:Int)+1=0 by omega)
      have h00:(0:Int)≤(i:Int):=by omega
      have hw:w64 ((i:Int)+1)=((i+1:Nat):Int):=by rw [qh (by omega)];omega
      have hw2:w64 (((i+1:Nat):Int)+1)=((i+2:Nat):Int):=by rw [qh (by omega)];omega
      have h01:(0:Int)≤((i+1:Nat):Int):=by omega
      simp only [hl,h0,h00,g2,g3,hw,hw2,h01,decide_false,Bool.false_eq_true,if_false,if_true,qq]
      -- a row, or an object
      have key: ∀(kk:Int) (o e:UInt8),((kk=3∧o=91∧e=93∧names=[])∨(kk=4∧o=123∧e=125∧names.length=items.length∧∀x∈names,okW x=true))→k=kk→n=0→t=[]→(∀x∈items,okV d x=true)→
          ((if(decide (((i+1:Nat):Int)<(s.length:Int))) then(if(((i+1:Nat):Int)<(s.length:Int)) then
          if((bt s ((i+1:Nat):Int))==(e.toNat:Int)) then some ((GVal.mk kk (0:Int) [] [] []),((i+2:Nat):Int)) else
          ji ((s,((e.toNat:Int),((d:Int)+1,((i+1:Nat):Int)))),(((GVal.mk (0:Int) (0:Int) [] [] []),(0:Int)),((kk,((0:Int),[])),([],[]))))>>=fun r=>
          Sum.elim (fun q=>some (q.1,q.2)) (fun r1=>some ((GVal.mk (0:Int) (0:Int) [] [] []),(-1:Int))) r else none) else
          ji ((s,((e.toNat:Int),((d:Int)+1,((i+1:Nat):Int)))),(((GVal.mk (0:Int) (0:Int) [] [] []),(0:Int)),((kk,((0:Int),[])),([],[]))))>>=fun r=>
          Sum.elim (fun q=>some (q.1,q.2)) (fun r1=>some ((GVal.mk (0:Int) (0:Int) [] [] []),(-1:Int))) r):Option (GVal×Int))=some (.mk k n t items names,((s.length-rest.length:Nat):Int)):=by
        intro kk o e hk hkk hn ht hm
        subst hkk;subst hn;subst ht
        have hk12:k≠1∧k≠2:=by rcases hk with⟨rfl,_⟩|⟨rfl,_⟩ <;>exact⟨by omega,by omega⟩
        have hbr:b::(r++rest)=txt (.mk k 0 [] items names)++rest:=by rw [hb];rfl
        have hrr:r++rest=jr true (qm k items names)++e::rest:=by
          rw [v8 hk12.1 hk12.2] at hbr
          rcases hk with⟨rfl,rfl,rfl,_⟩|⟨rfl,rfl,rfl,_⟩
          · simp at hbr;exact hbr.2
          · simp at hbr;exact hbr.2
        have hd1:s.drop (i+1)=jr true (qm k items names)++e::rest:=by rw [g4,hrr]
        have hln1:=zp hd1 (by omega)
        rw [List.length_cons] at hln1
        have c1:((i+1:Nat):Int)<(s.length:Int):=by omega
        simp only [c1,decide_true,if_true]
        cases items with
        | nil =>
          have hp0:qm k [] names=[]:=by
            have q:k=4→names.length=([]:List GVal).length:=by
              rcases hk with⟨h,_⟩|⟨_,_,_,h,_⟩
              · intro q;omega
              · exact fun _=>h
            have:=vv k [] names q
            exact List.length_eq_zero_iff.1 this
          have hnm:names=[]:=by
            rcases hk with⟨_,_,_,h⟩|⟨_,_,_,h,_⟩
            · exact h
            · exact List.length_eq_zero_iff.1 h
          rw [hp0] at hd1 hln1
          simp only [jr,List.nil_append,List.length_nil] at hd1 hln1
          obtain⟨f1,f2,f3,f4⟩:=xm hd1
          rw [f3,if_pos (by simp),hnm]
          congr 3
          omega
        | cons x0 xs0 =>
          have hbe: ∃b' r',jr true (qm k (x0::xs0) names)++e::rest=b'::r'∧b'≠e:=by
            rcases hk with⟨rfl,rfl,rfl,_⟩|⟨rfl,rfl,rfl,h,_⟩
            · obtain ⟨b', r', z1, z2, z3, z4, z5⟩ := qhx (hm x0 (by simp))
              refine⟨b',r'++jr false (qm 3 xs0 names)++93::rest,by rw [qoz (by omega),z1];simp [jr], ?_⟩
              rintro rfl
              rcases q0n (hm x0 (by simp)) with q|q|q|q
              · exact absurd (z2 q) (by decide)
              · exact absurd (z3 q) (by decide)
              · exact absurd (z4 q) (by decide)
              · exact absurd (z5 q) (by decide)
            · cases names with
              |nil=>simp at h
              | cons n0 ns0 =>
                exact⟨34,n0++[34]++[58]++txt x0++jr false (qm 4 xs0 ns0)++125::rest,by rw [ql0];simp [jr,gm,quo],by decide⟩
          obtain⟨b',r',hb',hne⟩:=hbe
          rw [hb'] at hd1
          obtain⟨f1,f2,f3,f4⟩:=xm hd1
          have hne': ¬((b'.toNat:Int)==(e.toNat:Int))=true:=by
            rw [beq_iff_eq]
            intro h
            exact hne (UInt8.toNat_inj.1 (by omega))
          rw [f3,if_neg hne']
          have q1:(k=3∧e=93)∨(k=4∧e=125):=by
            rcases hk with⟨h,_,h',_⟩|⟨h,_,h',_⟩
            · exact .inl ⟨h,h'⟩
            · exact .inr ⟨h,h'⟩
          have q2:k=4→names.length=(x0::xs0).length∧∀x∈names,okW x=true:=by
            rcases hk with⟨h,_⟩|⟨_,_,_,h,h'⟩
            · intro q;omega
            · exact fun _=>⟨h,h'⟩
          have q3:k=3→names=[]:=by
            rcases hk with⟨_,_,_,h⟩|⟨h,_⟩
            · exact fun _=>h
            · intro q;omega
          have hL:=jc3 (d:=d) (k:=k) (e:=e) (by omega) hs q1 (GVal.mk 0 0 [] [] []) hil q2 q3
            (fun x hx=>ih x (hm x hx)) rest xs0.length 0 (i+1) (by simp) (by omega) (by rw [List.drop_zero,hd1,hb'])
          simp only [List.take_zero] at hL
          rw [hL,sb]
          rfl
      rcases hc with⟨rfl,rfl,rfl,rfl,h1,h2⟩|⟨rfl,rfl,rfl,rfl,h1⟩|⟨rfl,rfl,rfl,rfl,hm⟩|⟨rfl,hN,hl4,rfl,rfl,hm⟩
      · have hdgt := qal.1 (k1 rfl)
        have q1:((b.toNat:Int)==34)=false:=by rw [beq_eq_false_iff_ne];omega
        have q2:((b.toNat:Int) !=91)=true:=by rw [bne_iff_ne];omega
        have q3:((b.toNat:Int) !=123)=true:=by rw [bne_iff_ne];omega
        simp only [q1,q2,q3,Bool.false_eq_true,if_false,if_true]
        have e:txt (.mk 1 n [] [] [])=Lib.itoa n:=by unfold txt;simp
        rw [e] at hdr hln
        rw [q0k hs hi h1 h2 hr hdr,sb]
        congr 3
        omega
      · have := k2 rfl
        subst this
        have e:txt (.mk 2 0 t [] [])=quo t:=by unfold txt;simp
        rw [e] at hdr hln
        rw [if_pos (by rfl),qo3 hs hdr (q3i h1),sb]
        congr 3
        omega
      · have := k3 rfl
        subst this
        rw [if_neg (by decide),if_neg (by decide),if_neg (by decide)]
        exact key 3 91 93 (.inl ⟨rfl,rfl,rfl,rfl⟩) rfl rfl rfl hm
      · have := k4 rfl
        subst this
        rw [if_neg (by decide),if_pos (by decide),if_neg (by decide),if_pos (by rfl)]
        exact key 4 123 125 (.inr ⟨rfl,rfl,rfl,hl4,qhi hN⟩) rfl rfl rfl hm
theorem jll {s : Str} (hs : s.length ≤ 4096) : ∃ r, z3d s = some r ∧ ((qcs s r.1 ∧ inV r.1 ∧ r.2 = true) ∨ ((∀ v, ¬ qcs s v) ∧ r.2 = false)) := by
  unfold z3d
  obtain⟨v,e,h1,h2⟩:=jd2 hs 6 (by omega) 0 (by omega)
  have h1:z05 (s,((0:Int),(6:Int)))=some (v,e):=h1
  have hno: ∀x,qcs s x→v=x∧e=(s.length:Int):=by
    rintro x ⟨q1,q2⟩
    have:=q8h hs 6 (by omega) x q1 0 [] (by intro b r q;cases q) (by rw [List.drop_zero,q2,List.append_nil]) (by omega)
    have this:z05 (s,((0:Int),(6:Int)))=some (x,((s.length-([]:Str).length:Nat):Int)):=this
    rw [h1] at this
    injection this with this
    injection this with a b
    exact⟨a,b⟩
  rw [h1,sb]
  by_cases c:e=(s.length:Int)
  · rw [if_neg (by simp [c])]
    have hiv:inV v∧s=txt v:=by
      rcases h2 with h2|⟨j,rfl,j1,j2,j3⟩
      · omega
      · refine ⟨j2, ?_⟩
        have:j=s.length:=by omega
        subst this
        rw [List.drop_zero,List.drop_length,List.append_nil] at j3
        exact j3
    simp only [qq,jlp hiv.1,sb]
    by_cases ok:okV 6 v=true
    · rw [if_neg (by simp [ok])]
      exact⟨_,rfl,.inl ⟨⟨ok,hiv.2.symm⟩,hiv.1,rfl⟩⟩
    · rw [if_pos (by simpa using ok)]
      refine⟨_,rfl,.inr ⟨fun x hx=> ?_,rfl⟩⟩
      have:=(hno x hx).1
      subst this
      exact ok hx.1
  · rw [if_pos (by simpa using c)]
    refine⟨_,rfl,.inr ⟨fun x hx=>c (hno x hx).2,rfl⟩⟩
theorem qlu: ∀a:Str,Op.bytesLess a a=false
  |[]=>rfl
  |x::a=>by simp [Op.bytesLess,qlu a]
theorem qf6: ∀a b c:Str,Op.bytesLess a b=true→Op.bytesLess b c=true→Op.bytesLess a c=true
  |[],[],_,h,_=>by simp [Op.bytesLess] at h
  |[],_::_,[],_,h=>by simp [Op.bytesLess] at h
  |[],_::_,_::_,_,_=>rfl
  |_::_,[],_,h,_=>by simp [Op.bytesLess] at h
  |_::_,_::_,[],_,h=>by simp [Op.bytesLess] at h
  | x :: a, y :: b, z :: c, h1, h2 => by
    simp only [qkm,Bool.or_eq_true,Bool.and_eq_true,decide_eq_true_eq,beq_iff_eq,UInt8.lt_iff_toNat_lt] at h1 h2 ⊢
    rcases h1 with h1|⟨rfl,h1⟩
    · rcases h2 with h2 | ⟨rfl, h2⟩
      · exact .inl (by omega)
      · exact .inl h1
    · rcases h2 with h2 | ⟨rfl, h2⟩
      · exact .inl h2
      · exact .inr ⟨rfl,qf6 a b c h1 h2⟩
theorem qtx: ∀{l:List Str} {p:Str},qfk (some p) l=true→∀x∈l,Op.bytesLess p x=true
  |[],_,_,x,hx=>by cases hx
  | y :: r, p, h, x, hx => by
    unfold qfk at h
    simp only [Bool.and_eq_true] at h
    rcases List.mem_cons.1 hx with rfl|hx
    · exact h.1.2
    · exact qf6 p y x h.1.2 (qtx h.2 x hx)
theorem qhh : ∀ {l : List Str} {p : Option Str}, qfk p l = true → ∀ (i j : Nat) (x : Str), l[i]? = some x → l[j]? = some x → i = j
  |[],_,_,i,j,x,hi,_=>by simp at hi
  | y :: r, p, h, i, j, x, hi, hj => by
    unfold qfk at h
    simp only [Bool.and_eq_true] at h
    have hne: ∀n,r[n]? =some y→False:=fun n hn=>by
      have:=qtx h.2 y (List.mem_of_getElem? hn)
      rw [qlu] at this
      cases this
    cases i with
    | zero =>
      cases j with
      |zero=>rfl
      | succ j =>
        simp at hi hj
        subst hi
        exact(hne j hj).elim
    | succ i =>
      cases j with
      | zero =>
        simp at hi hj
        subst hj
        exact(hne i hi).elim
      | succ j =>
        simp at hi hj
        rw [qhh h.2 i j x hi hj]
theorem qz6 {l : List Str} (hl : l.length ≤ 9223372036854775807) (nm : Str) : ∀ (m i : Nat), i + m = l.length →
    ∃r,qrm ((i:Int),(l,(nm,(l.length:Int))))=some r∧((r= .inr ()∧∀j,i≤j→l[j]? ≠some nm)∨∃j:Nat,r= .inl (j:Int)∧l[j]? =some nm):=by
  intro m
  induction m with
  | zero =>
    intro i hi
    rw [qvn]
    unfold qje
    have: ¬((i:Int)<(l.length:Int)):=by omega
    simp only [this,decide_false,Bool.false_eq_true,if_false]
    exact⟨_,rfl,.inl ⟨rfl,fun j hj=>by rw [List.getElem?_eq_none (by omega)];simp⟩⟩
  | succ m ih =>
    intro i hi
    have hlt:i<l.length:=by omega
    have h1:(i:Int)<(l.length:Int):=by omega
    have h0:(0:Int)≤(i:Int):=by omega
    have hw:w64 ((i:Int)+1)=((i+1:Nat):Int):=by rw [qh (by omega)];omega
    rw [qvn]
    unfold qje
    simp only [h1,h0,decide_true,if_true,Int.toNat_natCast,qbh hlt,hw]
    by_cases e:nm=l[i]
    · rw [if_pos (by simp [e])]
      exact⟨_,rfl,.inr ⟨i,rfl,by rw [List.getElem?_eq_getElem hlt,e]⟩⟩
    · rw [if_neg (by simpa using e)]
      obtain⟨r,q1,q2⟩:=ih (i+1) (by omega)
      refine⟨r,q1, ?_⟩
      rcases q2 with⟨q,q'⟩|q
      · refine .inl ⟨q, fun j hj => ?_⟩
        rcases Nat.eq_or_lt_of_le hj with rfl|hj
        · rw [List.getElem?_eq_getElem hlt]
          intro h
          injection h with h
          exact e h.symm
        · exact q' j (by omega)
      · exact .inr q
theorem qz5{l:List Str}(hl:l.length≤9223372036854775807)(nm:Str): ∃r,z1f (l,nm)=some r∧((r= -1∧∀j:Nat,l[j]? ≠some nm)∨∃j:Nat,r=(j:Int)∧l[j]? =some nm):=by
  obtain⟨r,h1,h2⟩:=qz6 hl nm l.length 0 (by omega)
  have h1:qrm ((0:Int),(l,(nm,(l.length:Int))))=some r:=h1
  unfold z1f
  simp only [h1,sb]
  rcases h2 with⟨rfl,h2⟩|⟨j,rfl,h2⟩
  · exact⟨_,rfl,.inl ⟨rfl,fun j=>h2 j (by omega)⟩⟩
  · exact⟨_,rfl,.inr ⟨j,rfl,h2⟩⟩
theorem q2e{v:GVal}(hv:inV v)(h4:v.kind=4→v.names.length=v.items.length)(nm:Str)(kind:Int): ∃x f,z1b (v,(nm,kind))=some (x,f)∧
    ((f = 8 ∧ x = .mk 0 0 [] [] [] ∧ (v.kind = 4 → okN v.names = true → ∀ (j : Nat) (y : GVal), v.names[j]? = some nm → v.items[j]? = some y → y.kind ≠ kind)) ∨
     (f=0∧v.kind=4∧∃j:Nat,v.names[j]? =some nm∧v.items[j]? =some x∧x.kind=kind)):=by
  obtain⟨_,_,_,hnl⟩:=xz hv
  obtain⟨r,h1,h2⟩:=qz5 hnl nm
  unfold z1b
  dsimp only
  rw [h1,sb]
  by_cases k4:v.kind=4
  case neg=>
    rw [if_pos (by simpa using k4)]
    exact⟨_,_,rfl,.inl ⟨rfl,rfl,fun h=>absurd h k4⟩⟩
  have hll:=h4 k4
  rw [if_neg (by simp [k4]),if_neg (by simp [hll])]
  rcases h2 with⟨rfl,h2⟩|⟨j,rfl,h2⟩
  · rw [if_pos (by decide)]
    exact⟨_,_,rfl,.inl ⟨rfl,rfl,fun _ _ j y hj _=>absurd hj (h2 j)⟩⟩
  · have hjl : j < v.names.length := by
      rcases Nat.lt_or_ge j v.names.length with q|q
      · exact q
      · rw [List.getElem?_eq_none q] at h2;cases h2
    have hji:j<v.items.length:=by omega
    rw [if_neg (by rw [decide_eq_true_eq];omega),if_pos (by omega),if_pos (by omega)]
    simp only [Int.toNat_natCast,qgx hji]
    by_cases kk:v.items[j].kind=kind
    · rw [if_neg (by simp [kk]), if_pos (by omega), if_pos (by omega), qq]
      exact⟨_,_,rfl,.inr ⟨rfl,k4,j,h2,by rw [List.getElem?_eq_getElem hji],kk⟩⟩
    · rw [if_pos (by simpa using kk)]
      refine⟨_,_,rfl,.inl ⟨rfl,rfl,fun _ hN i y hi hy=> ?_⟩⟩
      have:=qhh hN i j nm hi h2
      subst this
      rw [List.getElem?_eq_getElem hji] at hy
      injection hy with hy
      rw [←hy]
      exact kk
end Go.Plain
