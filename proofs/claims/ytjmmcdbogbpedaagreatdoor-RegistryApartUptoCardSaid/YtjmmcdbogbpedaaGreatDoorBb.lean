import Derived.Laws.Tables
import Derived.Great.BuildSlice
import Derived.Test.YtjmmcdbogbpedaaGreatDoorBa
import Derived.Laws.IdiomCopy
import Derived.Laws.Append
import Derived.Laws.AppendOwn
import Derived.Laws.MakeOwn
import Derived.MapKept
import Derived.Laws.IdiomStrings
import Derived.Laws.BytesArg
namespace Go.AM
set_option linter.unusedSectionVars false
variable [Lay]
section
variable {E:Env} {w w':World} {I I':Nat→Nat→Prop} {h h':qa} {μ μ':Nat→Option Nat} {ρ:Operand→Value} {g:Nat→AB} {b0:Nat} {fr:FR}
variable {dst:Option Tmp} {ty:TypeId} {pos:String} {aft:Array Edge} {gd:Option (Nat×Bool)}
def qr(w:World)(I:Nat→Nat→Prop)(h:qa)(μ:Nat→Option Nat)(vs:List Value)(as:List AV):Prop:=
 vs.length=as.length∧∀(k:Nat) (v:Value) (c:AV),vs[k]? =some v→as[k]? =some c→Rep w I h μ v c
theorem qr.tail{v:Value}{c:AV}{vs:List Value}{as:List AV}(r:qr w I h μ (v::vs) (c::as)):Rep w I h μ v c∧qr w I h μ vs as:=
 ⟨r.2 0 v c rfl rfl,by have:=r.1;simpa using this,fun k u d h1 h2=>r.2 (k+1) u d (by simpa using h1) (by simpa using h2)⟩
theorem qr.cons{v:Value}{c:AV}{vs:List Value}{as:List AV}(r:Rep w I h μ v c)(rs:qr w I h μ vs as):qr w I h μ (v::vs) (c::as):=by
 refine⟨by simp [rs.1],fun k u d h1 h2=> ?_⟩
 cases k with
 |zero=>simp at h1 h2;subst h1;subst h2;exact r
 |succ k=>exact rs.2 k u d (by simpa using h1) (by simpa using h2)
theorem qr.nil:qr w I h μ [] []:=⟨rfl,fun k v c h1 _=>by simp at h1⟩
theorem qr.set{vs:List Value}{as:List AV}(r:qr w I h μ vs as){v:Value}{c:AV}(rv:Rep w I h μ v c)(j:Nat):qr w I h μ (vs.set j v) (as.set j c):=by
 refine⟨by simp [r.1],fun k u d h1 h2=> ?_⟩
 rw [List.getElem?_set] at h1 h2
 by_cases hj:j=k
 ·subst hj
  rw [if_pos rfl] at h1 h2
  split at h1
  ·split at h2
   ·injection h1 with h1; injection h2 with h2
    subst h1;subst h2;exact rv
   ·cases h2
  ·cases h1
 ·rw [if_neg hj] at h1 h2
  exact r.2 k u d h1 h2
def qm(cs:List Value)(j:Nat):List Value→List Value
 |[]=>cs
 |v::r=>qm (cs.set j v) (j+1) r
theorem qk: ∀(r cs:List Value) (j:Nat),(qm cs j r).length=cs.length
 |[],_,_=>rfl
 |v::r,cs,j=>by simp [qm,qk r]
theorem jp: ∀(r cs:List Value) (j k:Nat),j+r.length≤cs.length→(qm cs j r)[k]? =if j≤k∧k<j+r.length then r[k-j]? else cs[k]?
 |[],cs,j,k,_=>by simp only [qm,List.length_nil,Nat.add_zero];rw [if_neg (by omega)]
 | v :: r, cs, j, k, hl => by
  have ih:=jp r (cs.set j v) (j+1) k (by simp only [List.length_cons,List.length_set] at hl ⊢;omega)
  simp only [qm,ih]
  simp only [List.length_cons] at hl
  by_cases h1:j+1≤k∧k<j+1+r.length
  ·rw [if_pos h1, if_pos (by simp only [List.length_cons]; omega)]
   rw [show k-j=(k-(j+1))+1 by omega,List.getElem?_cons_succ]
  ·rw [if_neg h1, List.getElem?_set]
   by_cases h2:j=k
   ·subst h2
    rw [if_pos rfl,if_pos (by omega),if_pos (by simp)]
    simp
   ·rw [if_neg h2,if_neg (by simp only [List.length_cons];omega)]
theorem qr.setAt: ∀(rv:List Value) (ra:List AV) (vs:List Value) (as:List AV) (j:Nat),qr w I h μ vs as→qr w I h μ rv ra→qr w I h μ (qm vs j rv) (AM.setAt as j ra)
 |[],[],vs,as,j,r,_=>r
 |v::rv,a::ra,vs,as,j,r,r2=>qr.setAt rv ra _ _ (j+1) (r.set r2.tail.1 j) r2.tail.2
 |[],_::_,_,_,_,_,r2=>by have:=r2.1;simp at this
 |_::_,[],_,_,_,_,r2=>by have:=r2.1;simp at this
theorem qbh(off:Nat): ∀(l:List Value) (k:Nat) (cs:Array Value),((l.zipIdx k).foldl (fun(cs:Array Value) (x:Value×Nat)=>cs.setIfInBounds (off+x.2) x.1) cs).toList=qm cs.toList (off+k) l
 |[],_,_=>rfl
 |v::l,k,cs=>by
  simp only [List.zipIdx_cons,List.foldl_cons,qm]
  rw [qbh off l (k+1)]
  simp [Array.toList_setIfInBounds,Nat.add_assoc]
theorem q0x{v:Value}{x:AV}(r:Rep w I h μ v x)(hn: ∀vs,x≠.tup vs)(hj:x≠.junk):qr w I h μ v.cells.toList x.cells:=by
 cases r with
 |junk=>exact absurd rfl hj
 |agg vs cs hl hc=>exact⟨by simpa [Value.cells,AV.cells] using hl,fun k v c h1 h2=>hc k v c (by simpa [Value.cells] using h1) h2⟩
 |tup vs cs hl hc=>exact absurd rfl (hn _)
 |t=>exact qr.cons .t .nil
 |f=>exact qr.cons .f .nil
 |bool b=>exact qr.cons (.bool b) .nil
 |int k n=>exact qr.cons (.int k n) .nil
 |str l=>exact qr.cons (.str l) .nil
 |nilsl=>exact qr.cons .nilsl .nil
 |sl t l full a n cap hr hf=>exact qr.cons (.sl t l full a n cap hr hf) .nil
 |own t b full a n cap ho=>exact qr.cons (.own t b full a n cap ho) .nil
 |ptr b j g hp=>exact qr.cons (.ptr b j g hp) .nil
 |eptr t b i j g hp=>exact qr.cons (.eptr t b i j g hp) .nil
 |iptr t x j g o cs hr hc=>exact qr.cons (.iptr t x j g o cs hr hc) .nil
 |nilptr=>exact qr.cons .nilptr .nil
 |fn f as cs xs ys ha hb h1 h2=>exact qr.cons (.fn f as cs xs ys ha hb h1 h2) .nil
 |nilfn=>exact qr.cons .nilfn .nil
 |iface t v x hv=>exact qr.cons (.iface t v x hv) .nil
 |niliface=>exact qr.cons .niliface .nil
 |mptr b g hp=>exact qr.cons (.mptr b g hp) .nil
 |fmap k v l g es c hi hg hd=>exact qr.cons (.fmap k v l g es c hi hg hd) .nil
theorem wy{v:Value}{x:AV}(r:Rep w I h μ v x)(hp:g8 x=true):qr w I h μ v.cells.toList x.cells:=
 q0x r (fun vs e=>by subst e;cases hp) (fun e=>by subst e;cases hp)
theorem q7u{v:Value}{x:AV}(r:Rep w I h μ v x)(hp:q0k x=true):v.oneCell'=true:=by
 cases r <;>first|rfl|cases hp
theorem qqv(place:Nat→Option (Nat×Nat)): ∀(pv:List (Nat×Value)) (pa:List (Nat×AV)) (cs:Array Value) (as out:List AV),
  pv.length=pa.length→(∀(k:Nat) (x:Nat×Value) (y:Nat×AV),pv[k]? =some x→pa[k]? =some y→x.1=y.1∧Rep w I h μ x.2 y.2)→qr w I h μ cs.toList as→
  qs9 place as pa=some out→∃cells,Instr.fill place cs pv=some cells∧qr w I h μ cells.toList out
 |[],[],cs,as,out,_,_,hc,hf=>by
  cases hf
  exact⟨cs,rfl,hc⟩
 | (i, v) :: pv, (j, a) :: pa, cs, as, out, hl, hr, hc, hf => by
  obtain⟨e1,rv⟩:=hr 0 _ _ rfl rfl
  simp only at e1 rv
  subst e1
  simp only [qs9] at hf
  split at hf
  ·cases hf
  ·rename_i off size hpl'
   split at hf
   ·rename_i hck
    simp only [Bool.and_eq_true,Nat.ble_eq] at hck
    obtain⟨⟨hpl,h1⟩,h2⟩:=hck
    have h1:a.cells.length=size:=Nat.eq_of_beq_eq_true h1
    have rc:=wy rv hpl
    have hvs:v.cells.size=size:=by rw [←h1,←rc.1];simp
    have hcs:cs.size=as.length:=by simpa using hc.1
    have hfold:(v.cells.zipIdx.foldl (fun(cs:Array Value) (x:Value×Nat)=>cs.setIfInBounds (off+x.2) x.1) cs).toList=qm cs.toList off v.cells.toList:=by
     rw [←Array.foldl_toList,Array.toList_zipIdx,qbh]
     rfl
    obtain⟨cells,g1,g2⟩:=qqv place pv pa _ _ out (by simpa using hl) (fun k x y h1 h2=>hr (k+1) x y (by simpa using h1) (by simpa using h2)) (hfold▸hc.setAt _ _ _ _ off rc) hf
    refine⟨cells, ?_,g2⟩
    simp only [Instr.fill,hpl']
    rw [if_neg (by simp only [Bool.or_eq_true,decide_eq_true_eq,ne_eq];simp [hvs];omega)]
    exact g1
   ·cases hf
 |[],_::_,_,_,_,hl,_,_,_=>by simp at hl
 |_::_,[],_,_,_,hl,_,_,_=>by simp at hl
theorem q9v (t : Ty) : ∀ (as as' : List AV) (x : t.den) (vs : List Value), qr w I h μ vs as → dec t as = some (x, as') → ∃ cs vs', vs = cs ++ vs' ∧ RD w I t x cs ∧ qr w I h μ vs' as' := by
 induction t with
 |unit=>
  intro as as' x vs hc hd
  simp only [dec,Option.some.injEq,Prod.mk.injEq] at hd
  obtain⟨_,rfl⟩:=hd
  exact⟨[],vs,rfl,.unit,hc⟩
 | int k =>
  intro as as' x vs hc hd
  match as,hd with
  | .int k' n :: r, hd =>
   simp only [dec] at hd
   split at hd
   ·rename_i hk
    cases hd
    subst hk
    match vs,hc with
    |v::vs,hc=>
     obtain⟨r1,r2⟩:=hc.tail
     rw [jg r1]
     exact⟨[_],vs,rfl,.int _ _,r2⟩
    |[],hc=>have:=hc.1;simp at this
   ·cases hd
 | bool =>
  intro as as' x vs hc hd
  match as,hd with
  | .t :: r, hd =>
   cases hd
   match vs,hc with
   |v::vs,hc=>
    obtain⟨r1,r2⟩:=hc.tail
    rw [qu r1 rfl]
    exact⟨[_],vs,rfl,.bool _,r2⟩
   |[],hc=>have:=hc.1;simp at this
  | .f :: r, hd =>
   cases hd
   match vs,hc with
   |v::vs,hc=>
    obtain⟨r1,r2⟩:=hc.tail
    rw [qu r1 rfl]
    exact⟨[_],vs,rfl,.bool _,r2⟩
   |[],hc=>have:=hc.1;simp at this
  | .bool b :: r, hd =>
   cases hd
   match vs,hc with
   |v::vs,hc=>
    obtain⟨r1,r2⟩:=hc.tail
    rw [qu r1 rfl]
    exact⟨[_],vs,rfl,.bool _,r2⟩
   |[],hc=>have:=hc.1;simp at this
 | str =>
  intro as as' x vs hc hd
  match as,hd with
  | .str s :: r, hd =>
   cases hd
   match vs,hc with
   |v::vs,hc=>
    obtain⟨r1,r2⟩:=hc.tail
    rw [ji r1]
    exact⟨[_],vs,rfl,.str _,r2⟩
   |[],hc=>have:=hc.1;simp at this
 | sl t _ =>
  intro as as' x vs hc hd
  match as,hd with
  | .sl t' l f :: r, hd =>
   simp only [dec] at hd
   split at hd
   ·rename_i e
    subst e
    cases hd
    match vs,hc with
    |v::vs,hc=>
     obtain⟨r1,r2⟩:=hc.tail
     cases r1 with
     |sl _ _ _ a n cap hr hfl=>exact⟨[_],vs,rfl,hr,r2⟩
    |[],hc=>have:=hc.1;simp at this
   ·cases hd
  | .nilsl :: r, hd =>
   cases hd
   match vs,hc with
   |v::vs,hc=>
    obtain⟨r1,r2⟩:=hc.tail
    cases r1 with
    |nilsl=>exact⟨[_],vs,rfl,.sl t [] none 0 (fun _=>[]) (Nat.zero_le _) (fun i hi=>by simp at hi) (fun h0=>by simp at h0),r2⟩
   |[],hc=>have:=hc.1;simp at this
 | pair a b iha ihb =>
  intro as as' x vs hc hd
  simp only [dec] at hd
  split at hd
  ·rename_i x1 r1 h1
   split at hd
   ·rename_i x2 r2 h2
    cases hd
    obtain⟨cs,vs1,rfl,d1,c1⟩:=iha as r1 x1 vs hc h1
    obtain⟨ds,vs2,rfl,d2,c2⟩:=ihb r1 _ x2 vs1 c1 h2
    exact⟨cs++ds,vs2,by simp,.pair a b x1 x2 cs ds d1 d2,c2⟩
   ·cases hd
  ·cases hd
 | val =>
  intro as as' x vs hc hd
  match as,hd with
  | .int k1 k :: .int k2 n :: .str s :: i :: m :: r, hd =>
   simp only [dec] at hd
   split at hd
   ·rename_i hck
    obtain⟨rfl,rfl⟩:k1= .i64∧k2= .i64:=by simpa using hck
    split at hd
    ·rename_i li lm hi hm
     cases hd
     match vs,hc with
     | v1 :: v2 :: v3 :: v4 :: v5 :: vs, hc =>
      obtain⟨q1,hc⟩:=hc.tail
      obtain⟨q2,hc⟩:=hc.tail
      obtain⟨q3,hc⟩:=hc.tail
      obtain⟨q4,hc⟩:=hc.tail
      obtain⟨q5,hc⟩:=hc.tail
      rw [jg q1,jg q2,ji q3]
      have d4:RD w I (.sl .val) li [v4]:=by
       split at hi
       ·cases hi
        cases q4 with
        |sl _ _ _ a n cap hr hfl=>exact hr
       ·cases hi
        cases q4 with
        |nilsl=>exact .sl .val [] none 0 (fun _=>[]) (Nat.zero_le _) (fun i hi=>by simp at hi) (fun h0=>by simp at h0)
       ·cases hi
      have d5:RD w I (.sl .str) lm [v5]:=by
       split at hm
       ·cases hm
        cases q5 with
        |sl _ _ _ a n cap hr hfl=>exact hr
       ·cases hm
        cases q5 with
        |nilsl=>exact .sl .str [] none 0 (fun _=>[]) (Nat.zero_le _) (fun i hi=>by simp at hi) (fun h0=>by simp at h0)
       ·cases hm
      exact⟨[_,_,_,v4,v5],vs,rfl,.val k n s li lm [v4] [v5] d4 d5,hc⟩
     |[],hc=>have:=hc.1;simp at this
     |[_],hc=>have:=hc.1;simp at this
     |[_,_],hc=>have:=hc.1;simp at this
     |[_,_,_],hc=>have:=hc.1;simp at this
     |[_,_,_,_],hc=>have:=hc.1;simp at this
    ·cases hd
   ·cases hd
theorem qoc{t:Ty}{as:List AV}{x:t.den}{vs:List Value}(hc:qr w I h μ vs as)(hd:gz t as=some x):RD w I t x vs:=by
 unfold gz at hd
 split at hd
 ·rename_i y hy
  cases hd
  obtain⟨cs,vs',rfl,hr,hc'⟩:=q9v t as [] _ vs hc hy
  obtain rfl:vs'=[]:=List.eq_nil_of_length_eq_zero (by simpa using hc'.1)
  simpa using hr
 ·cases hd
theorem qwq(R:RelH w I μ h){b:Nat}{t:Ty}{l:List t.den}{full:Bool}{v:Value}(hb:h[b]? =some (.arr t l false))(r:Rep w I h μ v (.own t b full)):Rep w I h μ v (.sl t l full):=by
 cases r with
 | own _ _ _ a n cap ho =>
  obtain⟨x,hx,h1,h2⟩:=ho
  rw [hb] at hx;injection hx with hx;subst hx
  obtain⟨_,rfl,h3,h4,h5⟩:=h2 _ _ _ rfl
  refine .sl t l full a _ cap ?_ h4
  by_cases h0:l=[]
  ·subst h0
   exact .sl t [] a cap (fun _=>[]) (Nat.zero_le _) (fun i hi=>by simp at hi) (fun h0=>by simp at h0)
  ·have hpos : 0 < l.length := List.length_pos_iff.2 h0
   rcases R.blk b _ hb with hnil|⟨q,us,e,q1,q2,q3,q4,q5⟩
   ·exact absurd hnil h0
   ·rcases h5 with ⟨h5, _⟩ | ⟨q', us', e', h6, rfl, h8, h9⟩
    ·omega
    ·rw [q1] at h6; injection h6 with h6; subst h6
     refine .sl t l (some ⟨q,0,none⟩) cap (fun k=>(us.toList.drop (k*t.sz)).take t.sz) h3 q4 (fun _=>⟨q,0,rfl,fun i hi j v hv=> ?_⟩)
     rw [List.getElem?_take] at hv
     split at hv
     ·rename_i hj
      rw [List.getElem?_drop] at hv
      refine⟨?_, ?_⟩
      ·rw [cell_of_row w q _ us e _ q2.choose_spec.1]
       simpa using hv
      ·have := Nat.mul_le_mul_right t.sz (Nat.succ_le_of_lt hi)
       rw [Nat.succ_mul] at this
       simpa using q5 rfl (i*t.sz+j) (by omega)
     ·cases hv
def qne(g:Nat→AB)(h:qa):Prop:= ∀b,g b=qd h b∨g b= .hole∨∃t l fr,g b= .arr t l fr∧h[b]? =some (.arr t l false)
theorem GOK.f(G:GOK g h):qne g h:=fun b=>(G b).elim .inl (fun e=> .inr (.inl e))
theorem wu{b:Nat}{x:AB}(hb:h[b]? =some x):qd h b=x:=by
 unfold qd
 rw [List.getD_eq_getElem?_getD,hb]
 rfl
theorem g6: ∀(bs:List Nat) (I:Nat→Nat→Prop) (h:qa),RelH w I μ h→qne g h→
  ∃I',RelH w I' μ (qg h (frz g bs))∧Fr w (Wr h μ) I w (Wr (qg h (frz g bs)) μ) I'∧HM h μ (qg h (frz g bs)) μ∧qne g (qg h (frz g bs))∧
   (∀b∈bs,∀t l fr,g b= .arr t l fr→(qg h (frz g bs))[b]? =some (.arr t l false))∧(∀b,b∉bs→(qg h (frz g bs))[b]? =h[b]?)
 |[],I,h,R,G=>⟨I,R,Fr.refl _ _ _,HM.refl _ _,G,fun b hb=>by simp at hb,fun _ _=>rfl⟩
 | b :: bs, I, h, R, G => by
  cases hgb:g b with
  | arr t l fr =>
   have hb: ∃fr',h[b]? =some (.arr t l fr'):=by
    rcases G b with e|e|⟨t',l',fr',e1,e2⟩
    ·exact⟨fr,wm (e.symm.trans hgb) (by simp)⟩
    ·rw [hgb] at e;cases e
    ·rw [hgb] at e1;cases e1;exact⟨false,e2⟩
   obtain⟨fr',hb⟩:=hb
   obtain⟨I1,R1,F1,M1,_⟩:=R.freeze hb
   have hlen:b≤h.length:=by have:=(List.getElem?_eq_some_iff.1 hb).1;omega
   have hg1: ∀i:Nat,(qe h b (.arr t l false))[i]? =if i=b then some (.arr t l false) else h[i]? :=fun i=>qi _ h b i hlen
   have G1:qne g (qe h b (.arr t l false)):=by
    intro c
    by_cases hcb:c=b
    ·subst hcb
     exact .inr (.inr ⟨t,l,fr,hgb,by rw [hg1,if_pos rfl]⟩)
    ·rcases G c with e | e | ⟨t', l', fr', e1, e2⟩
     ·left
      rw [e]
      unfold qd
      rw [List.getD_eq_getElem?_getD,List.getD_eq_getElem?_getD,hg1,if_neg hcb]
     ·exact .inr (.inl e)
     ·exact .inr (.inr ⟨t',l',fr',e1,by rw [hg1,if_neg hcb];exact e2⟩)
   obtain⟨I2,R2,F2,M2,G2,h2,h3⟩:=g6 bs I1 _ R1 G1
   have hfz:frz g (b::bs)=(b,.arr t l false)::frz g bs:=by simp [frz,hgb]
   rw [hfz]
   simp only [qg]
   refine⟨I2,R2,F1.trans F2,M1.trans M2,G2, ?_, ?_⟩
   ·intro c hc t' l' fr2 hgc
    by_cases hcbs:c∈bs
    ·exact h2 c hcbs t' l' fr2 hgc
    ·have hcb : c = b := by
      rcases List.mem_cons.1 hc with e|e
      ·exact e
      ·exact absurd e hcbs
     subst hcb
     rw [hgb] at hgc;cases hgc
     rw [h3 c hcbs,hg1,if_pos rfl]
   ·intro c hc
    rw [h3 c (fun e=>hc (List.mem_cons_of_mem _ e)),hg1,if_neg (fun e=>hc (by rw [e];exact List.mem_cons_self))]
  |hole|gone|var cs|mp _ _ _=>
   obtain⟨I2,R2,F2,M2,G2,h2,h3⟩:=g6 bs I h R G
   have hfz:frz g (b::bs)=frz g bs:=by simp [frz,hgb]
   rw [hfz]
   refine⟨I2,R2,F2,M2,G2, ?_,fun c hc=>h3 c (fun e=>hc (List.mem_cons_of_mem _ e))⟩
   intro c hc t' l' fr2 hgc
   rcases List.mem_cons.1 hc with e|e
   ·subst e;rw [hgb] at hgc;cases hgc
   ·exact h2 c e t' l' fr2 hgc
theorem qab: ∀(cs:List AV) (t:Ty) (b:Nat) (full:Bool),.own t b full∈cs→b∈jv cs
 |[],_,_,_,hm=>by simp at hm
 | c :: cs, t, b, full, hm => by
  rcases List.mem_cons.1 hm with e|e
  ·subst e;simp [jv]
  ·have := qab cs t b full e
   cases c <;>simp [jv,this]
theorem qjm(R:RelH w I μ h){v:Value}{c:AV}(r:Rep w I h μ v c)(hfz: ∀t b full,c= .own t b full→∀t' l fr,g b= .arr t' l fr→h[b]? =some (.arr t' l false)):Rep w I h μ v (qnv g c):=by
 cases c with
 | own t b full =>
  simp only [qnv]
  split
  ·rename_i t' l fr hb
   split
   ·rename_i e
    subst e
    exact qwq R (hfz _ b full rfl _ _ _ hb) r
   ·exact .junk v
  ·exact .junk v
 |_=>exact r
theorem vq: ∀(a b:List (Nat×AB)) (h:qa),qg h (a++b)=qg (qg h a) b
 |[],_,_=>rfl
 |(i,x)::a,b,h=>by simp only [List.cons_append,qg,vq a b]
end
end Go.AM
namespace Go.AM
set_option linter.unusedSectionVars false
variable [Lay]
section
variable {E:Env} {w w':World} {I I':Nat→Nat→Prop} {h h':qa} {μ μ':Nat→Option Nat} {ρ:Operand→Value} {g:Nat→AB} {b0:Nat} {fr:FR}
variable {dst:Option Tmp} {ty:TypeId} {pos:String} {aft:Array Edge} {gd:Option (Nat×Bool)}
theorem q4w(hE:EnvOK E)(R:RelH w I μ h)(G:GOK g h){t:TypeId}{x:Operand}{lo hi mx:Option Operand}{vs:List AV}(hv:kw w I h μ ρ (q8 E ⟨dst,.slice t x lo hi mx,ty,pos,aft,gd⟩) vs)
  (hf:qj E ⟨dst,.slice t x lo hi mx,ty,pos,aft,gd⟩ vs g b0=some fr) (hc: ∀c∈fr.cs,c.p):kj E ⟨dst,.slice t x lo hi mx,ty,pos,aft,gd⟩ ρ w I h μ fr:=by
 have fin: ∀{vx:AV} {alo ahi amx:Option AV},Rep w I h μ (ρ x) vx→uw w I h μ (lo.map ρ) alo→uw w I h μ (hi.map ρ) ahi→uw w I h μ (mx.map ρ) amx→(amx.isSome=true→ahi.isSome=true)→
   qaj (E.ti t).ud E g vx alo ahi amx=some fr→kj E ⟨dst,.slice t x lo hi mx,ty,pos,aft,gd⟩ ρ w I h μ fr:=by
  intro vx alo ahi amx r1 r2 r3 r4 h5 h6
  obtain⟨v',I',hrun,hrep,hR,hF,hM⟩:=q9s hE R G r1 r2 r3 r4 h5 h6 hc
  exact⟨v',_,w,I',μ,jk (s:=Instr.sliceAt t (ρ x) (lo.map ρ) (hi.map ρ) (mx.map ρ)) hrun,.inl rfl,hrep,hR,hF,hM⟩
 match lo,hi,mx,vs,hv with
 |none,none,none,[vx],hv=>exact fin (vx:=vx) (alo:=none) (ahi:=none) (amx:=none) hv.1 trivial trivial trivial (fun e=>by cases e) hf
 |some _,none,none,[vx,v1],hv=>exact fin (vx:=vx) (alo:=some v1) (ahi:=none) (amx:=none) hv.1 hv.2.1 trivial trivial (fun e=>by cases e) hf
 |none,some _,none,[vx,v1],hv=>exact fin (vx:=vx) (alo:=none) (ahi:=some v1) (amx:=none) hv.1 trivial hv.2.1 trivial (fun e=>by cases e) hf
 |some _,some _,none,[vx,v1,v2],hv=>exact fin (vx:=vx) (alo:=some v1) (ahi:=some v2) (amx:=none) hv.1 hv.2.1 hv.2.2.1 trivial (fun e=>by cases e) hf
 |none,some _,some _,[vx,v1,v2],hv=>exact fin (vx:=vx) (alo:=none) (ahi:=some v1) (amx:=some v2) hv.1 trivial hv.2.1 hv.2.2.1 (fun _=>rfl) hf
 |some _,some _,some _,[vx,v1,v2,v3],hv=>exact fin (vx:=vx) (alo:=some v1) (ahi:=some v2) (amx:=some v3) hv.1 hv.2.1 hv.2.2.1 hv.2.2.2.1 (fun _=>rfl) hf
 |none,none,some _,[vx,v1],hv=>simp [qj] at hf
 |some _,none,some _,[vx,v1,v2],hv=>simp [qj] at hf
theorem qeh{f:Nat→TypeId}: ∀(ps:List (Nat×Operand)) (vs:List AV),kw w I h μ ρ (ps.map fun p=>(f p.1,p.2)) vs→
  (jz ps vs).length=ps.length∧∀(k:Nat) (x:Nat×Value) (y:Nat×AV),(ps.map fun(i,x)=>(i,ρ x))[k]? =some x→(jz ps vs)[k]? =some y→x.1=y.1∧Rep w I h μ x.2 y.2
 |[],vs,hv=>⟨rfl,fun k x y h1 _=>by simp at h1⟩
 | (i, o) :: ps, vs, hv => by
  match vs,hv with
  |v::vs,hv=>
   obtain⟨h1,h2⟩:=qeh ps vs hv.2
   refine⟨by simp [jz,h1],fun k x y e1 e2=> ?_⟩
   cases k with
   |zero=>simp [jz] at e1 e2;subst e1;subst e2;exact⟨rfl,hv.1⟩
   |succ k=>exact h2 k x y (by simpa using e1) (by simpa [jz] using e2)
theorem q4q(hE:EnvOK E)(R:RelH w I μ h){t:TypeId}{ps:Array (Nat×Operand)}{vs:List AV}(hv:kw w I h μ ρ (q8 E ⟨dst,.build t ps,ty,pos,aft,gd⟩) vs)
  (hf:qj E ⟨dst,.build t ps,ty,pos,aft,gd⟩ vs g b0=some fr):kj E ⟨dst,.build t ps,ty,pos,aft,gd⟩ ρ w I h μ fr:=by
 obtain⟨hl,hr⟩:=qeh (f:=fun i=>qje (E.ti t).ud i) ps.toList vs hv
 have hps:(ps.map fun(i,x)=>(i,ρ x)).toList=ps.toList.map fun(i,x)=>(i,ρ x):=by simp
 simp only [qj] at hf
 split at hf
 ·rename_i cs hcs
  obtain⟨hck,hf⟩:=ql hf
  cases hf
  simp only [Bool.and_eq_true] at hck
  have hzl:(E.ti t).zero.length=(E.ti t).size:=Nat.eq_of_beq_eq_true hck.1
  have hkn:=qrb hE.knows hzl
  obtain⟨it,z,hit,hz,hzr⟩:=hE.zero t hkn hzl
  have hz0:qr w I h μ z.cells.toList (E.ti t).zero:=⟨by simpa using hzr.1,fun k v c h1 h2=>hzr.2 k v c (by simpa using h1) h2 w I h μ⟩
  have hu:=hE.und t hkn
  have done: ∀cells:Array Value,E.P.built t (ps.map fun(i,x)=>(i,ρ x)).toList=some cells→qr w I h μ cells.toList cs→kj E ⟨dst,.build t ps,ty,pos,aft,gd⟩ ρ w I h μ ⟨.agg cs,[],[]⟩:=by
   intro cells h1 h2
   refine .quiet R rfl (.agg cells) (jk (s:=Instr.build t (ps.map fun(i,x)=>(i,ρ x))) (run_build w t _ cells h1)) ?_
   exact .agg _ _ (by simpa using h2.1) fun k v c e1 e2=>h2.2 k v c (by simpa using e1) e2
  split at hcs
  ·rename_i fs hud
   rw [hud] at hu
   obtain⟨fields,hu,hfl⟩:=hu
   -- the places, as the model has them
   have hplaces: ∀(l:List Field),(∀f∈l,(f.type,f.offset)∈fs)→l.mapM (fun f=>(E.P.info? f.type).map fun i=>(f.offset,i.size))=some (l.map fun f=>(f.offset,(E.ti f.type).size)):=by
    intro l
    induction l with
    |nil=>intro _;rfl
    |cons f l ih=>
     intro hm
     obtain⟨i,hi,hsz,_⟩:=hE.info f.type (hE.flds t fs hud (f.type,f.offset) (hm f List.mem_cons_self))
     rw [List.mapM_cons,ih (fun f hf=>hm f (List.mem_cons_of_mem _ hf)),hi]
     simp [hsz]
   have hpl:=hplaces fields.toList (fun f hf=>by rw [←hfl];exact List.mem_map.2 ⟨f,hf,rfl⟩)
   obtain⟨cells,g1,g2⟩:=qqv (w:=w) (I:=I) (h:=h) (μ:=μ) (qb4 E fs) ((ps.map fun(i,x)=>(i,ρ x)).toList) (jz ps.toList vs) z.cells (E.ti t).zero cs (by rw [hps,hl];simp) (by rw [hps];exact hr) hz0 hcs
   refine done cells ?_ g2
   unfold Program.built
   simp only [hit,hu,hz,hpl]
   rw [←g1]
   congr 1
   funext i
   simp only [qb4,←hfl,List.getElem?_map]
   simp only [List.getElem?_toArray,List.getElem?_map]
   cases fields.toList[i]? <;>rfl
  ·rename_i n e hud
   rw [hud] at hu
   have hke:(E.ti e).kn=true:=by
    have:=hck.2
    rw [hud] at this
    exact j0 (by simpa using this)
   ·obtain ⟨ie, hie, hsz, _⟩ := hE.info e hke
    obtain⟨cells,g1,g2⟩:=qqv (w:=w) (I:=I) (h:=h) (μ:=μ) (fun i=>some (i*(E.ti e).size,(E.ti e).size)) ((ps.map fun(i,x)=>(i,ρ x)).toList) (jz ps.toList vs) z.cells (E.ti t).zero cs (by rw [hps,hl];simp) (by rw [hps];exact hr) hz0 hcs
    refine done cells ?_ g2
    unfold Program.built
    have hu':E.P.underlying t=some (.array n e):=hu
    simp only [hit,hu',hz,hie,hsz]
    exact g1
  ·cases hcs
 ·cases hf
theorem qx7(R:RelH w I μ h)(hb:b0≤h.length)(hh:h[b0]? =none∨h[b0]? =some .hole){cs:Array Value}{as:List AV}(hc:qr w I h μ cs.toList as)(e:TypeId):
  Rep (w.alloc (.cells cs e (0,0))) I (qe h b0 (.var as)) (upd μ b0 w.heap.size) (.pointer (some ⟨w.heap.size,0,none⟩)) (.ptr b0 0)∧
   RelH (w.alloc (.cells cs e (0,0))) I (upd μ b0 w.heap.size) (qe h b0 (.var as))∧
   Fr w (Wr h μ) I (w.alloc (.cells cs e (0,0))) (Wr (qe h b0 (.var as)) (upd μ b0 w.heap.size)) I∧HM h μ (qe h b0 (.var as)) (upd μ b0 w.heap.size):=by
 have hnew:(w.alloc (.cells cs e (0,0))).heap[w.heap.size]? =some (.cells cs e (0,0)):=heap_alloc_new w _
 have hget0:(qe h b0 (.var as))[b0]? =some (.var as):=by rw [qi _ h b0 b0 hb,if_pos rfl]
 obtain⟨hR,hF,hM⟩:=R.lay hb hh cs e (.var as) (by
  refine⟨w.heap.size,cs,e,jy _ _ _,hnew,by simpa using hc.1,fun k v c h1 h2=> ?_⟩
  have r:=hc.2 k v c (by simpa using h1) h2
  -- the value means what it meant
  obtain⟨_,hF,hM⟩:=R.lay hb hh cs e .gone trivial
  refine r.mono (h':=qe h b0 (.var as)) (μ':=upd μ b0 w.heap.size) ⟨fun i x hx=> ?_,fun i x y hx hy lx ly=> ?_⟩ hF.shape (R.keptI hF) hF.im
  ·by_cases hib : i = b0
   ·subst hib
    refine⟨.var as,hget0, ?_⟩
    rcases hh with hh|hh
    ·rw [hh] at hx;cases hx
    ·rw [hh] at hx;injection hx with hx;subst hx;trivial
   ·obtain ⟨y, hy, ky⟩ := hM.kept i x hx
    rw [qi _ h b0 i hb,if_neg hib] at hy
    exact⟨y,by rw [qi _ h b0 i hb,if_neg hib];exact hy,ky⟩
  ·by_cases hib : i = b0
   ·subst hib
    rcases hh with hh|hh
    ·rw [hh] at hx;cases hx
    ·rw [hh] at hx;injection hx with hx;subst hx;exact lx.elim
   ·exact qal _ _ hib)
 exact⟨.ptr b0 0 _ ⟨_,hget0,by simp,fun _=>jy _ _ _⟩,hR,hF,hM⟩
theorem qvd{k:IntKind}: ∀{l:List AV},qvc k l=true→∀(i:Nat),i<l.length→l[i]? =some (.int k 0)
 |[],_,i,hi=>by cases hi
 | a :: r, h, i, hi => by
  unfold qvc at h
  split at h
  ·rename_i e;cases e
  ·rename_i k' n r' e
   injection e with e1 e2
   subst e1;subst e2
   simp only [Bool.and_eq_true,decide_eq_true_eq] at h
   obtain⟨⟨rfl,rfl⟩,h⟩:=h
   cases i with
   |zero=>rfl
   |succ i=>exact qvd h i (by simpa using hi)
  ·cases h
theorem qt1(hE:EnvOK E)(R:RelH w I μ h)(hb:b0≤h.length)(hh:h[b0]? =none∨h[b0]? =some .hole){e:TypeId}{k:IntKind}(_hk:q9m E (E.ti e).ud=some k)
  (hf:chk (Nat.beq (E.ti e).zero.length (E.ti e).size&&qvc k (E.ti e).zero) (some ⟨.ptr b0 0,[(b0,.arr (.int k) (List.replicate (E.ti e).size 0) true)],[]⟩)=some fr):kj E ⟨dst,.alloc e,ty,pos,aft,gd⟩ ρ w I h μ fr:=by
 obtain⟨hck,hf⟩:=ql hf
 cases hf
 simp only [Bool.and_eq_true] at hck
 have hzl:(E.ti e).zero.length=(E.ti e).size:=Nat.eq_of_beq_eq_true hck.1
 obtain⟨it,z,hit,hz,hzr⟩:=hE.zero e (qrb hE.knows hzl) hzl
 have hzi: ∀i,i<(E.ti e).size→z.cells[i]? =some (.int k 0):=by
  intro i hi
  have h1:=qvd hck.2 i (by omega)
  have hlt:i<z.cells.size:=by rw [hzr.1];omega
  have h2:=hzr.2 i z.cells[i] _ (Array.getElem?_eq_getElem hlt) h1 w I h μ
  rw [Array.getElem?_eq_getElem hlt,jg h2]
 have hnew:(w.alloc (.cells z.cells e (0,0))).heap[w.heap.size]? =some (.cells z.cells e (0,0)):=heap_alloc_new w _
 have hget0:(qe h b0 (.arr (.int k) (List.replicate (E.ti e).size 0) true))[b0]? =some (.arr (.int k) (List.replicate (E.ti e).size 0) true):=by rw [qi _ h b0 b0 hb,if_pos rfl]
 obtain⟨hR,hF,hM⟩:=R.lay hb hh z.cells e (.arr (.int k) (List.replicate (E.ti e).size 0) true) (by
  right
  refine⟨w.heap.size,z.cells,e,jy _ _ _,.of hnew,by simp [Ty.sz,hzr.1,hzl],fun i hi=> ?_,fun hf=>by cases hf⟩
  have hi':i<(E.ti e).size:=by simpa using hi
  have h1:((z.cells.toList.drop (i*(Ty.int k).sz)).take (Ty.int k).sz)=[.int k 0]:=by
   have hz1:=hzi i hi'
   simp only [Ty.sz,Nat.mul_one]
   have hlt:i<z.cells.toList.length:=by simp [hzr.1];omega
   rw [List.drop_eq_getElem_cons hlt]
   simp only [List.take_succ_cons,List.take_zero]
   congr 1
   rw [Array.getElem?_eq_getElem (by simpa using hlt)] at hz1
   simpa using Option.some.inj hz1
  rw [h1]
  have h2:(List.replicate (E.ti e).size (0:Int))[i]'(by simpa using hi')=0:=by simp
  have h3:RD (w.alloc (.cells z.cells e (0,0))) I (.int k) ((List.replicate (E.ti e).size (0:Int))[i]'(by simpa using hi')) [.int k 0]:=by rw [h2];exact .int k 0
  exact h3)
 refine⟨_,_,_,I,_,jk (s:=Instr.alloc e true (.tuple #[])) (v:= .pointer (some ⟨w.heap.size,0,none⟩)) (w':=w.alloc (.cells z.cells e (0,0))) ?_,.inl rfl,.ptr b0 0 _ ⟨_,hget0,by simp,fun _=>jy _ _ _⟩,hR,hF,hM⟩
 have:(zeroValue e).run E.P w= .ok z w:=by simp [zeroValue,typeInfo,hit,hz]
 simp only [Instr.alloc,Sem.run_bind,this,Result.andThen_ok]
 rfl
theorem q4o(hE:EnvOK E)(R:RelH w I μ h)(hb:b0≤h.length)(hh:h[b0]? =none∨h[b0]? =some .hole){e:TypeId}{vs:List AV}
  (hf:qj E ⟨dst,.alloc e,ty,pos,aft,gd⟩ vs g b0=some fr):kj E ⟨dst,.alloc e,ty,pos,aft,gd⟩ ρ w I h μ fr:=by
 simp only [qj] at hf
 split at hf
 ·exact qt1 hE R hb hh (by assumption) hf
 obtain⟨hck,hf⟩:=ql hf
 cases hf
 have hzl:(E.ti e).zero.length=(E.ti e).size:=Nat.eq_of_beq_eq_true hck
 obtain⟨it,z,hit,hz,hzr⟩:=hE.zero e (qrb hE.knows hzl) hzl
 have hz0:qr w I h μ z.cells.toList (E.ti e).zero:=⟨by simpa using hzr.1,fun k v c h1 h2=>hzr.2 k v c (by simpa using h1) h2 w I h μ⟩
 obtain⟨h1,h2,h3,h4⟩:=qx7 R hb hh hz0 e
 refine⟨_,_,_,I,_,jk (s:=Instr.alloc e true (.tuple #[])) (v:= .pointer (some ⟨w.heap.size,0,none⟩)) (w':=w.alloc (.cells z.cells e (0,0))) ?_,.inl rfl,h1,h2,h3,h4⟩
 have:(zeroValue e).run E.P w= .ok z w:=by simp [zeroValue,typeInfo,hit,hz]
 simp only [Instr.alloc,Sem.run_bind,this,Result.andThen_ok]
 rfl
theorem zf{k:IntKind}: ∀{cs:List AV} {l:List Int},qkz k cs=some l→l.length=cs.length∧cs.all q0k=true∧∀(i:Nat) (hi:i<l.length),cs[i]? =some (.int k l[i])
 |[],l,h=>by cases h;exact⟨rfl,rfl,fun i hi=>by cases hi⟩
 | a :: r, l, h => by
  unfold qkz at h
  split at h
  ·rename_i e;cases e
  ·rename_i k' n r' e
   injection e with e1 e2
   subst e1;subst e2
   split at h
   ·rename_i hk _
    subst hk
    split at h
    ·rename_i l' hl'
     cases h
     obtain⟨h1,h2,h3⟩:=zf hl'
     refine⟨by simp [h1],by simp [q0k,h2],fun i hi=> ?_⟩
     cases i with
     |zero=>rfl
     |succ i=>exact h3 i (by simpa using hi)
    ·cases h
   ·cases h
  ·cases h
theorem jar(R:RelH w I μ h)(hb:b0≤h.length)(hh:h[b0]? =none∨h[b0]? =some .hole){e:TypeId}{x:Operand}{vs:List AV}(hv:kw w I h μ ρ (q8 E ⟨dst,.box e x,ty,pos,aft,gd⟩) vs)
  (hf:qj E ⟨dst,.box e x,ty,pos,aft,gd⟩ vs g b0=some fr):kj E ⟨dst,.box e x,ty,pos,aft,gd⟩ ρ w I h μ fr:=by
 match vs,hv with
 | [v], hv =>
  simp only [qj] at hf
  split at hf
  ·rename_i k _
   split at hf
   ·rename_i l hl
    obtain⟨hck,hf⟩:=ql hf
    cases hf
    simp only [Bool.and_eq_true] at hck
    have hcr:=wy hv.1 hck.1
    have hnew:(w.alloc (.cells (ρ x).cells e (0,0))).heap[w.heap.size]? =some (.cells (ρ x).cells e (0,0)):=heap_alloc_new w _
    have hget0:(qe h b0 (.arr (.int k) l true))[b0]? =some (.arr (.int k) l true):=by rw [qi _ h b0 b0 hb,if_pos rfl]
    have hll:=(zf hl).1
    have hcz:(ρ x).cells.size=v.cells.length:=by have:=hcr.1;simpa using this
    obtain⟨hR,hF,hM⟩:=R.lay hb hh (ρ x).cells e (.arr (.int k) l true) (by
     right
     refine⟨w.heap.size,(ρ x).cells,e,jy _ _ _,.of hnew,by show(l:List Int).length*1≤_;omega,fun m hm=> ?_,fun hff=>by cases hff⟩
     have hm':m<(l:List Int).length:=hm
     have hlt:m<(ρ x).cells.toList.length:=by simp;omega
     have h6:=(zf hl).2.2 m hm'
     have h7:=hcr.2 m _ _ (List.getElem?_eq_getElem hlt) h6
     have h8:(((ρ x).cells.toList.drop (m*(Ty.int k).sz)).take (Ty.int k).sz)=[.int k ((l:List Int)[m])]:=by
      simp only [Ty.sz,Nat.mul_one]
      rw [List.drop_eq_getElem_cons hlt,jg h7]
      rfl
     have h10:RD (w.alloc (.cells (ρ x).cells e (0,0))) I (.int k) ((l:List Int)[m]:Int) [.int k ((l:List Int)[m])]:= .int k _
     rw [h8]
     exact h10)
    exact⟨_,_,_,I,_,jk (s:=Instr.box e (ρ x)) (v:= .pointer (some ⟨w.heap.size,0,none⟩)) (w':=w.alloc (.cells (ρ x).cells e (0,0))) rfl,.inl rfl,.ptr b0 0 _ ⟨_,hget0,by simp,fun _=>jy _ _ _⟩,hR,hF,hM⟩
   ·cases hf
  obtain⟨hck,hf⟩:=ql hf
  cases hf
  simp only [Bool.and_eq_true] at hck
  obtain⟨h1,h2,h3,h4⟩:=qx7 R hb hh (wy hv.1 hck.1) e
  exact⟨_,_,_,I,_,jk (s:=Instr.box e (ρ x)) (v:= .pointer (some ⟨w.heap.size,0,none⟩)) (w':=w.alloc (.cells (ρ x).cells e (0,0))) rfl,.inl rfl,h1,h2,h3,h4⟩
theorem q7m{vs:List Value}{as:List AV}(hc:qr w I h μ vs as)(ho:as.all q0k=true): ∀u∈vs,u.oneCell'=true:=by
 intro u hu
 obtain⟨k,hk,hku⟩:=List.getElem_of_mem hu
 have hk2:k<as.length:=by rw [←hc.1];exact hk
 refine q7u (hc.2 k u as[k] (by rw [List.getElem?_eq_getElem hk,hku]) (by rw [List.getElem?_eq_getElem hk2])) ?_
 exact List.all_eq_true.1 ho _ (List.getElem_mem hk2)
theorem yk(us vs:List Value)(j:Nat)(hl:j+vs.length≤us.length):qm us j vs=us.take j++vs++us.drop (j+vs.length):=by
 apply List.ext_getElem?
 intro m
 rw [jp _ _ _ _ hl]
 by_cases h1:m<j
 ·rw [if_neg (by omega),List.append_assoc,List.getElem?_append_left (by simp;omega),List.getElem?_take,if_pos h1]
 ·by_cases h2 : m < j + vs.length
  ·rw [if_pos (by omega), List.getElem?_append_left (by simp; omega), List.getElem?_append_right (by simp; omega)]
   congr 1;simp;omega
  ·rw [if_neg (by omega), List.getElem?_append_right (by simp; omega), List.getElem?_drop]
   congr 1;simp;omega
theorem qdy(g:Nat)(e:TypeId)(fz:Nat×Nat): ∀(vs:List Value) (o:Nat) (w:World) (cs:Array Value),w.heap[g]? =some (.cells cs e fz)→w.setCells g o vs=w.setRow g (qm cs.toList o vs).toArray
 |[],o,w,cs,h=>by
  show w=w.setRow g cs.toList.toArray
  rw [Array.toArray_toList,setRow_self w g cs e fz h]
 |v::r,o,w,cs,h=>by
  show(w.setCell ⟨g,o,none⟩ v).setCells g (o+1) r=_
  rw [setCell_eq_setRow w g o cs e fz v h,qdy g e fz r (o+1) _ _ (setRow_heap w g _ _ e fz h),setRow_setRow]
  simp [qm]
theorem un{P:Program}{w:World}{q:Nat}{us:Array Value}{e:TypeId}{fz:Nat×Nat}(hq:w.heap[q]? =some (.cells us e fz))(hz:fz=(0,0)∨us.size≤fz.1)(vs:List Value)(o:Nat)
  (hl:o+vs.length≤us.size) (h1: ∀v∈vs,v.oneCell'=true):
  (storeCells ⟨q,o,none⟩ vs 0).run P w= .ok () (w.setRow q (us.toList.take o++vs++us.toList.drop (o+vs.length)).toArray):=by
 have hst:=run_storeCells_cells (P:=P) q o vs 0 w (fun j hj=>by
  have hi:o+j<us.size:=by omega
  simp [World.cell?,hq,hi]) (fun j hj=>by
  obtain⟨lo,hi⟩:=fz
  unfold World.frozen?
  rw [hq]
  rcases hz with hz|hz
  ·cases hz
   simp
  ·have hz : us.size ≤ lo := hz
   have: ¬lo≤o+0+j:=by omega
   simp only [this,decide_false,Bool.false_and]) h1
 rw [hst,Nat.add_zero,qdy q e fz vs o w us hq,yk us.toList vs o (by simpa using hl)]
theorem qb3{P:Program}{t:TypeId}{i:TypeInfo}(hi:P.info? t=some i){q o:Nat}{us:Array Value}{e:TypeId}{fz:Nat×Nat}(hq:w.heap[q]? =some (.cells us e fz))(hz:fz=(0,0)∨us.size≤fz.1){v:Value}
  (hs:v.cells.size=i.size) (hfit:o+i.size≤us.size) (h1: ∀u∈v.cells.toList,u.oneCell'=true):
  (Instr.storeAt t (.pointer (some ⟨q,o,none⟩)) v).run P w= .ok () (w.setRow q (us.toList.take o++v.cells.toList++us.toList.drop (o+i.size)).toArray):=by
 have hst:=un (P:=P) hq hz v.cells.toList o (by simp;omega) h1
 have hl:v.cells.toList.length=i.size:=by simpa using hs
 rw [hl] at hst
 simp only [Instr.storeAt,Instr.sureAddr,Sem.run_bind,Sem.run_pure,Result.andThen_ok,storeVar,sizeOf,typeInfo,run_program,hi,hs]
 simpa using hst
theorem q4x (hE : EnvOK E) (R : RelH w I μ h) (G : GOK g h) {t : TypeId} {x y : Operand} {vs : List AV} (hv : kw w I h μ ρ (q8 E ⟨dst, .store t x y, ty, pos, aft, gd⟩) vs)
  (hf:qj E ⟨dst,.store t x y,ty,pos,aft,gd⟩ vs g b0=some fr) (hc: ∀c∈fr.cs,c.p):kj E ⟨dst,.store t x y,ty,pos,aft,gd⟩ ρ w I h μ fr:=by
 match vs,hv with
 | [a, v], hv =>
  obtain⟨hx,hy,_⟩:=hv
  simp only [qj,q5i] at hf
  split at hf
  ·rename_i b j
   split at hf
   ·rename_i cs hb
    obtain⟨hck,hf⟩:=ql hf
    cases hf
    simp only [Bool.and_eq_true,Nat.ble_eq] at hck
    obtain⟨⟨⟨⟨hpl,hone⟩,hsz⟩,hfit⟩,hkn⟩:=hck
    have hsz:v.cells.length=(E.ti t).size:=Nat.eq_of_beq_eq_true hsz
    have hb':=G.some hb (by simp)
    obtain⟨q,us,e,h1,h2,h3,h4⟩:=R.blk b _ hb'
    have hpq:ρ x= .pointer (some ⟨q,j,none⟩):=by
     generalize ρ x=z at hx
     cases hx with
     |ptr _ _ q' hp=>
      obtain⟨z,hz,hz1,hz2⟩:=hp
      rw [hb'] at hz;injection hz with hz;subst hz
      have:=hz2 (by simp)
      rw [h1] at this;injection this with this;subst this
      rfl
    have hcr:=wy hy hpl
    obtain⟨i,hi,his,_⟩:=hE.info t (j0 hkn)
    have hlen:(ρ y).cells.size=i.size:=by rw [his,←hsz,←hcr.1];simp
    have hrun:=qb3 (w:=w) hi h2 (.inl rfl) (v:=ρ y) (o:=j) hlen (by omega) (q7m hcr hone)
    have hlay:=yk us.toList (ρ y).cells.toList j (by simp;omega)
    have hl2:(ρ y).cells.toList.length=i.size:=by simpa using hlen
    rw [hl2] at hlay
    rw [←hlay] at hrun
    have hwr: ∀o,Wr h μ q o:=fun o=>⟨b,h1,.inl ⟨cs,hb'⟩⟩
    have hlt:b≤h.length:=by have:=(List.getElem?_eq_some_iff.1 hb').1;omega
    obtain⟨hR,hF,hM⟩:=R.write (w':=w.setRow q (qm us.toList j (ρ y).cells.toList).toArray) (x':= .var (setAt cs j v.cells)) hb' trivial h1 h2 (setRow_heap w q us _ e _ h2) (by simp [qk])
     (fun k hk=>setRow_other w q k _ hk) rfl rfl rfl (by simp) (fun o hn=>absurd (hwr o) hn) ⟨_,rfl⟩ trivial
     (fun q' o hq' => by
      obtain⟨i',hi',hx'⟩:=hq'
      by_cases hib:i'=b
      ·subst hib
       rw [h1] at hi';injection hi' with hi';subst hi'
       exact hwr o
      ·rw [qi _ h b i' hlt, if_neg hib] at hx'
       exact⟨i',hi',hx'⟩)
     (fun hM hstep _ => by
      have hcs:qr w I h μ us.toList cs:=⟨by simpa using h3,fun k v c e1 e2=>h4 k v c (by simpa using e1) e2⟩
      have hnew:=qr.setAt _ _ _ _ j hcs hcr
      refine⟨q,_,e,h1,setRow_heap w q us _ e _ h2,by simpa using hnew.1,fun k v c e1 e2=>hstep v c (hnew.2 k v c (by simpa using e1) e2)⟩)
    exact⟨undef,_,_,I,μ,qui (s:=Instr.storeAt t (ρ x) (ρ y)) (by rw [hpq];exact hrun),.inr ⟨rfl,rfl⟩,.junk _,hR,hF,hM⟩
   ·rename_i k l hb
    split at hf
    ·rename_i l' hl'
     obtain⟨hck,hf⟩:=ql hf
     cases hf
     simp only [Bool.and_eq_true,Nat.ble_eq] at hck
     obtain⟨⟨⟨⟨hpl,hj⟩,hz1⟩,hsz⟩,hkn⟩:=hck
     have hj:j=0:=Nat.eq_of_beq_eq_true hj
     subst hj
     have hsz:v.cells.length=(E.ti t).size:=Nat.eq_of_beq_eq_true hsz
     have hln:(l:List Int).length=(E.ti t).size:=hc ⟨_,inferInstance⟩ (by simp)
     have hll:(l':List Int).length=(l:List Int).length:=by rw [(zf hl').1,hsz,hln]
     have hb':=G.some hb (by simp)
     rcases R.blk b _ hb' with hnil|⟨q,us,e,h1,h2,h3,h4,h5⟩
     ·have : (l : List Int).length = 0 := by rw [show (l : List Int) = [] from hnil]; rfl
      omega
     have hpq:ρ x= .pointer (some ⟨q,0,none⟩):=by
      generalize ρ x=z at hx
      cases hx with
      |ptr _ _ q' hp=>
       obtain⟨z,hz,hz1,hz2⟩:=hp
       rw [hb'] at hz;injection hz with hz;subst hz
       have:=hz2 (by simp)
       rw [h1] at this;injection this with this;subst this
       rfl
     have h3:(l:List Int).length*1≤us.size:=h3
     have hcr:=wy hy hpl
     obtain⟨i,hi,his,_⟩:=hE.info t (j0 hkn)
     have hlen:(ρ y).cells.size=i.size:=by rw [his,←hsz,←hcr.1];simp
     obtain⟨fz,h2,hfz⟩:=h2
     have hrun:=qb3 (w:=w) hi h2 (hfz.imp_right And.right) (v:=ρ y) (o:=0) hlen (by omega) (q7m hcr (zf hl').2.1)
     have hlay:=yk us.toList (ρ y).cells.toList 0 (by simp;omega)
     have hl2:(ρ y).cells.toList.length=i.size:=by simpa using hlen
     rw [hl2] at hlay
     rw [←hlay] at hrun
     have hwr: ∀o,Wr h μ q o:=fun o=>⟨b,h1,.inr (.inl ⟨.int k,l,hb'⟩)⟩
     have hlt:b≤h.length:=by have:=(List.getElem?_eq_some_iff.1 hb').1;omega
     obtain⟨hR,hF,hM⟩:=R.write (w':=w.setRow q (qm us.toList 0 (ρ y).cells.toList).toArray) (x':= .arr (.int k) l' true) hb' trivial h1 h2 (setRow_heap w q us _ e _ h2) (by simp [qk])
      (fun k hk=>setRow_other w q k _ hk) rfl rfl rfl (by simp) (fun o hn=>absurd (hwr o) hn) (.inr ⟨l',true,rfl,hll⟩) trivial
      (fun q' o hq' => by
       obtain⟨i',hi',hx'⟩:=hq'
       by_cases hib:i'=b
       ·subst hib
        rw [h1] at hi';injection hi' with hi';subst hi'
        exact hwr o
       ·rw [qi _ h b i' hlt, if_neg hib] at hx'
        exact⟨i',hi',hx'⟩)
      (fun hM hstep hrd => by
       right
       refine⟨q,_,e,h1,⟨fz,setRow_heap w q us _ e _ h2,by simpa [qk] using hfz⟩,by simp [qk,Ty.sz];omega,fun m hm=> ?_,fun hff=>by cases hff⟩
       have hm':m<(l':List Int).length:=hm
       have hcell:(ρ y).cells.toList[m]? =some (.int k ((l':List Int)[m])):=by
        have h6:=(zf hl').2.2 m hm'
        have hlt2:m<(ρ y).cells.toList.length:=by rw [hcr.1,hsz];omega
        have h7:=hcr.2 m _ _ (List.getElem?_eq_getElem hlt2) h6
        rw [List.getElem?_eq_getElem hlt2,jg h7]
       have h8:(((qm us.toList 0 (ρ y).cells.toList).toArray.toList.drop (m*(Ty.int k).sz)).take (Ty.int k).sz)=[.int k ((l':List Int)[m])]:=by
        simp only [Ty.sz,Nat.mul_one]
        have hlt3:m<(qm us.toList 0 (ρ y).cells.toList).length:=by rw [qk];simp;omega
        have h9:(qm us.toList 0 (ρ y).cells.toList)[m]? =some (.int k ((l':List Int)[m])):=by
         rw [jp _ _ _ _ (by simp;omega),if_pos ⟨by omega,by rw [hcr.1,hsz];omega⟩,Nat.sub_zero]
         exact hcell
        rw [List.getElem?_eq_getElem hlt3] at h9
        rw [List.drop_eq_getElem_cons hlt3,Option.some.inj h9]
        rfl
       have h10:RD (w.setRow q (qm us.toList 0 (ρ y).cells.toList).toArray) I (.int k) ((l':List Int)[m]:Int) [.int k ((l':List Int)[m])]:= .int k _
       rw [h8]
       exact h10)
     exact⟨undef,_,_,I,μ,qui (s:=Instr.storeAt t (ρ x) (ρ y)) (by rw [hpq];exact hrun),.inr ⟨rfl,rfl⟩,.junk _,hR,hF,hM⟩
    ·cases hf
   ·cases hf
  ·rename_i t' b i j
   split at hf
   ·rename_i t2 l hb
    split at hf
    ·rename_i he
     subst he
     ·split at hf
      ·rename_i y0 hy0
       obtain⟨hck,hf⟩:=ql hf
       cases hf
       simp only [Bool.and_eq_true,Nat.ble_eq,Bool.not_eq_true'] at hck
       obtain⟨⟨⟨⟨⟨hpl,hone⟩,hsz⟩,hfit⟩,hkn⟩,hnot⟩:=hck
       have hsz:v.cells.length=(E.ti t).size:=Nat.eq_of_beq_eq_true hsz
       have hnot:b∉jv v.cells:=by simpa using hnot
       have hb0':=G.some hb (by simp)
       obtain⟨I1,R1,F1,M1,_,hfz,hoth⟩:=g6 (jv v.cells) I h R G.f
       have hb':(qg h (frz g (jv v.cells)))[b]? =some (.arr t2 l true):=(hoth b hnot).trans hb0'
       have hy1:=hy.step R F1 M1
       have hcr0:=wy hy1 hpl
       have hcr:qr w I1 (qg h (frz g (jv v.cells))) μ (ρ y).cells.toList (v.cells.map (qnv g)):=by
        refine⟨by simpa using hcr0.1,fun k u c e1 e2=> ?_⟩
        rw [List.getElem?_map] at e2
        cases hq:v.cells[k]? with
        |none=>rw [hq] at e2;cases e2
        |some c0=>
         rw [hq] at e2
         simp at e2
         subst e2
         refine qjm R1 (hcr0.2 k u c0 e1 hq) fun t3 b3 full e3 t' l' fr' e4=>hfz b3 ?_ t' l' fr' e4
         subst e3
         exact qab _ _ _ _ (List.mem_of_getElem? hq)
       have hil:i<l.length:=hc ⟨_,inferInstance⟩ (by simp)
       have hx0':l[i]=elt t2 l i:=(qg9 hil).symm
       generalize elt t2 l i=x0 at hy0 hx0'
       rcases R1.blk b _ hb' with hnil|⟨q,us,e,h1,h2,h3,h4,h5⟩
       ·subst hnil;simp at hil
       ·have hpq : ρ x = .pointer (some ⟨q, i * t2.sz + j, none⟩) := by
         generalize ρ x=z at hx
         cases hx with
         |eptr _ _ _ _ q' hp=>
          obtain⟨z,hz,hz1,hz2⟩:=hp
          rw [hb0'] at hz;injection hz with hz;subst hz
          have:=hz2 (by simp)
          rw [h1] at this;injection this with this;subst this
          rfl
        obtain⟨it,hit,his,_⟩:=hE.info t (j0 hkn)
        have hlen:(ρ y).cells.size=it.size:=by rw [his,←hsz,←hcr0.1];simp
        have hrow:i*t2.sz+t2.sz≤l.length*t2.sz:=by
         have:=Nat.mul_le_mul_right t2.sz hil
         rw [Nat.succ_mul] at this
         exact this
        obtain⟨fz,h2,hfz⟩:=h2
        have hrun:=qb3 (w:=w) hit h2 (hfz.imp_right And.right) (v:=ρ y) (o:=i*t2.sz+j) hlen (by omega) (q7m hcr0 hone)
        have hlay:=yk us.toList (ρ y).cells.toList (i*t2.sz+j) (by simp;omega)
        have hl2:(ρ y).cells.toList.length=it.size:=by simpa using hlen
        rw [hl2] at hlay
        rw [←hlay] at hrun
        have hwr: ∀o,Wr (qg h (frz g (jv v.cells))) μ q o:=fun o=>⟨b,h1,.inr (.inl ⟨t2,l,hb'⟩)⟩
        have hlt:b≤(qg h (frz g (jv v.cells))).length:=by have:=(List.getElem?_eq_some_iff.1 hb').1;omega
        obtain⟨hR,hF,hM⟩:=R1.write (w':=w.setRow q (qm us.toList (i*t2.sz+j) (ρ y).cells.toList).toArray) (x':= .arr t2 (l.set i y0) true) hb' trivial h1 h2 (setRow_heap w q us _ e _ h2) (by simp [qk])
         (fun k hk=>setRow_other w q k _ hk) rfl rfl rfl (by simp) (fun o hn=>absurd (hwr o) hn) (.inr ⟨l.set i y0,true,rfl,by simp⟩) trivial
         (fun q' o hq' => by
          obtain⟨i',hi',hx'⟩:=hq'
          by_cases hib:i'=b
          ·subst hib
           rw [h1] at hi';injection hi' with hi';subst hi'
           exact hwr o
          ·rw [qi _ _ b i' hlt, if_neg hib] at hx'
           exact⟨i',hi',hx'⟩)
         (fun hM hstep hrd => by
          right
          refine⟨q,_,e,h1,⟨fz,setRow_heap w q us _ e _ h2,by simpa [qk] using hfz⟩,by simp [qk];omega,fun k hk=> ?_,fun hff=>by cases hff⟩
          have hk':k<l.length:=by simpa using hk
          by_cases hki:k=i
          ·subst hki
           have hold:=h4 k hk'
           rw [hx0'] at hold
           have hseg:qr w I1 (qg h (frz g (jv v.cells))) μ ((us.toList.drop (k*t2.sz)).take t2.sz) (cellsOf t2 x0):=⟨by rw [hold.len,w6],fun _ _ _ e1 e2=>hold.rep _ _ _ e1 e2⟩
           have hnew:=qr.setAt _ _ _ _ j hseg hcr
           have hdata:=qoc hnew hy0
           have:(l.set k y0)[k]=y0:=by simp
           rw [this]
           refine hrd _ _ _ ?_
           have hsegeq:(((qm us.toList (k*t2.sz+j) (ρ y).cells.toList).toArray.toList.drop (k*t2.sz)).take t2.sz)=qm ((us.toList.drop (k*t2.sz)).take t2.sz) j (ρ y).cells.toList:=by
            apply List.ext_getElem?
            intro m
            rw [List.getElem?_take]
            rw [jp _ _ _ _ (by rw [List.length_take,List.length_drop];simp;omega)]
            split
            ·rename_i hm
             rw [List.getElem?_drop]
             simp only
             rw [jp _ _ _ _ (by simp;omega)]
             by_cases hin:j≤m∧m<j+(ρ y).cells.toList.length
             ·rw [if_pos hin, if_pos (by omega)]
              congr 1;omega
             ·rw [if_neg hin,if_neg (by omega),List.getElem?_take,if_pos hm,List.getElem?_drop]
            ·rename_i hm
             rw [if_neg (by omega),List.getElem?_take,if_neg hm]
           rw [hsegeq]
           exact hdata
          ·have : (l.set i y0)[k] = l[k] := by simp [Ne.symm hki]
           rw [this]
           refine hrd _ _ _ ?_
           have hsegeq:(((qm us.toList (i*t2.sz+j) (ρ y).cells.toList).toArray.toList.drop (k*t2.sz)).take t2.sz)=((us.toList.drop (k*t2.sz)).take t2.sz):=by
            apply List.ext_getElem?
            intro m
            rw [List.getElem?_take,List.getElem?_take]
            split
            ·rename_i hm
             rw [List.getElem?_drop,List.getElem?_drop]
             simp only
             rw [jp _ _ _ _ (by simp;omega),if_neg ?_]
             rintro⟨e1,e2⟩
             rcases Nat.lt_or_gt_of_ne hki with hlt'|hgt'
             ·have := Nat.mul_le_mul_right t2.sz (Nat.succ_le_of_lt hlt')
              rw [Nat.succ_mul] at this
              omega
             ·have := Nat.mul_le_mul_right t2.sz (Nat.succ_le_of_lt hgt')
              rw [Nat.succ_mul] at this
              omega
            ·rfl
           rw [hsegeq]
           exact h4 k hk')
        refine⟨undef,_,_,I1,μ,qui (s:=Instr.storeAt t (ρ x) (ρ y)) (by rw [hpq];exact hrun),.inr ⟨rfl,rfl⟩,.junk _, ?_, ?_, ?_⟩
        ·rw [vq];exact hR
        ·rw [vq];exact F1.trans hF
        ·rw [vq];exact M1.trans hM
      ·cases hf
    ·cases hf
   ·cases hf
  ·cases hf
end
end Go.AM
namespace Go.AM
set_option linter.unusedSectionVars false
variable [Lay]
section
variable {E:Env} {w w':World} {I I':Nat→Nat→Prop} {h h':qa} {μ μ':Nat→Option Nat} {ρ:Operand→Value} {g:Nat→AB} {b0:Nat} {fr:FR}
variable {dst:Option Tmp} {ty:TypeId} {pos:String} {aft:Array Edge} {gd:Option (Nat×Bool)}
def jh(w:World)(I:Nat→Nat→Prop)(t:Ty)(l:List t.den)(vs:List Value):Prop:=
 l.length*t.sz≤vs.length∧∀k (hk:k<l.length),RD w I t l[k] ((vs.drop (k*t.sz)).take t.sz)
theorem qtp(R:RelH w I μ h)(hb:b0≤h.length)(hh:h[b0]? =none∨h[b0]? =some .hole){t:Ty}{l:List t.den}{cs:Array Value}(hr:jh w I t l cs.toList)(e:TypeId)(cap:Nat)(full:Bool)(fz:Nat×Nat)
  (hz:fz=(0,0)∨t= .int .u8∧cs.size≤fz.1) (h1:l.length≤cap) (h2:full=true→cap=l.length) (h3:cap*t.sz≤cs.size):
  Rep (w.alloc (.cells cs e fz)) I (qe h b0 (.arr t l true)) (upd μ b0 w.heap.size) (.slice (some ⟨w.heap.size,0,none⟩) l.length cap) (.own t b0 full)∧
   RelH (w.alloc (.cells cs e fz)) I (upd μ b0 w.heap.size) (qe h b0 (.arr t l true))∧
   Fr w (Wr h μ) I (w.alloc (.cells cs e fz)) (Wr (qe h b0 (.arr t l true)) (upd μ b0 w.heap.size)) I∧HM h μ (qe h b0 (.arr t l true)) (upd μ b0 w.heap.size):=by
 have hnew:(w.alloc (.cells cs e fz)).heap[w.heap.size]? =some (.cells cs e fz):=heap_alloc_new w _
 have hget0:(qe h b0 (.arr t l true))[b0]? =some (.arr t l true):=by rw [qi _ h b0 b0 hb,if_pos rfl]
 obtain⟨_,hF0,hM0⟩:=R.layF hb hh (.cells cs e fz) .gone trivial
 obtain⟨hR,hF,hM⟩:=R.layF hb hh (.cells cs e fz) (.arr t l true) (by
  right
  refine⟨w.heap.size,cs,e,jy _ _ _,⟨fz,hnew,hz⟩,by simpa using hr.1,fun k hk=> ?_,fun hf=>by cases hf⟩
  exact(hr.2 k hk).mono (R.cell hF0) hF0.im)
 refine⟨.own t b0 full _ _ cap ⟨_,hget0,by simp,fun t' l' fr' e'=> ?_⟩,hR,hF,hM⟩
 cases e'
 exact⟨rfl,rfl,h1,h2,.inr ⟨_,cs,e,jy _ _ _,rfl,⟨fz,hnew,hz⟩,h3⟩⟩
theorem qrd(R:RelH w I μ h)(hb:b0≤h.length)(hh:h[b0]? =none∨h[b0]? =some .hole){t:Ty}{l:List t.den}{cs:Array Value}(hr:jh w I t l cs.toList)(e:TypeId)(cap:Nat)(full:Bool)
  (h1:l.length≤cap) (h2:full=true→cap=l.length) (h3:cap*t.sz≤cs.size):
  Rep (w.alloc (.cells cs e (0,0))) I (qe h b0 (.arr t l true)) (upd μ b0 w.heap.size) (.slice (some ⟨w.heap.size,0,none⟩) l.length cap) (.own t b0 full)∧
   RelH (w.alloc (.cells cs e (0,0))) I (upd μ b0 w.heap.size) (qe h b0 (.arr t l true))∧
   Fr w (Wr h μ) I (w.alloc (.cells cs e (0,0))) (Wr (qe h b0 (.arr t l true)) (upd μ b0 w.heap.size)) I∧HM h μ (qe h b0 (.arr t l true)) (upd μ b0 w.heap.size):=
 qtp R hb hh hr e cap full (0,0) (.inl rfl) h1 h2 h3
theorem qqd{t:Ty}{z:Value}(hz:RD w I t t.zero z.cells.toList)(n:Nat)(_hsz:1≤t.sz):jh w I t (List.replicate n t.zero) ((Array.range (n*t.sz)).map (z.cells[· %z.cells.size]!)).toList:=by
 have hzs:z.cells.size=t.sz:=by have:=hz.len;simpa using this
 refine⟨by simp,fun k hk=> ?_⟩
 have hk':k<n:=by simpa using hk
 have:(List.replicate n t.zero)[k]=t.zero:=by simp
 rw [this]
 have hrow:k*t.sz+t.sz≤n*t.sz:=by
  have:=Nat.mul_le_mul_right t.sz hk'
  rw [Nat.succ_mul] at this
  exact this
 have:((((Array.range (n*t.sz)).map (z.cells[· %z.cells.size]!)).toList.drop (k*t.sz)).take t.sz)=z.cells.toList:=by
  apply List.ext_getElem?
  intro m
  rw [List.getElem?_take]
  split
  ·rename_i hm
   rw [List.getElem?_drop]
   have hmm:(k*t.sz+m)%z.cells.size=m:=by
    rw [hzs,Nat.mul_comm,Nat.mul_add_mod]
    exact Nat.mod_eq_of_lt hm
   have hmz:m<z.cells.size:=by omega
   simp only [Array.toList_map,List.getElem?_map,Array.toList_range]
   rw [List.getElem?_range (by omega)]
   simp only [Option.map_some,hmm]
   simp [getElem!_pos,hmz]
  ·rename_i hm
   rw [List.getElem?_eq_none]
   simp;omega
 rw [this]
 exact hz
theorem qpa {t : Ty} (hsz : 1 ≤ t.sz) : ∀ (pv : List (Nat × Value)) (pa : List (Nat × AV)) (cs : Array Value) (l out : List t.den),
  pv.length=pa.length→(∀(k:Nat) (x:Nat×Value) (y:Nat×AV),pv[k]? =some x→pa[k]? =some y→x.1=y.1∧(g8 y.2=true→qr w I h μ x.2.cells.toList (y.2.cells.map (qnv g))))→
  jh w I t l cs.toList→l.length*t.sz=cs.size→setRow t g l pa=some out→
  ∃cells,Instr.fill (fun i=>some (i*t.sz,t.sz)) cs pv=some cells∧jh w I t out cells.toList∧out.length=l.length∧cells.size=cs.size
 |[],[],cs,l,out,_,_,hc,_,hf=>by
  cases hf
  exact⟨cs,rfl,hc,rfl,rfl⟩
 | (i, v) :: pv, (j, a) :: pa, cs, l, out, hl, hr, hc, hsize, hf => by
  obtain⟨e1,rv⟩:=hr 0 _ _ rfl rfl
  simp only at e1 rv
  subst e1
  simp only [setRow] at hf
  split at hf
  ·rename_i x hck hx
   simp only [Bool.and_eq_true] at hck
   obtain⟨hpl,hil⟩:=hck
   have hil:i<l.length:=by
    simp only [Nat.blt,Nat.ble_eq] at hil
    omega
   have hrd:=qoc (rv hpl) hx
   have hvs:v.cells.size=t.sz:=by have:=hrd.len;simpa using this
   have hrow:i*t.sz+t.sz≤l.length*t.sz:=by
    have:=Nat.mul_le_mul_right t.sz hil
    rw [Nat.succ_mul] at this
    exact this
   have hfold:(v.cells.zipIdx.foldl (fun(cs:Array Value) (x:Value×Nat)=>cs.setIfInBounds (i*t.sz+x.2) x.1) cs).toList=qm cs.toList (i*t.sz) v.cells.toList:=by
    rw [←Array.foldl_toList,Array.toList_zipIdx,qbh]
    rfl
   have hnew : jh w I t (l.set i x) (qm cs.toList (i * t.sz) v.cells.toList) := by
    refine⟨by simp [qk];omega,fun k hk=> ?_⟩
    have hk':k<l.length:=by simpa using hk
    by_cases hki:k=i
    ·subst hki
     have:(l.set k x)[k]=x:=by simp
     rw [this]
     have heq:((qm cs.toList (k*t.sz) v.cells.toList).drop (k*t.sz)).take t.sz=v.cells.toList:=by
      apply List.ext_getElem?
      intro m
      rw [List.getElem?_take]
      split
      ·rename_i hm
       rw [List.getElem?_drop,jp _ _ _ _ (by simp;omega),if_pos (by simp;omega)]
       congr 1;omega
      ·rw [List.getElem?_eq_none];simp;omega
     rw [heq];exact hrd
    ·have : (l.set i x)[k] = l[k] := by simp [Ne.symm hki]
     rw [this]
     have heq:((qm cs.toList (i*t.sz) v.cells.toList).drop (k*t.sz)).take t.sz=(cs.toList.drop (k*t.sz)).take t.sz:=by
      apply List.ext_getElem?
      intro m
      rw [List.getElem?_take,List.getElem?_take]
      split
      ·rename_i hm
       rw [List.getElem?_drop,List.getElem?_drop,jp _ _ _ _ (by simp;omega),if_neg ?_]
       simp only [Array.length_toList]
       rintro⟨e1,e2⟩
       rcases Nat.lt_or_gt_of_ne hki with hlt'|hgt'
       ·have := Nat.mul_le_mul_right t.sz (Nat.succ_le_of_lt hlt')
        rw [Nat.succ_mul] at this
        omega
       ·have := Nat.mul_le_mul_right t.sz (Nat.succ_le_of_lt hgt')
        rw [Nat.succ_mul] at this
        omega
      ·rfl
     rw [heq];exact hc.2 k hk'
   obtain⟨cells,g1,g2,g3,g4⟩:=qpa hsz pv pa (v.cells.zipIdx.foldl (fun(cs:Array Value) (x:Value×Nat)=>cs.setIfInBounds (i*t.sz+x.2) x.1) cs) (l.set i x) out (by simpa using hl)
    (fun k x y h1 h2=>hr (k+1) x y (by simpa using h1) (by simpa using h2)) (by rw [hfold];exact hnew)
    (by rw [←Array.length_toList,hfold,qk];simpa using hsize) hf
   have hcsz:(v.cells.zipIdx.foldl (fun(cs:Array Value) (x:Value×Nat)=>cs.setIfInBounds (i*t.sz+x.2) x.1) cs).size=cs.size:=by
    rw [←Array.length_toList,hfold,qk];simp
   refine⟨cells, ?_,g2,by simpa using g3,g4.trans hcsz⟩
   simp only [Instr.fill]
   rw [if_neg (by simp only [Bool.or_eq_true,decide_eq_true_eq,ne_eq];simp [hvs];omega)]
   exact g1
  ·cases hf
 |[],_::_,_,_,_,hl,_,_,_,_=>by simp at hl
 |_::_,[],_,_,_,hl,_,_,_,_=>by simp at hl
theorem vd: ∀(vs:List AV) (v:AV),v∈vs→∀b,b∈jv v.cells→b∈qt vs
 |[],_,hm,_,_=>by simp at hm
 |u::vs,v,hm,b,hb=>by
  rcases List.mem_cons.1 hm with e|e
  ·subst e;simp [qt,hb]
  ·simp [qt,vd vs v e b hb]
theorem qg0: ∀(ps:List (Nat×Operand)) (vs:List AV) (y:Nat×AV),y∈jz ps vs→y.2∈vs
 |[],_,y,hm=>by simp [jz] at hm
 |_::_,[],y,hm=>by simp [jz] at hm
 |(i,o)::ps,v::vs,y,hm=>by
  simp only [jz,List.mem_cons] at hm
  rcases hm with e|e
  ·subst e;simp
  ·exact List.mem_cons_of_mem _ (qg0 ps vs y e)
theorem qi3{t:TypeId}{n:Nat}{ps:Array (Nat×Operand)}{P:Program}{v:Value}(hr:(Instr.buildSlice t n (ps.map fun(i,x)=>(i,ρ x))).run P w= .ok v w'):
  (execOp ρ ⟨dst,.buildSlice t n ps,ty,pos,aft,gd⟩).run P w= .ok (.value v) w':=by
 have:execOp ρ ⟨dst,.buildSlice t n ps,ty,pos,aft,gd⟩=(do pure (Next.value (←Instr.buildSlice t n (ps.map fun(i,x)=>(i,ρ x))))):=rfl
 rw [this]
 exact jk hr
theorem qnt(hE:EnvOK E)(R:RelH w I μ h)(G:GOK g h)(hb:b0≤h.length)(hh:h[b0]? =none∨h[b0]? =some .hole){t:TypeId}{n:Nat}{ps:Array (Nat×Operand)}{vs:List AV}
  (hv:kw w I h μ ρ (q8 E ⟨dst,.buildSlice t n ps,ty,pos,aft,gd⟩) vs)
  (hf:qj E ⟨dst,.buildSlice t n ps,ty,pos,aft,gd⟩ vs g b0=some fr):kj E ⟨dst,.buildSlice t n ps,ty,pos,aft,gd⟩ ρ w I h μ fr:=by
 obtain⟨hl,hr⟩:=qeh (f:=fun i=>qje (E.ti t).ud i) ps.toList vs hv
 have hps:(ps.map fun(i,x)=>(i,ρ x)).toList=ps.toList.map fun(i,x)=>(i,ρ x):=by simp
 simp only [qj] at hf
 split at hf
 ·rename_i u hty
  split at hf
  ·rename_i l hl'
   obtain⟨hck,hf⟩:=ql hf
   cases hf
   simp only [Bool.and_eq_true,Nat.ble_eq,Bool.not_eq_true'] at hck
   obtain⟨⟨hnot,hsz1⟩,hsmall⟩:=hck
   obtain⟨e,hud,hte⟩:=hE.sl t u hty
   have hu:=hE.und t (j7 (by rw [hud];rfl))
   rw [hud] at hu
   have hu':E.P.underlying t=some (.slice e):=hu
   obtain⟨hes,hek,ie',z,hie',hz,hzr⟩:=hE.ty e u hte
   obtain⟨ie,hie,his,_⟩:=hE.info e hek
   rw [hie] at hie';injection hie' with hie';subst hie'
   obtain⟨I1,R1,F1,M1,_,hfz,hoth⟩:=g6 (qt vs) I h R G.f
   have hnot':b0∉qt vs:=by simpa using hnot
   have hb1:b0≤(qg h (frz g (qt vs))).length:=by
    rcases Nat.lt_or_ge b0 h.length with hlt|hge
    ·rcases hh with hh | hh
     ·rw [List.getElem?_eq_getElem hlt] at hh;cases hh
     ·have := (hoth b0 hnot').trans hh
      have:=(List.getElem?_eq_some_iff.1 this).1
      omega
    ·refine Nat.le_of_not_lt fun hlt => ?_
     have hb0:b0=h.length:=by omega
     cases hq:h.length with
     |zero=>omega
     |succ m=>
      have hm:h[m]? =some h[m]:=List.getElem?_eq_getElem (by omega)
      obtain⟨y,hy,_⟩:=M1.kept m _ hm
      have:=(List.getElem?_eq_some_iff.1 hy).1
      omega
   have hh1:(qg h (frz g (qt vs)))[b0]? =none∨(qg h (frz g (qt vs)))[b0]? =some .hole:=by
    rw [hoth b0 hnot'];exact hh
   have hparts: ∀(k:Nat) (x:Nat×Value) (y:Nat×AV),((ps.map fun(i,x)=>(i,ρ x)).toList)[k]? =some x→(jz ps.toList vs)[k]? =some y→
     x.1=y.1∧(g8 y.2=true→qr w I1 (qg h (frz g (qt vs))) μ x.2.cells.toList (y.2.cells.map (qnv g))):=by
    intro k x y e1 e2
    rw [hps] at e1
    obtain⟨h1,h2⟩:=hr k x y e1 e2
    refine⟨h1,fun hpl=> ?_⟩
    have hcr:=wy (h2.step R F1 M1) hpl
    refine⟨by simpa using hcr.1,fun k' u' c e3 e4=> ?_⟩
    rw [List.getElem?_map] at e4
    cases hq:y.2.cells[k']? with
    |none=>rw [hq] at e4;cases e4
    |some c0=>
     rw [hq] at e4
     simp at e4
     subst e4
     refine qjm R1 (hcr.2 k' u' c0 e3 hq) fun t3 b3 full e5 t' l' fr' e6=>hfz b3 ?_ t' l' fr' e6
     subst e5
     exact vd vs y.2 (qg0 _ _ _ (List.mem_of_getElem? e2)) b3 (qab _ _ _ _ (List.mem_of_getElem? hq))
   obtain⟨cells,g1,g2,g3,g4⟩:=qpa hsz1 _ _ ((Array.range (n*u.sz)).map (z.cells[· %z.cells.size]!)) _ l (by rw [hps,hl];simp) hparts (qqd (hzr w I1) n hsz1) (by simp) hl'
   have hln:l.length=n:=by simpa using g3
   have hcn:cells.size=n*u.sz:=by simpa using g4
   have hisz:ie.size=u.sz:=his.trans hes
   obtain⟨r1,r2,r3,r4⟩:=qrd R1 hb1 hh1 g2 e n true (by omega) (fun _=>hln.symm) (by omega)
   rw [hln] at r1
   have hrun:(Instr.buildSlice t n (ps.map fun(i,x)=>(i,ρ x))).run E.P w= .ok (.slice (some ⟨w.heap.size,0,none⟩) n n) (w.alloc (.cells cells e (0,0))):=by
    by_cases hn:n=0
    ·subst hn
     have hfill:Instr.fill (fun i=>some (i*ie.size,ie.size)) #[] (ps.map fun(i,x)=>(i,ρ x)).toList=some cells:=by
      rw [hisz];simpa [Array.range_zero'] using g1
     simp [Instr.buildSlice,run_underlying hu',sizeOf,typeInfo,hie,newRow,Array.range_zero'] at hfill ⊢
     rw [hfill];rfl
    ·refine run_buildSlice w t e n _ cells ie z hu' hie hz (by rw [hisz]; omega) ?_ (by rw [hisz]; exact g1)
     rw [hisz]
     have:=Nat.mul_pos (Nat.pos_of_ne_zero hn) hsz1
     omega
   have hrun':(execOp ρ ⟨dst,.buildSlice t n ps,ty,pos,aft,gd⟩).run E.P w= .ok (.value (.slice (some ⟨w.heap.size,0,none⟩) n n)) (w.alloc (.cells cells e (0,0))):=
    qi3 hrun
   refine⟨_,_,_,I1,upd μ b0 w.heap.size,hrun',.inl rfl, ?_, ?_, ?_, ?_⟩
   ·simp only [vq,qg];exact r1
   ·simp only [vq,qg];exact r2
   ·simp only [vq,qg];exact F1.trans r3
   ·simp only [vq,qg];exact M1.trans r4
  ·cases hf
 ·cases hf
theorem qrw(hE:EnvOK E)(R:RelH w I μ h)(hb:b0≤h.length)(hh:h[b0]? =none∨h[b0]? =some .hole){t:TypeId}{x y:Operand}{vs:List AV}
  (hv:kw w I h μ ρ (q8 E ⟨dst,.makeSlice t x y,ty,pos,aft,gd⟩) vs)
  (hf:qj E ⟨dst,.makeSlice t x y,ty,pos,aft,gd⟩ vs g b0=some fr) (hc: ∀c∈fr.cs,c.p):kj E ⟨dst,.makeSlice t x y,ty,pos,aft,gd⟩ ρ w I h μ fr:=by
 match vs,hv with
 | [a, b], hv =>
  cases a <;>try (simp [qj] at hf;done)
  rename_i k1 n
  cases b <;>try (simp [qj] at hf;done)
  rename_i k2 m
  obtain⟨hx,hy,_⟩:=hv
  simp only [qj] at hf
  split at hf
  ·rename_i u e hty hud
   obtain⟨hck,hf⟩:=ql hf
   cases hf
   have hsz1:1≤u.sz:=by simpa using hck
   have e1:n=m:=hc ⟨_,inferInstance⟩ (by simp)
   have h0:0≤n:=hc ⟨_,inferInstance⟩ (by simp)
   have hsum:n.toNat*(E.ti e).bytes≤140737488355328∧n.toNat≤140737488355328:=hc (qq n.toNat (E.ti e).bytes) (by simp)
   subst e1
   obtain⟨e',hud',hte⟩:=hE.sl t u hty
   rw [hud] at hud';cases hud'
   have hu:=hE.und t (j7 (by rw [hud];rfl))
   rw [hud] at hu
   have hu':E.P.underlying t=some (.slice e):=hu
   obtain⟨hes,hek,ie',z,hie',hz,hzr⟩:=hE.ty e u hte
   obtain⟨ie,hie,his,hib⟩:=hE.info e hek
   rw [hie] at hie';injection hie' with hie';subst hie'
   have hisz:ie.size=u.sz:=his.trans hes
   obtain⟨N,rfl⟩: ∃N:Nat,n=(N:Int):=⟨n.toNat,by omega⟩
   simp only [Int.toNat_natCast] at hsum
   have hrows:=qqd (hzr w I) N hsz1
   obtain⟨r1,r2,r3,r4⟩:=qrd R hb hh hrows e N true (by simp) (fun _=>by simp) (by simp)
   have hwrap:IntKind.i64.wrap (N:Int)=(N:Int):=by
    simp [IntKind.wrap,IntKind.bits,IntKind.signed]
    omega
   have hzv:(zeroValue e).run E.P w= .ok z w:=by simp [zeroValue,typeInfo,hie,hz]
   have hbig: ¬((2:Int)^48<(ie.bytes:Int)*(N:Int)):=by
    have:ie.bytes*N≤140737488355328:=by rw [hib,Nat.mul_comm];exact hsum.1
    have:((ie.bytes*N:Nat):Int)≤140737488355328:=by omega
    rw [Int.natCast_mul] at this
    omega
   have hrun:(Instr.makeSlice t (.int k1 N) (.int k2 N)).run E.P w= .ok (.slice (some ⟨w.heap.size,0,none⟩) N N) (w.alloc (.cells ((Array.range (N*u.sz)).map (z.cells[· %z.cells.size]!)) e (0,0))):=by
    unfold Instr.makeSlice
    simp only [Sem.run_bind,run_underlying hu',Result.andThen_ok,asInt,asIntOf,Sem.run_pure,typeInfo,run_program,hie,hwrap]
    rw [if_neg (by simp only [Bool.or_eq_true,decide_eq_true_eq,gt_iff_lt];omega)]
    simp only [Sem.run_bind,Sem.run_pure,Result.andThen_ok,run_askRoom,sizeOf,typeInfo,run_program,hie,hisz,Int.toNat_natCast]
    by_cases hN:N*u.sz=0
    ·rw [if_pos hN]
     simp only [Sem.run_pure,Result.andThen_ok,hN,Array.range_zero',newRow,Sem.run_bind,run_newObj,Array.map_empty]
     rfl
    ·rw [if_neg hN]
     simp only [Sem.run_bind,hzv,Sem.run_pure,Result.andThen_ok,newRow,run_newObj]
     rfl
   rw [List.length_replicate] at r1
   have hrun':(execOp ρ ⟨dst,.makeSlice t x y,ty,pos,aft,gd⟩).run E.P w= .ok (.value (.slice (some ⟨w.heap.size,0,none⟩) N N)) (w.alloc (.cells ((Array.range (N*u.sz)).map (z.cells[· %z.cells.size]!)) e (0,0))):=
    jk (s:=Instr.makeSlice t (ρ x) (ρ y)) (by rw [jg hx,jg hy];exact hrun)
   exact⟨_,_,_,I,upd μ b0 w.heap.size,hrun',.inl rfl,r1,r2,r3,r4⟩
  ·cases hf
 |[],hv=>exact hv.elim
 |[_],hv=>exact hv.2.elim
 |_::_::_::_,hv=>exact hv.2.2.elim
end
end Go.AM
namespace Go.AM
set_option linter.unusedSectionVars false
variable [Lay]
def gg(μ:Nat→Option Nat)(b:Nat)(o:Option Nat):Nat→Option Nat:=fun i=>if i=b then o else μ i
theorem ki(μ:Nat→Option Nat)(b:Nat)(o:Option Nat):gg μ b o b=o:=by simp [gg]
theorem vf(μ:Nat→Option Nat){b i:Nat}(o:Option Nat)(h:i≠b):gg μ b o i=μ i:=by simp [gg,h]
section
variable {E:Env} {w w':World} {I I':Nat→Nat→Prop} {h h':qa} {μ μ':Nat→Option Nat} {ρ:Operand→Value} {g:Nat→AB} {b0:Nat} {fr:FR}
variable {dst:Option Tmp} {ty:TypeId} {pos:String} {aft:Array Edge} {gd:Option (Nat×Bool)}
theorem RelH.adopt(R:RelH w I μ h){b:Nat}{t:Ty}{l:List t.den}{frz:Bool}(hbb:h[b]? =some (.arr t l frz))(hb:b0≤h.length)(hh:h[b0]? =none∨h[b0]? =some .hole){l':List t.den}(oq:Option Nat)
  (hq : ∀ q, oq = some q → μ b = some q ∧ ∃ us us' e, (∃ fz : Nat × Nat, (fz = (0, 0) ∨ t = .int .u8 ∧ us.size ≤ fz.1) ∧ w.heap[q]? = some (.cells us e fz) ∧ w'.heap[q]? = some (.cells us' e fz)) ∧ us'.size = us.size ∧ (∀ k, k ≠ q → w'.heap[k]? = w.heap[k]?) ∧
   (∀o,frz=false→o<l.length*t.sz→us'[o]? =us[o]?)∧
   (∀I',(∀(t:Ty) (d:t.den) (cs:List Value),RD w I t d cs→RD w' I' t d cs)→jh w' I' t l' us'.toList))
  (hnone:oq=none→w'=w∧l'=[]) (hle:frz=false→l.length≤l'.length)
  (hos:w'.os=w.os) (htp:w'.tape=w.tape) (hout:w'.output=w.output) (hsize:w'.heap.size=w.heap.size):
  ∃I',RelH w' I' (gg μ b0 oq) (qe (qe h b .gone) b0 (.arr t l' frz))∧Fr w (Wr h μ) I w' (Wr (qe (qe h b .gone) b0 (.arr t l' frz)) (gg μ b0 oq)) I'∧
   HM h μ (qe (qe h b .gone) b0 (.arr t l' frz)) (gg μ b0 oq):=by
 have hblt:b<h.length:=(List.getElem?_eq_some_iff.1 hbb).1
 have hbne:b≠b0:=by
  rintro rfl
  rcases hh with hh|hh <;>rw [hbb] at hh <;>cases hh
 have hb1:b0≤(qe h b .gone).length:=Nat.le_trans hb (uh _ h b (by omega))
 have qd: ∀i:Nat,(qe (qe h b .gone) b0 (.arr t l' frz))[i]? =if i=b0 then some (.arr t l' frz) else if i=b then some .gone else h[i]? :=by
  intro i
  rw [qi _ _ b0 i hb1,qi _ h b i (by omega)]
 let I':Nat→Nat→Prop:=fun q o=>I q o∨(frz=false∧oq=some q∧o<l'.length*t.sz)
 have hlz:frz=false→l.length*t.sz≤l'.length*t.sz:=fun h=>Nat.mul_le_mul_right _ (hle h)
 have hWb: ∀q o,μ b=some q→(frz=true∨l.length*t.sz≤o)→Wr h μ q o:=by
  intro q o hm hc
  refine⟨b,hm, ?_⟩
  cases frz with
  |true=>exact .inr (.inl ⟨t,l,hbb⟩)
  |false=>exact .inr (.inr (.inl ⟨t,l,hbb,hc.resolve_left (by simp)⟩))
 have hWr: ∀q o,Wr (qe (qe h b .gone) b0 (.arr t l' frz)) (gg μ b0 oq) q o→Wr h μ q o:=by
  rintro q o ⟨i,hi,hx⟩
  rw [qd] at hx
  by_cases hi0:i=b0
  ·subst hi0
   rw [if_pos rfl] at hx
   rw [ki] at hi
   obtain⟨hm,_⟩:=hq q hi
   refine hWb q o hm ?_
   rcases hx with⟨cs,hx⟩|⟨t2,l2,hx⟩|⟨t2,l2,hx,ho⟩|⟨_,_,_,hx⟩
   ·cases hx
   ·cases hx;exact .inl rfl
   ·cases hx;exact .inr (by have:=hlz rfl;omega)
   ·cases hx
  ·rw [if_neg hi0] at hx
   rw [vf _ _ hi0] at hi
   by_cases hib:i=b
   ·rw [if_pos hib] at hx
    rcases hx with⟨cs,hx⟩|⟨t2,l2,hx⟩|⟨t2,l2,hx,ho⟩|⟨_,_,_,hx⟩ <;>cases hx
   ·rw [if_neg hib] at hx
    exact⟨i,hi,hx⟩
 have hheap: ∀k,(∀q,oq=some q→k≠q)→w'.heap[k]? =w.heap[k]? :=by
  intro k hk
  cases hoq:oq with
  |none=>rw [(hnone hoq).1]
  |some q=>
   obtain⟨_,us,us',e,_,_,h4,_⟩:=hq q hoq
   exact h4 k (hk q hoq)
 have F : Fr w (Wr h μ) I w' (Wr (qe (qe h b .gone) b0 (.arr t l' frz)) (gg μ b0 oq)) I' := by
  refine⟨hos,htp,hout,by omega,fun k hk hn=> ?_,fun k vk ek fz hk hvk=> ?_,fun k _ hh x hx=> ?_,fun q o hw=> .inl (hWr q o hw),fun _ _ h=> .inl h, ?_⟩
  ·refine hheap k fun q hoq => ?_
   rintro rfl
   obtain⟨hm,_⟩:=hq k hoq
   exact hn (l.length*t.sz) (hWb k _ hm (.inr (Nat.le_refl _)))
  ·cases hoq : oq with
   |none=>rw [(hnone hoq).1];exact⟨vk,hvk,rfl,fun _ _=>rfl⟩
   | some q =>
    obtain⟨hm,us,us',e,⟨fz0,hz0,h1,h2⟩,h3,h4,h5,_⟩:=hq q hoq
    by_cases hkq:k=q
    ·subst hkq
     rw [h1] at hvk
     injection hvk with hvk
     injection hvk with e1 e2 e3
     subst e1;subst e2;subst e3
     refine⟨us',h2,h3,fun o ho=> ?_⟩
     cases hf:frz with
     |true=>exact absurd (hWb k o hm (.inl hf)) ho
     |false=>exact h5 o hf (Nat.lt_of_not_le fun hle'=>ho (hWb k o hm (.inr hle')))
    ·exact⟨vk,(h4 k hkq).trans hvk,rfl,fun _ _=>rfl⟩
  ·cases hoq : oq with
   |none=>rw [(hnone hoq).1] at hx;exact hh x hx
   |some q=>
    obtain⟨hm,us,us',e,⟨fz0,hz0,h1,h2⟩,h3,h4,h5,_⟩:=hq q hoq
    by_cases hkq:k=q
    ·subst hkq;rw [h2] at hx;cases hx;exact(show NF (.cells us e fz0) from hh _ h1)
    ·rw [h4 k hkq] at hx;exact hh x hx
  ·rintro q o (hi | ⟨hf, hoq, ho⟩)
   ·exact .inl hi
   ·obtain ⟨hm, _⟩ := hq q hoq
    by_cases hlt:o<l.length*t.sz
    ·rcases R.blk b _ hbb with hnil | ⟨q', us, e, g1, g2, g3, g4, g5⟩
     ·subst hnil;simp at hlt
     ·rw [hm] at g1; injection g1 with g1; subst g1
      exact .inl (g5 hf o hlt)
    ·exact .inr (.inl (hWb q o hm (.inr (by omega))))
 have M:HM h μ (qe (qe h b .gone) b0 (.arr t l' frz)) (gg μ b0 oq):=by
  refine⟨fun i x hx=> ?_,fun i x y hx hy lx ly=> ?_⟩
  ·rw [qd]
   by_cases hi0:i=b0
   ·subst hi0
    rw [if_pos rfl]
    refine⟨_,rfl, ?_⟩
    rcases hh with hh|hh
    ·rw [hh] at hx;cases hx
    ·rw [hh] at hx;cases hx;trivial
   ·rw [if_neg hi0]
    by_cases hib:i=b
    ·subst hib
     rw [hbb] at hx;cases hx
     rw [if_pos rfl]
     exact⟨_,rfl,.inl rfl⟩
    ·rw [if_neg hib]
     obtain⟨y,hy,k⟩:=(HM.refl h μ).kept i x hx
     rw [hx] at hy;cases hy
     exact⟨x,hx,k⟩
  ·by_cases hi0 : i = b0
   ·subst hi0
    rcases hh with hh|hh
    ·rw [hh] at hx;cases hx
    ·rw [hh] at hx;cases hx;exact lx.elim
   ·exact vf _ _ hi0
 have hold: ∀(i:Nat) (x:AB),(qe (qe h b .gone) b0 (.arr t l' frz))[i]? =some x→j8 x→i≠b0→h[i]? =some x∧i≠b:=by
  intro i x hx lx hi0
  rw [qd,if_neg hi0] at hx
  by_cases hib:i=b
  ·rw [if_pos hib] at hx;cases hx;exact lx.elim
  ·rw [if_neg hib] at hx;exact⟨hx,hib⟩
 refine⟨I',⟨?_, ?_, ?_, ?_, ?_,R.laid.step R.disj R.ilt F⟩,F,M⟩
 ·intro i j x y q hi hj lx ly gi gj
  by_cases hi0:i=b0 <;>by_cases hj0:j=b0
  ·rw [hi0,hj0]
  ·subst hi0
   obtain⟨hj',hjb⟩:=hold j y hj ly hj0
   rw [ki] at gi
   rw [vf _ _ hj0] at gj
   obtain⟨hm,_⟩:=hq q gi
   exact absurd (R.inj j b y _ q hj' hbb ly trivial gj hm) hjb
  ·subst hj0
   obtain⟨hi',hib⟩:=hold i x hi lx hi0
   rw [ki] at gj
   rw [vf _ _ hi0] at gi
   obtain⟨hm,_⟩:=hq q gj
   exact absurd (R.inj i b x _ q hi' hbb lx trivial gi hm) hib
  ·obtain ⟨hi', _⟩ := hold i x hi lx hi0
   obtain⟨hj',_⟩:=hold j y hj ly hj0
   rw [vf _ _ hi0] at gi
   rw [vf _ _ hj0] at gj
   exact R.inj i j x y q hi' hj' lx ly gi gj
 ·intro i x q hi lx gi
  rw [hsize]
  by_cases hi0:i=b0
  ·subst hi0
   rw [ki] at gi
   obtain⟨hm,_⟩:=hq q gi
   exact R.lt b _ q hbb trivial hm
  ·obtain ⟨hi', _⟩ := hold i x hi lx hi0
   rw [vf _ _ hi0] at gi
   exact R.lt i x q hi' lx gi
 ·intro i x hi
  by_cases hi0:i=b0
  ·subst hi0
   rw [qd,if_pos rfl] at hi
   cases hi
   cases hoq:oq with
   |none=>exact .inl (hnone hoq).2
   |some q=>
    obtain⟨hm,us,us',e,⟨fz0,hz0,h1,h2⟩,h3,h4,h5,h6⟩:=hq q hoq
    obtain⟨r1,r2⟩:=h6 I' (fun t d cs r=>r.mono (R.cell F) (fun _ _ h=> .inl h))
    exact .inr ⟨q,us',e,by rw [ki],⟨fz0,h2,by rw [h3];exact hz0⟩,by simpa using r1,r2,fun hf o ho=> .inr ⟨hf,hoq,ho⟩⟩
  ·by_cases lx : j8 x
   ·obtain ⟨hi', hib⟩ := hold i x hi lx hi0
    refine zm.mono M F.shape (R.keptI F) F.im (fun _=>vf _ _ hi0) (fun q hq'=>hheap q fun q2 hoq=> ?_) (R.blk i x hi')
    rintro rfl
    obtain⟨hm,_⟩:=hq q hoq
    exact hib (R.inj i b x _ q hi' hbb lx trivial hq' hm)
   ·cases x with
    |hole=>trivial
    |gone=>trivial
    |var=>exact absurd trivial lx
    |arr=>exact absurd trivial lx
    |mp=>exact absurd trivial lx
 ·rintro q o (hi | ⟨hf, hoq, ho⟩) hw
  ·exact R.disj q o hi (hWr q o hw)
  ·obtain ⟨i, hi, hx⟩ := hw
   rw [qd] at hx
   by_cases hi0:i=b0
   ·subst hi0
    rw [if_pos rfl] at hx
    rcases hx with⟨cs,hx⟩|⟨t2,l2,hx⟩|⟨t2,l2,hx,ho'⟩|⟨_,_,_,hx⟩
    ·cases hx
    ·cases hx;cases hf
    ·cases hx;omega
    ·cases hx
   ·rw [if_neg hi0] at hx
    rw [vf _ _ hi0] at hi
    by_cases hib:i=b
    ·rw [if_pos hib] at hx
     rcases hx with⟨cs,hx⟩|⟨t2,l2,hx⟩|⟨t2,l2,hx,ho'⟩|⟨_,_,_,hx⟩ <;>cases hx
    ·rw [if_neg hib] at hx
     obtain⟨hm,_⟩:=hq q hoq
     have: ∃y,h[i]? =some y∧j8 y:=by
      rcases hx with⟨cs,hx⟩|⟨t',l',hx⟩|⟨t',l',hx,_⟩|⟨_,_,_,hx⟩
      ·exact⟨_,hx,trivial⟩
      ·exact⟨_,hx,trivial⟩
      ·exact⟨_,hx,trivial⟩
      ·exact⟨_,hx,trivial⟩
     obtain⟨y,hy,ly⟩:=this
     exact hib (R.inj i b y _ q hy hbb ly trivial hi hm)
 ·rintro q o (hi | ⟨_, hoq, _⟩)
  ·rw [hsize];exact R.ilt q o hi
  ·rw [hsize]
   obtain⟨hm,_⟩:=hq q hoq
   exact R.lt b _ q hbb trivial hm
theorem RelH.drop(R:RelH w I μ h){b:Nat}{t:Ty}{l:List t.den}{frz:Bool}(hbb:h[b]? =some (.arr t l frz)):
  RelH w I μ (qe h b .gone)∧Fr w (Wr h μ) I w (Wr (qe h b .gone) μ) I∧HM h μ (qe h b .gone) μ:=by
 have hblt:b<h.length:=(List.getElem?_eq_some_iff.1 hbb).1
 have qd: ∀i:Nat,(qe h b .gone)[i]? =if i=b then some .gone else h[i]? :=fun i=>qi _ h b i (by omega)
 have hold: ∀(i:Nat) (x:AB),(qe h b .gone)[i]? =some x→j8 x→h[i]? =some x:=by
  intro i x hx lx
  rw [qd] at hx
  by_cases hib:i=b
  ·rw [if_pos hib] at hx;cases hx;exact lx.elim
  ·rw [if_neg hib] at hx;exact hx
 have hWr: ∀q o,Wr (qe h b .gone) μ q o→Wr h μ q o:=by
  rintro q o ⟨i,hi,hx⟩
  rw [qd] at hx
  by_cases hib:i=b
  ·rw [if_pos hib] at hx
   rcases hx with⟨cs,hx⟩|⟨t2,l2,hx⟩|⟨t2,l2,hx,ho⟩|⟨_,_,_,hx⟩ <;>cases hx
  ·rw [if_neg hib] at hx
   exact⟨i,hi,hx⟩
 have F:Fr w (Wr h μ) I w (Wr (qe h b .gone) μ) I:=
  ⟨rfl,rfl,rfl,Nat.le_refl _,fun _ _ _=>rfl,fun g vs e fz _ hv=>⟨vs,hv,rfl,fun _ _=>rfl⟩,fun _ _ hh=>hh,fun q o hw=> .inl (hWr q o hw),fun _ _ h=>h,fun _ _ h=> .inl h⟩
 have M:HM h μ (qe h b .gone) μ:=by
  refine⟨fun i x hx=> ?_,fun _ _ _ _ _ _ _=>rfl⟩
  rw [qd]
  by_cases hib:i=b
  ·subst hib
   rw [hbb] at hx;cases hx
   rw [if_pos rfl]
   exact⟨_,rfl,.inl rfl⟩
  ·rw [if_neg hib]
   obtain⟨y,hy,k⟩:=(HM.refl h μ).kept i x hx
   rw [hx] at hy;cases hy
   exact⟨x,hx,k⟩
 refine⟨⟨?_, ?_, ?_, ?_,R.ilt,R.laid.step R.disj R.ilt F⟩,F,M⟩
 ·intro i j x y q hi hj lx ly gi gj
  exact R.inj i j x y q (hold i x hi lx) (hold j y hj ly) lx ly gi gj
 ·intro i x q hi lx gi
  exact R.lt i x q (hold i x hi lx) lx gi
 ·intro i x hi
  by_cases lx:j8 x
  ·exact zm.mono M F.shape (R.keptI F) F.im (fun _=>rfl) (fun _ _=>rfl) (R.blk i x (hold i x hi lx))
  ·cases x with
   |hole=>trivial
   |gone=>trivial
   |var=>exact absurd trivial lx
   |arr=>exact absurd trivial lx
   |mp=>exact absurd trivial lx
 ·intro q o hi hw
  exact R.disj q o hi (hWr q o hw)
theorem RelH.drew(R:RelH w I μ h):RelH w.drew I μ h∧Fr w (Wr h μ) I w.drew (Wr h μ) I:=by
 have F:Fr w (Wr h μ) I w.drew (Wr h μ) I:=
  ⟨rfl,rfl,rfl,Nat.le_refl _,fun _ _ _=>rfl,fun g vs e fz _ hv=>⟨vs,hv,rfl,fun _ _=>rfl⟩,fun _ _ hh=>hh,fun q o hw=> .inl hw,fun _ _ h=>h,fun _ _ h=> .inl h⟩
 exact⟨⟨R.inj,R.lt,fun i x hi=>zm.mono (HM.refl h μ) F.shape (R.keptI F) F.im (fun _=>rfl) (fun _ _=>rfl) (R.blk i x hi),R.disj,R.ilt,R.laid.step R.disj R.ilt F⟩,F⟩
end
end Go.AM
namespace Go.AM
set_option linter.unusedSectionVars false
variable [Lay]
section
variable {E:Env} {w w':World} {I I':Nat→Nat→Prop} {h h':qa} {μ μ':Nat→Option Nat} {ρ:Operand→Value} {g:Nat→AB} {b0:Nat} {fr:FR}
variable {dst:Option Tmp} {ty:TypeId} {pos:String} {aft:Array Edge} {gd:Option (Nat×Bool)}
def qds(P:Program)(w:World)(sz n:Nat)(v:Value)(cs:List Value):Prop:=
 cs.length=n*sz∧∀w1:World,w1.heap=w.heap→(Builtin.firstCells sz n v).run P w1= .ok cs.toArray w1
theorem qob{w w1:World}(hh:w1.heap=w.heap)(a:Addr):w1.cell? a=w.cell? a:=by unfold World.cell?;rw [hh]
theorem qc8 {P : Program} (R : RelH w I μ h) (G : GOK g h) {t : Ty} {v : Value} {y : AV} {ys : List t.den} (r : Rep w I h μ v y) (hy : gt g t y = some ys) :
  ∃a c news,v= .slice a ys.length c∧ys.length≤c∧qds P w t.sz ys.length v news∧jh w I t ys news∧(∀u∈news,u.oneCell'=true):=by
 have empty: ∀(a:Option Addr) (c:Nat),qds P w t.sz 0 (.slice a 0 c) []:=by
  intro a c
  refine⟨by simp,fun w1 _=> ?_⟩
  cases a with
  |none=>exact run_firstCells_none w1 _ _ _ _
  |some a=>exact run_firstCells_some w1 _ _ a _ _ [] (by simp) (fun j u hj=>by simp at hj)
 cases r with
 |nilsl=>
  cases hy
  exact⟨none,0,[],rfl,Nat.le_refl _,empty _ _,⟨by simp,fun k hk=>by simp at hk⟩,fun u hu=>by simp at hu⟩
 | sl t' l full a n cap hr hf =>
  simp only [gt] at hy
  split at hy
  ·rename_i e
   subst e
   cases hy
   cases hr with
   | sl _ _ _ _ cs hcap hel hat =>
    by_cases h0:l.length=0
    ·obtain rfl := List.eq_nil_of_length_eq_zero h0
     exact⟨a,cap,[],rfl,hcap,empty _ _,⟨by simp,fun k hk=>by simp at hk⟩,fun u hu=>by simp at hu⟩
    ·obtain ⟨q, o, rfl, hc⟩ := hat (by omega)
     -- all cells, one element's behind the other's
     let news:List Value:=(List.range (l.length*t'.sz)).map fun j=>(cs (j / t'.sz)).getD (j%t'.sz) undef
     have hlen: ∀i,i<l.length→(cs i).length=t'.sz:=fun i hi=>(hel i hi).len
     have qd: ∀j,j<l.length*t'.sz→∃u,(cs (j / t'.sz))[j%t'.sz]? =some u∧news[j]? =some u∧j / t'.sz<l.length:=by
      intro j hj
      have hpos:0<t'.sz:=by
       rcases Nat.eq_zero_or_pos t'.sz with e|e
       ·rw [e] at hj;simp at hj
       ·exact e
      have h1:j / t'.sz<l.length:=Nat.div_lt_of_lt_mul (by rw [Nat.mul_comm];exact hj)
      have h2:j%t'.sz<t'.sz:=Nat.mod_lt _ hpos
      have h3:j%t'.sz<(cs (j / t'.sz)).length:=by rw [hlen _ h1];exact h2
      refine⟨(cs (j / t'.sz))[j%t'.sz],List.getElem?_eq_getElem h3, ?_,h1⟩
      simp only [news,List.getElem?_map,List.getElem?_range hj,Option.map_some,List.getD_eq_getElem?_getD,List.getElem?_eq_getElem h3,Option.getD_some]
     have hnl:news.length=l.length*t'.sz:=by simp [news]
     have hcell: ∀j u,news[j]? =some u→w.cell? ((⟨q,o,none⟩:Addr).add j)=some u:=by
      intro j u hj
      have hlt:j<l.length*t'.sz:=by
       have:=(List.getElem?_eq_some_iff.1 hj).1
       omega
      obtain⟨u',e1,e2,e3⟩:=qd j hlt
      rw [hj] at e2;cases e2
      have:=(hc (j / t'.sz) e3 (j%t'.sz) u e1).1
      rw [Nat.div_add_mod'] at this
      rwa [Addr.add_lit]
     refine⟨some ⟨q,o,none⟩,cap,news,rfl,hcap,⟨hnl,fun w1 hw1=>run_firstCells_some w1 _ _ _ _ _ news hnl fun j u hj=>(qob hw1 _).trans (hcell j u hj)⟩,⟨Nat.le_of_eq hnl.symm,fun k hk=> ?_⟩, ?_⟩
     ·have : (news.drop (k * t'.sz)).take t'.sz = cs k := by
       apply List.ext_getElem?
       intro m
       rw [List.getElem?_take]
       split
       ·rename_i hm
        rw [List.getElem?_drop]
        have hrow:k*t'.sz+t'.sz≤l.length*t'.sz:=by
         have:=Nat.mul_le_mul_right t'.sz hk
         rw [Nat.succ_mul] at this
         exact this
        obtain⟨u',e1,e2,e3⟩:=qd (k*t'.sz+m) (by omega)
        rw [e2,←e1]
        have h1:(k*t'.sz+m) / t'.sz=k:=by
         rw [Nat.mul_comm,Nat.mul_add_div (by omega)]
         rw [Nat.div_eq_of_lt hm];omega
        have h2:(k*t'.sz+m)%t'.sz=m:=by
         rw [Nat.mul_comm,Nat.mul_add_mod]
         exact Nat.mod_eq_of_lt hm
        rw [h1,h2]
       ·rw [List.getElem?_eq_none]
        rw [hlen k hk];omega
      rw [this]
      exact hel k hk
     ·intro u hu
      obtain⟨j,hj,rfl⟩:=List.getElem_of_mem hu
      obtain⟨u',e1,e2,e3⟩:=qd j (by omega)
      rw [List.getElem?_eq_getElem hj] at e2
      cases e2
      exact(hel _ e3).one _ (List.mem_of_getElem? e1)
  ·cases hy
 | own t' b full a n cap ho =>
  simp only [gt] at hy
  split at hy
  ·rename_i u l fr' hgb
   split at hy
   ·rename_i e
    obtain⟨rfl,e2⟩:=e
    subst e2
    cases hy
    have hb':=G.some hgb (by simp)
    obtain⟨x,hx,h1,h2⟩:=ho
    rw [hb'] at hx;injection hx with hx;subst hx
    obtain⟨_,rfl,h3,h4,h5⟩:=h2 _ _ _ rfl
    by_cases h0:l.length=0
    ·obtain rfl := List.eq_nil_of_length_eq_zero h0
     exact⟨a,cap,[],rfl,h3,empty _ _,⟨by simp,fun k hk=>by simp at hk⟩,fun u hu=>by simp at hu⟩
    ·rcases h5 with ⟨h5, _⟩ | ⟨q, us, e, h6, rfl, h8, h9⟩
     ·omega
     ·rcases R.blk b _ hb' with hnil | ⟨q', us', e', g1, g2, g3, g4, g5⟩
      ·subst hnil;simp at h0
      ·rw [h6] at g1; injection g1 with g1; subst g1
       obtain⟨fz8,h8,hz8⟩:=h8
       obtain⟨fz9,g2,_⟩:=g2
       rw [h8] at g2;injection g2 with g2;injection g2 with g2 _ _;subst g2
       have hnl:(us.toList.take (l.length*u.sz)).length=l.length*u.sz:=by simp;omega
       refine⟨some ⟨q,0,none⟩,cap,us.toList.take (l.length*u.sz),rfl,h3,⟨hnl,fun w1 hw1=>run_firstCells_some w1 _ _ _ _ _ _ hnl fun j v hj=> ?_⟩,⟨Nat.le_of_eq hnl.symm,fun k hk=> ?_⟩, ?_⟩
       ·rw [qob hw1, Addr.add_lit, Nat.zero_add, cell_of_row w q j us e _ h8]
        rw [List.getElem?_take] at hj
        split at hj
        ·simpa using hj
        ·cases hj
       ·have hrow : k * u.sz + u.sz ≤ l.length * u.sz := by
         have:=Nat.mul_le_mul_right u.sz hk
         rw [Nat.succ_mul] at this
         exact this
        have:((us.toList.take (l.length*u.sz)).drop (k*u.sz)).take u.sz=(us.toList.drop (k*u.sz)).take u.sz:=by
         apply List.ext_getElem?
         intro m
         rw [List.getElem?_take,List.getElem?_take]
         split
         ·rw [List.getElem?_drop,List.getElem?_drop,List.getElem?_take,if_pos (by omega)]
         ·rfl
        rw [this]
        exact g4 k hk
       ·intro v hv
        obtain⟨j,hj,rfl⟩:=List.getElem_of_mem hv
        have hj':j<l.length*u.sz:=by omega
        have hpos:0<u.sz:=by
         rcases Nat.eq_zero_or_pos u.sz with e|e
         ·rw [e] at hj';simp at hj'
         ·exact e
        have h1:j / u.sz<l.length:=Nat.div_lt_of_lt_mul (by rw [Nat.mul_comm];exact hj')
        have h2:j%u.sz<u.sz:=Nat.mod_lt _ hpos
        refine(g4 (j / u.sz) h1).one _ ?_
        refine List.mem_of_getElem? (i:=j%u.sz) ?_
        rw [List.getElem?_take,if_pos h2,List.getElem?_drop,Nat.div_add_mod']
        have hju:j<us.toList.length:=by simp;omega
        rw [List.getElem?_eq_getElem hju]
        simp
   ·cases hy
  ·cases hy
 |_=>simp [gt] at hy
theorem qr4{P:Program}{t e:TypeId}{i:TypeInfo}{z:Value}(hu:P.underlying t=some (.slice e))(hi:P.info? e=some i)(hz:i.zero=some z){base ya:Option Addr}{n cap m yc:Nat}{olds news:List Value}
  (ho:qds P w i.size n (.slice base n cap) olds) (hn:qds P w i.size m (.slice ya m yc) news):
  ((n+m≤cap→news=[]→(Builtin.append_ #[t,t] ty #[.slice base n cap,.slice ya m yc]).run P w= .ok (.slice base (n+m) cap) w)∧
  (n + m ≤ cap → ∀ (τ : Ty) q us e', base = some ⟨q, 0, none⟩ → js τ w q us e' → n * i.size + news.length ≤ us.size → (∀ u ∈ news, u.oneCell' = true) →
   (Builtin.append_ #[t,t] ty #[.slice base n cap,.slice ya m yc]).run P w= .ok (.slice base (n+m) cap) (w.setRow q (us.toList.take (n*i.size)++news++us.toList.drop (n*i.size+news.length)).toArray))∧
  (cap < n + m → n ≤ cap → (n + m) * i.bytes ≤ 140737488355328 → (n + m ≤ 140737488355328) →
   ∃C,n+m≤C∧(Builtin.append_ #[t,t] ty #[.slice base n cap,.slice ya m yc]).run P w=
    .ok (.slice (some ⟨w.heap.size,0,none⟩) (n+m) C) (w.drew.alloc (.cells (olds.toArray++news.toArray++Builtin.zeroCells z.cells (C-(n+m))) e (0,0))))):=by
 refine⟨fun hle hnil=> ?_,fun hle τ q us e' hb hq hfit h1=> ?_,fun hlt hnc hby hsm=>⟨grownCap w (n+m) cap e,grownCap_ge w _ _ e, ?_⟩⟩
 ·have hf := hn.2 w rfl
  rw [hnil] at hf
  cases base with
  |none=>simp [Builtin.append_,run_underlying hu,sizeOf,typeInfo,hi,Builtin.lenOf,hle,hf]
  |some a=>simp [Builtin.append_,run_underlying hu,sizeOf,typeInfo,hi,Builtin.lenOf,hle,hf,storeCells]
 ·subst hb
  have hf:=hn.2 w rfl
  obtain⟨fz,hq,hz⟩:=hq
  have hst:=un (P:=P) hq (hz.imp_right And.right) news (n*i.size) hfit h1
  simp [Builtin.append_,run_underlying hu,sizeOf,typeInfo,hi,Builtin.lenOf,hle,hf,Addr.add_lit,hst]
 ·have hnot : ¬ (n + m ≤ cap) := by omega
  have h63': ¬(9223372036854775807<((n:Int)+(m:Int))):=by omega
  have h48': ¬(281474976710656<Builtin.nextslicecap (n+m) cap*i.bytes):=by
   have:=growslice_fits (need:=n+m) (old:=cap) (bytes:=i.bytes) (by omega) hby
   omega
  have hf1:=ho.2 w.drew rfl
  have hf2:=hn.2 w.drew rfl
  have hzv: ∀w1:World,(zeroValue e).run P w1= .ok z w1:=fun w1=>by simp [zeroValue,typeInfo,hi,hz]
  simp [Builtin.append_,run_underlying hu,sizeOf,typeInfo,hi,Builtin.lenOf,hnot,h63',h48',Question.forced,hf1,hf2,hzv,newRow,grownCap]
  congr 2
  rw [←Array.append_assoc]
  congr 1
  simp
theorem jh.app{t:Ty}{xs ys:List t.den}{olds news rest:List Value}(hx:jh w I t xs olds)(hy:jh w I t ys news)(hlx:olds.length=xs.length*t.sz)(hly:news.length=ys.length*t.sz):
  jh w I t (xs++ys) (olds++news++rest):=by
 refine⟨by simp [Nat.add_mul];omega,fun k hk=> ?_⟩
 have hk':k<xs.length+ys.length:=by simpa using hk
 by_cases h1:k<xs.length
 ·have hrow : k * t.sz + t.sz ≤ xs.length * t.sz := by
   have:=Nat.mul_le_mul_right t.sz h1
   rw [Nat.succ_mul] at this
   exact this
  have e1:(xs++ys)[k]=xs[k]:=List.getElem_append_left h1
  have e2:((olds++news++rest).drop (k*t.sz)).take t.sz=(olds.drop (k*t.sz)).take t.sz:=by
   apply List.ext_getElem?
   intro m
   rw [List.getElem?_take,List.getElem?_take]
   split
   ·rw [List.getElem?_drop,List.getElem?_drop,List.append_assoc,List.getElem?_append_left (by omega)]
   ·rfl
  rw [e1,e2]
  exact hx.2 k h1
 ·have h2 : k - xs.length < ys.length := by omega
  have hrow:(k-xs.length)*t.sz+t.sz≤ys.length*t.sz:=by
   have:=Nat.mul_le_mul_right t.sz h2
   rw [Nat.succ_mul] at this
   exact this
  have e1:(xs++ys)[k]=ys[k-xs.length]:=List.getElem_append_right (by omega)
  have hks:k*t.sz=xs.length*t.sz+(k-xs.length)*t.sz:=by rw [←Nat.add_mul];congr 1;omega
  have e2:((olds++news++rest).drop (k*t.sz)).take t.sz=(news.drop ((k-xs.length)*t.sz)).take t.sz:=by
   apply List.ext_getElem?
   intro m
   rw [List.getElem?_take,List.getElem?_take]
   split
   ·rw [List.getElem?_drop, List.getElem?_drop, List.getElem?_append_left (by simp; omega), List.getElem?_append_right (by omega)]
    congr 1;omega
   ·rfl
  rw [e1,e2]
  exact hy.2 _ h2
theorem qon(x y:AB): ∀(h:qa) (b:Nat),b≤h.length→qe (qe h b x) b y=qe h b y
 |[],0,_=>rfl
 |[],b+1,hb=>by simp at hb
 |_::_,0,_=>rfl
 |z::r,b+1,hb=>by simp only [qe];rw [qon x y r b (by simpa using hb)]
theorem qto(R:RelH w I μ h)(hb:b0≤h.length)(hh:h[b0]? =none∨h[b0]? =some .hole){t:Ty}{l:List t.den}{cs:Array Value}(hr:jh w I t l cs.toList)(e:TypeId)(cap:Nat)(full frz:Bool)
  (h1:l.length≤cap) (h2:full=true→cap=l.length) (h3:cap*t.sz≤cs.size):
  ∃I',Rep (w.alloc (.cells cs e (0,0))) I' (qe h b0 (.arr t l frz)) (upd μ b0 w.heap.size) (.slice (some ⟨w.heap.size,0,none⟩) l.length cap) (.own t b0 full)∧
   RelH (w.alloc (.cells cs e (0,0))) I' (upd μ b0 w.heap.size) (qe h b0 (.arr t l frz))∧
   Fr w (Wr h μ) I (w.alloc (.cells cs e (0,0))) (Wr (qe h b0 (.arr t l frz)) (upd μ b0 w.heap.size)) I'∧HM h μ (qe h b0 (.arr t l frz)) (upd μ b0 w.heap.size):=by
 obtain⟨r1,r2,r3,r4⟩:=qrd R hb hh hr e cap full h1 h2 h3
 cases frz with
 |true=>exact⟨I,r1,r2,r3,r4⟩
 |false=>
  have qd:(qe h b0 (.arr t l true))[b0]? =some (.arr t l true):=by rw [qi _ h b0 b0 hb,if_pos rfl]
  obtain⟨I',R',F',M',_⟩:=r2.freeze qd
  rw [qon _ _ h b0 hb] at R' F' M'
  exact⟨I',r1.step r2 F' M',R',r3.trans F',r4.trans M'⟩
theorem Rep.drew{v:Value}{x:AV}(R:RelH w I μ h)(r:Rep w I h μ v x):Rep w.drew I h μ v x:=r.step R R.drew.2 (HM.refl h μ)
theorem jh.drew(R:RelH w I μ h){t:Ty}{l:List t.den}{cs:List Value}(r:jh w I t l cs):jh w.drew I t l cs:=
 ⟨r.1,fun k hk=>(r.2 k hk).mono (R.cell R.drew.2) (fun _ _ h=>h)⟩
theorem RelH.layE(R:RelH w I μ h)(hb:b0≤h.length)(hh:h[b0]? =none∨h[b0]? =some .hole){t:Ty}:
  RelH w I (gg μ b0 none) (qe h b0 (.arr t [] true))∧Fr w (Wr h μ) I w (Wr (qe h b0 (.arr t [] true)) (gg μ b0 none)) I∧HM h μ (qe h b0 (.arr t [] true)) (gg μ b0 none):=by
 have qd: ∀i:Nat,(qe h b0 (.arr t [] true))[i]? =if i=b0 then some (.arr t [] true) else h[i]? :=fun i=>qi _ h b0 i hb
 have hWr: ∀q o,Wr (qe h b0 (.arr t [] true)) (gg μ b0 none) q o→Wr h μ q o:=by
  rintro q o ⟨i,hi,hx⟩
  by_cases hi0:i=b0
  ·subst hi0
   rw [ki] at hi;cases hi
  ·rw [vf _ _ hi0] at hi
   rw [qd,if_neg hi0] at hx
   exact⟨i,hi,hx⟩
 have F:Fr w (Wr h μ) I w (Wr (qe h b0 (.arr t [] true)) (gg μ b0 none)) I:=
  ⟨rfl,rfl,rfl,Nat.le_refl _,fun _ _ _=>rfl,fun g vs e fz _ hv=>⟨vs,hv,rfl,fun _ _=>rfl⟩,fun _ _ hh=>hh,fun q o hw=> .inl (hWr q o hw),fun _ _ h=>h,fun _ _ h=> .inl h⟩
 have M:HM h μ (qe h b0 (.arr t [] true)) (gg μ b0 none):=by
  refine⟨fun i x hx=> ?_,fun i x y hx hy lx ly=> ?_⟩
  ·rw [qd]
   by_cases hi0:i=b0
   ·subst hi0
    rw [if_pos rfl]
    refine⟨_,rfl, ?_⟩
    rcases hh with hh|hh
    ·rw [hh] at hx;cases hx
    ·rw [hh] at hx;cases hx;trivial
   ·rw [if_neg hi0]
    obtain⟨y,hy,k⟩:=(HM.refl h μ).kept i x hx
    rw [hx] at hy;cases hy
    exact⟨x,hx,k⟩
  ·by_cases hi0 : i = b0
   ·subst hi0
    rcases hh with hh|hh
    ·rw [hh] at hx;cases hx
    ·rw [hh] at hx;cases hx;exact lx.elim
   ·exact vf _ _ hi0
 refine⟨⟨?_, ?_, ?_,fun q o hi hw=>R.disj q o hi (hWr q o hw),R.ilt,R.laid.step R.disj R.ilt F⟩,F,M⟩
 ·intro i j x y q hi hj lx ly gi gj
  by_cases hi0:i=b0
  ·subst hi0;rw [ki] at gi;cases gi
  ·by_cases hj0 : j = b0
   ·subst hj0;rw [ki] at gj;cases gj
   ·rw [vf _ _ hi0] at gi; rw [vf _ _ hj0] at gj
    rw [qd,if_neg hi0] at hi;rw [qd,if_neg hj0] at hj
    exact R.inj i j x y q hi hj lx ly gi gj
 ·intro i x q hi lx gi
  by_cases hi0:i=b0
  ·subst hi0;rw [ki] at gi;cases gi
  ·rw [vf _ _ hi0] at gi; rw [qd, if_neg hi0] at hi
   exact R.lt i x q hi lx gi
 ·intro i x hi
  by_cases hi0:i=b0
  ·subst hi0
   rw [qd,if_pos rfl] at hi;cases hi
   exact .inl rfl
  ·rw [qd, if_neg hi0] at hi
   by_cases lx:j8 x
   ·exact zm.mono M F.shape (R.keptI F) F.im (fun _=>vf _ _ hi0) (fun _ _=>rfl) (R.blk i x hi)
   ·cases x with
    |hole=>trivial
    |gone=>trivial
    |var=>exact absurd trivial lx
    |arr=>exact absurd trivial lx
    |mp=>exact absurd trivial lx
theorem qhn{h1:qa}{t:Ty}{fr:Bool}(hb:b0≤h1.length)(a:Option Addr):Rep w I (qe h1 b0 (.arr t [] fr)) μ (.slice a 0 0) (.own t b0 false):=by
 refine .own t b0 false a 0 0 ⟨_,by rw [qi _ _ b0 b0 hb,if_pos rfl],by simp,fun t2 l2 fr2 e2=> ?_⟩
 cases e2
 exact⟨rfl,rfl,Nat.le_refl _,fun hf=>(by cases hf),.inl ⟨rfl,rfl⟩⟩
set_option maxHeartbeats 1000000 in
theorem qo4 (hE : EnvOK E) (R : RelH w I μ h) (G : GOK g h) (hb : b0 ≤ h.length) (hh : h[b0]? = none ∨ h[b0]? = some .hole) {as : Array Operand} {ts : Array TypeId} {t u e : TypeId} {x y : AV}
  (hs:as.size=ts.size) (ht:ts.toList=[t,u]) (hud:(E.ti t).ud= .slice e)
  (hv:kw w I h μ ρ (q8 E ⟨dst,.call { callee:= .builtin .append,args:=as,argTypes:=ts },ty,pos,aft,gd⟩) [x,y])
  (hf0:chk (Nat.beq t u) (qjd (E.ti t) g b0 (E.ti e).bytes x y)=some fr) (hc: ∀c∈fr.cs,c.p):
  kj E ⟨dst,.call { callee:= .builtin .append,args:=as,argTypes:=ts },ty,pos,aft,gd⟩ ρ w I h μ fr:=by
 obtain⟨ox,oy,rfl,rfl⟩:=q8f hs ht
 have hx:Rep w I h μ (ρ ox) x:=hv.1
 have hy:Rep w I h μ (ρ oy) y:=hv.2.1
 clear hv hs ht
 obtain⟨htu,hf⟩:=ql hf0
 obtain rfl:=Nat.eq_of_beq_eq_true htu
 clear hf0
 have hu:=hE.und t (j7 (by rw [hud];rfl))
 rw [hud] at hu
 have hu':E.P.underlying t=some (.slice e):=hu
 unfold qjd at hf
 split at hf
 ·rename_i τ hty
  obtain⟨hsz1,hf⟩:=ql hf
  have hsz1:1≤τ.sz:=by simpa using hsz1
  obtain⟨e',hud',hte⟩:=hE.sl t τ hty
  rw [hud] at hud';cases hud'
  obtain⟨hes,hek,ie',z,hie',hz,hzr⟩:=hE.ty e τ hte
  obtain⟨ie,hie,his,hib⟩:=hE.info e hek
  rw [hie] at hie';injection hie' with hie';subst hie'
  have hisz:ie.size=τ.sz:=his.trans hes
  have hzs:z.cells.size=τ.sz:=by have:=(hzr w I).len;simpa using this
  split at hf
  ·rename_i ys hys
   obtain⟨ya,yc,news,hyv,hyc,hyF,hyR,hyo⟩:=qc8 (P:=E.P) R G hy hys
   have exec: ∀{v:Value} {w':World},(Builtin.append_ #[t,t] ty #[ρ ox,ρ oy]).run E.P w= .ok v w'→(execOp ρ ⟨dst,.call { callee:= .builtin .append,args:= #[ox,oy],argTypes:= #[t,t] },ty,pos,aft,gd⟩).run E.P w= .ok (.value v) w':=
    fun hr=>wi rfl (by simpa using hr)
   have hyF':qds E.P w ie.size ys.length (.slice ya ys.length yc) news:=by rw [hisz,←hyv];exact hyF
   have hyl:news.length=ys.length*τ.sz:=hyF.1
   -- a new row, out of what is read
   have grow: ∀{h1:qa} {xs:List τ.den} {olds:List Value} {base:Option Addr} {n cap:Nat} (frz:Bool),RelH w I μ h1→b0≤h1.length→(h1[b0]? =none∨h1[b0]? =some .hole)→n=xs.length→jh w I τ xs olds→
     qds E.P w ie.size n (.slice base n cap) olds→cap<n+ys.length→n≤cap→qq (n+ys.length) (E.ti e).bytes→ρ ox= .slice base n cap→
     ∃v' w' I',(execOp ρ ⟨dst,.call { callee:= .builtin .append,args:= #[ox,oy],argTypes:= #[t,t] },ty,pos,aft,gd⟩).run E.P w= .ok (.value v') w'∧
      Rep w' I' (qe h1 b0 (.arr τ (xs++ys) frz)) (upd μ b0 w.heap.size) v' (.own τ b0 false)∧RelH w' I' (upd μ b0 w.heap.size) (qe h1 b0 (.arr τ (xs++ys) frz))∧
      Fr w (Wr h1 μ) I w' (Wr (qe h1 b0 (.arr τ (xs++ys) frz)) (upd μ b0 w.heap.size)) I'∧HM h1 μ (qe h1 b0 (.arr τ (xs++ys) frz)) (upd μ b0 w.heap.size):=by
    intro h1 xs olds base n cap frz R1 hb1 hh1 hn hxR hxF hlt hnc hsum hxv
    obtain⟨_,_,h3⟩:=qr4 (P:=E.P) (ty:=ty) hu' hie hz hxF hyF'
    have hsum1:(n+ys.length)*(E.ti e).bytes≤140737488355328∧n+ys.length≤140737488355328:=hsum
    obtain⟨C,hC,hrun⟩:=h3 hlt hnc (by rw [hib];exact hsum1.1) hsum1.2
    have hrow:jh w.drew I τ (xs++ys) (olds.toArray++news.toArray++Builtin.zeroCells z.cells (C-(n+ys.length))).toList:=by
     have:=(jh.app (rest:=(Builtin.zeroCells z.cells (C-(n+ys.length))).toList) hxR hyR (by rw [hxF.1,hisz,hn]) hyF.1).drew R1
     simpa using this
    have hlen:(xs++ys).length=n+ys.length:=by simp [hn]
    obtain⟨I',r1,r2,r3,r4⟩:=qto (R1.drew).1 hb1 hh1 hrow e C false frz (by omega) (fun hf=>by cases hf) (by
     have h1:=hxF.1
     have h2:=hyF.1
     simp only [Array.size_append,List.size_toArray,size_zeroCells,hzs,h1,h2,hisz,←Nat.add_mul]
     refine Nat.mul_le_mul_right _ ?_
     omega)
    rw [hlen] at r1
    refine⟨_,_,I',exec (by rw [hxv,hyv];exact hrun),r1,r2,(R1.drew).2.trans r3,r4⟩
   have same:ys.length=0→∀{base:Option Addr} {n cap:Nat} {olds:List Value},qds E.P w ie.size n (.slice base n cap) olds→n≤cap→ρ ox= .slice base n cap→
     (execOp ρ ⟨dst,.call { callee:= .builtin .append,args:= #[ox,oy],argTypes:= #[t,t] },ty,pos,aft,gd⟩).run E.P w= .ok (.value (.slice base n cap)) w:=by
    intro h0 base n cap olds hxF hnc hxv
    have hn0:news=[]:=List.eq_nil_of_length_eq_zero (by rw [hyl,h0];simp)
    obtain⟨h1,_,_⟩:=qr4 (P:=E.P) (ty:=ty) hu' hie hz hxF hyF'
    have hrun:=h1 (by omega) hn0
    rw [h0] at hrun
    refine exec ?_
    rw [hxv,hyv,h0]
    exact hrun
   split at hf
   ·-- data that is read, and has no room
    rename_i t' xs full _
    split at hf
    ·rename_i he
     subst he
     cases hf
     have hful:full=true:=hc ⟨_,inferInstance⟩ (by simp)
     have hor:xs.length=0∨0<ys.length:=hc ⟨_,inferInstance⟩ (by simp)
     have hsum:qq (xs.length+ys.length) (E.ti e).bytes:=hc ⟨_,inferInstance⟩ (by simp)
     obtain⟨xa,xc,olds,hxv,hxc,hxF,hxR,_⟩:=qc8 (P:=E.P) R G (t:=t') (ys:=xs) hx (by simp [gt])
     have hcap:xc=xs.length:=by
      generalize hq:ρ ox=q at hx
      cases hx with
      |sl _ _ _ a n cap hr hfl=>
       rw [hxv] at hq
       injection hq with _ q2 q3
       have:=hfl hful
       omega
     have hxF':qds E.P w ie.size xs.length (.slice xa xs.length xc) olds:=by rw [hisz,←hxv];exact hxF
     by_cases hy0:ys.length=0
     ·-- nothing is added to nothing
      have hx0:xs.length=0:=by omega
      obtain rfl:=List.eq_nil_of_length_eq_zero hy0
      obtain rfl:=List.eq_nil_of_length_eq_zero hx0
      obtain⟨r1,r2,r3⟩:=R.layE (t:=t') hb hh
      refine⟨_,_,w,I,gg μ b0 none,same rfl hxF' hxc hxv,.inl rfl, ?_,r1,r2,r3⟩
      subst hcap
      exact qhn hb xa
     ·obtain ⟨v', w', I', g1, g2, g3, g4, g5⟩ := grow true R hb hh rfl hxR hxF' (by omega) (by omega) hsum hxv
      exact⟨v',_,w',I',_,g1,.inl rfl,g2,g3,g4,g5⟩
    ·cases hf
   ·-- nil
    cases hf
    have hsum:qq ys.length (E.ti e).bytes:=hc ⟨_,inferInstance⟩ (by simp)
    obtain⟨xa,xc,olds,hxv,hxc,hxF,hxR,_⟩:=qc8 (P:=E.P) R G (t:=τ) (ys:=[]) hx (by simp [gt])
    have hxv':ρ ox= .slice none 0 0:=by generalize ρ ox=q at hx;cases hx;rfl
    have hxF':qds E.P w ie.size 0 (.slice none 0 0) olds:=by rw [hisz,←hxv'];exact hxF
    by_cases hy0:ys.length=0
    ·obtain rfl := List.eq_nil_of_length_eq_zero hy0
     obtain⟨r1,r2,r3⟩:=R.layE (t:=τ) hb hh
     exact⟨_,_,w,I,gg μ b0 none,same rfl hxF' (Nat.le_refl _) hxv',.inl rfl,qhn hb none,r1,r2,r3⟩
    ·obtain ⟨v', w', I', g1, g2, g3, g4, g5⟩ := grow (xs := []) true R hb hh rfl hxR hxF' (by omega) (Nat.le_refl _) (by simpa using hsum) hxv'
     exact⟨v',_,w',I',_,g1,.inl rfl,g2,g3,g4,g5⟩
   ·-- a row of one's own
    rename_i t' b full _
    split at hf
    ·rename_i u' l frz hgb
     split at hf
     ·rename_i he
      obtain⟨e1,e2⟩:=he
      subst e1
      subst e2
      cases hf
      have hsum:qq (l.length+ys.length) (E.ti e).bytes:=hc ⟨_,inferInstance⟩ (by simp)
      obtain⟨xa,xc,hxv,_,hxc,_,hat,hbb⟩:=yn G hx hgb
      obtain⟨xa',xc',olds,hxv',_,hxF,hxR,_⟩:=qc8 (P:=E.P) R G (t:=u') (ys:=l) hx (by simp [gt,hgb])
      rw [hxv] at hxv'
      injection hxv' with q1 _ q3
      subst q1;subst q3
      have hxF':qds E.P w ie.size l.length (.slice xa l.length xc) olds:=by rw [hisz,←hxv];exact hxF
      have hbne:b≠b0:=by
       rintro rfl
       rcases hh with hh|hh <;>rw [hbb] at hh <;>cases hh
      have hblt:b<h.length:=(List.getElem?_eq_some_iff.1 hbb).1
      by_cases hroom:l.length+ys.length≤xc
      ·rcases hat with ⟨h5, h6⟩ | ⟨q, us, e', h6, rfl, h8, h9⟩
       ·-- nothing is added to nothing
        have hy0:ys.length=0:=by omega
        obtain rfl:=List.eq_nil_of_length_eq_zero hy0
        obtain rfl:=List.eq_nil_of_length_eq_zero h5
        obtain⟨I',r1,r2,r3⟩:=R.adopt (w':=w) (l':=([]:List u'.den)) hbb hb hh none (fun q hq=>by cases hq) (fun _=>⟨rfl,rfl⟩) (fun _=>Nat.le_refl _) rfl rfl rfl rfl
        refine⟨_,_,w,I',gg μ b0 none,same rfl hxF' hxc hxv,.inl rfl, ?_,r1,r2,r3⟩
        have hb1:b0≤(qe h b .gone).length:=Nat.le_trans hb (uh _ h b (by omega))
        subst h6
        exact qhn (fr:=frz) hb1 xa
       ·-- in its own room
        have hlz:l.length*u'.sz+ys.length*u'.sz≤us.size:=by
         rw [←Nat.add_mul]
         exact Nat.le_trans (Nat.mul_le_mul_right _ hroom) h9
        obtain⟨_,h2,_⟩:=qr4 (P:=E.P) (ty:=ty) hu' hie hz hxF' hyF'
        have hrun:=h2 hroom _ q us e' rfl h8 (by rw [hisz,hyl];exact hlz) hyo
        obtain⟨fz8,h8,hz8⟩:=h8
        rw [hisz] at hrun
        rw [←yk us.toList news (l.length*u'.sz) (by rw [hyl];simpa using hlz)] at hrun
        obtain⟨I',r1,r2,r3⟩:=R.adopt (w':=w.setRow q (qm us.toList (l.length*u'.sz) news).toArray) (l':=l++ys) hbb hb hh (some q)
         (fun q' hq' => by
          injection hq' with hq'
          subst hq'
          refine⟨h6,us,_,e',⟨fz8,hz8,h8,setRow_heap w q us _ e' _ h8⟩,by simp [qk],fun k hk=>setRow_other w q k _ hk,fun o _ ho=> ?_,fun I'' hmono=> ?_⟩
          ·simp only [List.getElem?_toArray]
           rw [jp _ _ _ _ (by rw [hyl];simpa using hlz),if_neg (by omega)]
           simp
          ·have holds : olds = us.toList.take (l.length * u'.sz) := by
            have h1:=hxF.2 w rfl
            rw [hxv] at h1
            have h2:=run_firstCells_some (P:=E.P) w u'.sz l.length ⟨q,0,none⟩ l.length xc (us.toList.take (l.length*u'.sz)) (by simp;omega) (fun j v hj=>by
             rw [Addr.add_lit,Nat.zero_add,cell_of_row w q j us e' _ h8]
             rw [List.getElem?_take] at hj
             split at hj
             ·simpa using hj
             ·cases hj)
            rw [h1] at h2
            injection h2 with h2 _
            simpa using h2
           have hrow:=jh.app (rest:=us.toList.drop (l.length*u'.sz+news.length)) hxR hyR hxF.1 hyl
           rw [holds] at hrow
           have e3:((qm us.toList (l.length*u'.sz) news).toArray).toList=us.toList.take (l.length*u'.sz)++news++us.toList.drop (l.length*u'.sz+news.length):=
            yk us.toList news (l.length*u'.sz) (by rw [hyl];simpa using hlz)
           rw [e3]
           exact⟨hrow.1,fun k hk=>hmono _ _ _ (hrow.2 k hk)⟩)
         (fun hq'=>by cases hq') (by simp) rfl rfl rfl (by simp)
        refine⟨_,_,_,I',gg μ b0 (some q),exec (by rw [hxv,hyv];exact hrun),.inl rfl, ?_,r1,r2,r3⟩
        have hb1:b0≤(qe h b .gone).length:=Nat.le_trans hb (uh _ h b (by omega))
        refine .own u' b0 false _ _ xc ⟨_,by simp only [qg];rw [qi _ _ b0 b0 hb1,if_pos rfl],by simp,fun t2 l2 fr2 e2=> ?_⟩
        cases e2
        exact⟨rfl,by simp,hroom,fun hf=>(by cases hf),.inr ⟨q,_,e',ki _ _ _,rfl,⟨fz8,setRow_heap w q us _ e' _ h8,by simpa [qk] using hz8⟩,by simpa [qk] using h9⟩⟩
      ·-- a new row
       obtain⟨R1,F1,M1⟩:=R.drop hbb
       have hb1:b0≤(qe h b .gone).length:=Nat.le_trans hb (uh _ h b (by omega))
       have hh1:(qe h b .gone)[b0]? =none∨(qe h b .gone)[b0]? =some .hole:=by
        rw [qi _ h b b0 (by omega),if_neg (Ne.symm hbne)];exact hh
       obtain⟨v',w',I',g1,g2,g3,g4,g5⟩:=grow frz R1 hb1 hh1 rfl hxR hxF' (by omega) hxc hsum hxv
       exact⟨v',_,w',I',_,g1,.inl rfl,g2,g3,F1.trans g4,M1.trans g5⟩
     ·cases hf
    ·cases hf
   ·cases hf
  ·cases hf
 ·cases hf
end
end Go.AM
namespace Go.AM
set_option linter.unusedSectionVars false
variable [Lay]
open Go.MapKept
theorem ua{w:World}{I:Nat→Nat→Prop}{h:qa}{μ:Nat→Option Nat}{t:Ty}{v:Value}{x:AV}{n:t.den}(r:Rep w I h μ v x)(hs:quk t x=some n):yt t n v:=by
 cases t <;>cases x <;>simp [quk] at hs
 ·split at hs
  ·rename_i e _
   subst e
   simp at hs
   subst hs
   cases r;rfl
  ·cases hs
 ·subst hs;cases r;rfl
 ·subst hs;cases r;rfl
 ·subst hs;cases r;rfl
 ·subst hs;cases r;rfl
theorem qsz{w:World}{I:Nat→Nat→Prop}{h:qa}{μ:Nat→Option Nat}{t:Ty}{v:Value}{n:t.den}(hs:qeb t=true)(r:yt t n v):Rep w I h μ v (qlv t n):=by
 cases t <;>simp [qeb] at hs
 ·obtain rfl:=r;exact .int _ _
 ·obtain rfl:=r;exact .bool _
 ·obtain rfl:=r;exact .str _
theorem qo3{w:World}{I:Nat→Nat→Prop}{h:qa}{μ:Nat→Option Nat}(t:Ty)(vs:List Value)(cs:List AV)(x:t.den)(r:List AV)
  (hf:(match cs with|v::r=>(match quk t v with|some x=>some (x,r)|none=>none)|[]=>none)=some (x,r)) (hl:vs.length=cs.length)
  (hr: ∀(i:Nat) (v:Value) (c:AV),vs[i]? =some v→cs[i]? =some c→Rep w I h μ v c) (hd: ∀(v:Value) (_:AV),yt t x v→qer t x [v]):
  ∃v1 v2,vs=v1++v2∧qer t x v1∧v2.length=r.length∧(∀(i:Nat) (v:Value) (c:AV),v2[i]? =some v→r[i]? =some c→Rep w I h μ v c):=by
 cases cs with
 |nil=>cases hf
 | cons c cs =>
  cases vs with
  |nil=>simp at hl
  | cons v vs =>
   dsimp only at hf
   cases hs:quk t c with
   |none=>rw [hs] at hf;cases hf
   |some y=>
    rw [hs] at hf
    injection hf with hf
    injection hf with h1 h2
    subst h1 h2
    exact⟨[v],vs,rfl,hd v c (ua (hr 0 v c rfl rfl) hs),by simpa using hl,fun i v' c' e1 e2=>hr (i+1) v' c' (by simpa using e1) (by simpa using e2)⟩
theorem qv3{w:World}{I:Nat→Nat→Prop}{h:qa}{μ:Nat→Option Nat}: ∀(t:Ty) (vs:List Value) (cs:List AV) (x:t.den) (r:List AV),vs.length=cs.length→
  (∀(i:Nat) (v:Value) (c:AV),vs[i]? =some v→cs[i]? =some c→Rep w I h μ v c)→qnp t cs=some (x,r)→∃v1 v2,vs=v1++v2∧qer t x v1∧v2.length=r.length∧(∀(i:Nat) (v:Value) (c:AV),v2[i]? =some v→r[i]? =some c→Rep w I h μ v c)
 | .pair a b, vs, cs, x, r, hl, hr, hf => by
  unfold qnp at hf
  cases ha:qnp a cs with
  |none=>rw [ha] at hf;cases hf
  | some p =>
   rw [ha] at hf
   obtain⟨y,r1⟩:=p
   dsimp only at hf
   cases hb:qnp b r1 with
   |none=>rw [hb] at hf;cases hf
   |some q=>
    rw [hb] at hf
    obtain⟨z,r2⟩:=q
    injection hf with hf
    injection hf with h1 h2
    subst h1 h2
    obtain⟨u1,u2,e1,d1,l1,k1⟩:=qv3 a vs cs y r1 hl hr ha
    obtain⟨u3,u4,e2,d2,l2,k2⟩:=qv3 b u2 r1 z r2 l1 k1 hb
    exact⟨u1++u3,u4,by rw [e1,e2,List.append_assoc],⟨u1,u3,rfl,d1,d2⟩,l2,k2⟩
 | .int k,vs,cs,x,r,hl,hr,hf=>qo3 (.int k) vs cs x r hf hl hr (fun v c hs=>⟨v,rfl,hs⟩)
 | .str,vs,cs,x,r,hl,hr,hf=>qo3 .str vs cs x r hf hl hr (fun v c hs=>⟨v,rfl,hs⟩)
 | .bool,vs,cs,x,r,hl,hr,hf=>qo3 .bool vs cs x r hf hl hr (fun v c hs=>⟨v,rfl,hs⟩)
 | .unit,vs,cs,x,r,hl,hr,hf=>qo3 .unit vs cs x r hf hl hr (fun v c hs=>⟨v,rfl,hs⟩)
 | .sl t,vs,cs,x,r,hl,hr,hf=>qo3 (.sl t) vs cs x r hf hl hr (fun v c hs=>⟨v,rfl,hs⟩)
 | .val,vs,cs,x,r,hl,hr,hf=>qo3 .val vs cs x r hf hl hr (fun v c hs=>⟨v,rfl,hs⟩)
theorem jdw{w:World}{I:Nat→Nat→Prop}{h:qa}{μ:Nat→Option Nat}{t:Ty}{v:Value}{x:AV}{n:t.den}(r:Rep w I h μ v x)(hs:elD t x=some n):ElD t n v:=by
 cases t with
 | pair a b =>
  cases x with
  | agg cs =>
   have hs:(match qnp (.pair a b) cs with|some (x,[])=>some x|_=>none)=some n:=hs
   split at hs
   ·rename_i y hf
    injection hs with hs
    subst hs
    cases r with
    |agg vs cs hl hc=>
     obtain⟨v1,v2,e1,d1,l1,_⟩:=qv3 (w:=w) (I:=I) (h:=h) (μ:=μ) (.pair a b) vs.toList cs y [] (by simpa using hl) (fun i v c e1 e2=>hc i v c (by simpa using e1) e2) hf
     obtain rfl:=List.length_eq_zero_iff.1 (show v2.length=0 by simpa using l1)
     rw [List.append_nil] at e1
     exact⟨vs,rfl,by rw [e1];exact d1⟩
   ·cases hs
  |_=>cases hs
 |int k=>exact ua (t:=(.int k)) r hs
 |str=>exact ua (t:= .str) r hs
 |bool=>exact ua (t:= .bool) r hs
 |unit=>exact ua (t:= .unit) r hs
 |sl t=>exact ua (t:=(.sl t)) r hs
 |val=>exact ua (t:= .val) r hs
theorem q4n{w:World}{I:Nat→Nat→Prop}{h:qa}{μ:Nat→Option Nat}(t:Ty)(x:t.den)(cs:List Value)(hs:qeb t=true)(hd: ∃v,cs=[v]∧yt t x v)(he:y6 t x=[qlv t x]):
  cs.length=(y6 t x).length∧∀(i:Nat) (v:Value) (c:AV),cs[i]? =some v→(y6 t x)[i]? =some c→Rep w I h μ v c:=by
 obtain⟨v,rfl,hv⟩:=hd
 rw [he]
 refine⟨rfl,fun i v' c e1 e2=> ?_⟩
 cases i with
 |zero=>simp at e1 e2;subst e1;subst e2;exact qsz hs hv
 |succ i=>simp at e1
theorem qks{w:World}{I:Nat→Nat→Prop}{h:qa}{μ:Nat→Option Nat}: ∀(t:Ty) (x:t.den) (cs:List Value),zt t=true→qer t x cs→
  cs.length=(y6 t x).length∧∀(i:Nat) (v:Value) (c:AV),cs[i]? =some v→(y6 t x)[i]? =some c→Rep w I h μ v c
 | .pair a b, x, cs, hf, hd => by
  obtain⟨c1,c2,rfl,d1,d2⟩:=hd
  simp only [zt,Bool.and_eq_true] at hf
  obtain⟨l1,r1⟩:=qks (w:=w) (I:=I) (h:=h) (μ:=μ) a x.1 c1 hf.1 d1
  obtain⟨l2,r2⟩:=qks (w:=w) (I:=I) (h:=h) (μ:=μ) b x.2 c2 hf.2 d2
  refine⟨by show(c1++c2).length=(y6 a x.1++y6 b x.2).length;rw [List.length_append,List.length_append,l1,l2],fun i v c e1 e2=> ?_⟩
  have e2:(y6 a x.1++y6 b x.2)[i]? =some c:=e2
  by_cases hi:i<c1.length
  ·rw [List.getElem?_append_left hi] at e1
   rw [List.getElem?_append_left (by omega)] at e2
   exact r1 i v c e1 e2
  ·rw [List.getElem?_append_right (by omega)] at e1
   rw [List.getElem?_append_right (by omega)] at e2
   exact r2 _ v c e1 (by rw [l1];exact e2)
 | .int k,x,cs,hf,hd=>q4n (.int k) x cs rfl hd rfl
 | .str,x,cs,hf,hd=>q4n .str x cs rfl hd rfl
 | .bool,x,cs,hf,hd=>q4n .bool x cs rfl hd rfl
 | .unit,x,cs,hf,hd=>by cases hf
 | .sl t,x,cs,hf,hd=>by cases hf
 | .val,x,cs,hf,hd=>by cases hf
theorem qvz{w:World}{I:Nat→Nat→Prop}{h:qa}{μ:Nat→Option Nat}{t:Ty}{v:Value}{n:t.den}(hs:zt t=true)(r:ElD t n v):Rep w I h μ v (q6n t n):=by
 cases t with
 |pair a b=>
  obtain⟨vs,rfl,hd⟩:=r
  obtain⟨h1,h2⟩:=qks (w:=w) (I:=I) (h:=h) (μ:=μ) (.pair a b) n vs.toList hs hd
  exact .agg vs _ (by simpa using h1) (fun i v c e1 e2=>h2 i v c (by simpa using e1) e2)
 |int k=>exact qsz (t:= .int k) rfl r
 |str=>exact qsz (t:= .str) rfl r
 |bool=>exact qsz (t:= .bool) rfl r
 |unit=>cases hs
 |sl t=>cases hs
 |val=>cases hs
theorem qqw{w:World}{I:Nat→Nat→Prop}: ∀(t:Ty) (x:t.den) (cs:List Value),zt t=true→RD w I t x cs→qer t x cs
 | .pair a b,x,cs,hf,hr=>by
  simp only [zt,Bool.and_eq_true] at hf
  cases hr with
  |pair _ _ x y c1 c2 h1 h2=>exact⟨c1,c2,rfl,qqw a _ c1 hf.1 h1,qqw b _ c2 hf.2 h2⟩
 | .int k,x,cs,_,hr=>by cases hr;exact⟨_,rfl,rfl⟩
 | .str,x,cs,_,hr=>by cases hr;exact⟨_,rfl,rfl⟩
 | .bool,x,cs,_,hr=>by cases hr;exact⟨_,rfl,rfl⟩
 | .unit,x,cs,hf,_=>by cases hf
 | .sl t,x,cs,hf,_=>by cases hf
 | .val,x,cs,hf,_=>by cases hf
theorem qe2: ∀(t:Ty) (x:t.den) (cs:List Value),qer t x cs→1≤cs.length
 | .pair a b,x,cs,hd=>by
  obtain⟨c1,c2,rfl,d1,_⟩:=hd
  have:=qe2 a x.1 c1 d1
  rw [List.length_append]
  omega
 | .int k,x,cs,hd=>by obtain⟨v,rfl,_⟩:=hd;simp
 | .str,x,cs,hd=>by obtain⟨v,rfl,_⟩:=hd;simp
 | .bool,x,cs,hd=>by obtain⟨v,rfl,_⟩:=hd;simp
 | .unit,x,cs,hd=>by obtain⟨v,rfl,_⟩:=hd;simp
 | .sl t,x,cs,hd=>by obtain⟨v,rfl,_⟩:=hd;simp
 | .val,x,cs,hd=>by obtain⟨v,rfl,_⟩:=hd;simp
theorem q8d{E:Env}(hE:EnvOK E){t:TypeId}{u:Ty}(ht:(E.ti t).ty=some u)(hf:zt u=true): ∃i z,E.P.info? t=some i∧i.zero=some z∧ElD u u.zero z:=by
 cases u with
 |pair a b=>
  obtain⟨_,_,i,z,h1,h2,h3⟩:=hE.ty t (.pair a b) ht
  have hd:=qqw (.pair a b) _ _ hf (h3 default (fun _ _=>False))
  refine⟨i,z,h1,h2, ?_⟩
  obtain⟨c1,c2,e,d1,d2⟩:=hd
  have l1:=qe2 _ _ _ d1
  have l2:=qe2 _ _ _ d2
  have hl:2≤z.cells.toList.length:=by rw [e,List.length_append];omega
  cases z with
  |agg vs=>exact⟨vs,rfl,c1,c2,e,d1,d2⟩
  |_=>exact absurd hl (by simp [Value.cells])
 |int k=>exact hE.zsc t _ ht rfl
 |str=>exact hE.zsc t _ ht rfl
 |bool=>exact hE.zsc t _ ht rfl
 |unit=>cases hf
 |sl t=>cases hf
 |val=>cases hf
def q0c(kt:Ty)(d:TypeDesc):Prop:=match kt with
 | .int k=>d= .int k
 | .str=>d= .string
 |_=>False
theorem qq7{P:Program}{t:TypeId}{ud:UD}{kt:Ty}(hu:qes P t ud)(hs:qai ud kt=true): ∃d,P.underlying t=some d∧q0c kt d:=by
 cases ud <;>cases kt <;>simp [qai] at hs
 ·subst hs;exact⟨_,hu,rfl⟩
 ·exact⟨_,hu,rfl⟩
theorem qq6{kt:Ty}{d:TypeDesc}{n:kt.den}{v:Value}(hd:q0c kt d)(hv:yt kt n v):IsKey d v:=by
 cases kt <;>simp only [q0c] at hd
 ·subst hd;obtain rfl:=hv;rfl
 ·subst hd;obtain rfl:=hv;trivial
theorem q0b{kt:Ty}{d:TypeDesc}{n m:kt.den}{v u:Value}(hd:q0c kt d)(hv:yt kt n v)(hu:yt kt m u):Instr.sameNow d v u=some (qv9 kt n m)∧(qv9 kt n m=true→v=u):=by
 cases kt <;>simp only [q0c] at hd
 ·subst hd; obtain rfl := hv; obtain rfl := hu
  refine⟨by simp [Instr.sameNow,qv9],fun h=> ?_⟩
  have h:((n:Int)==m)=true:=h
  have e:(n:Int)=m:=by simpa using h
  rw [e]
 ·subst hd; obtain rfl := hv; obtain rfl := hu
  have key:((⟨(n:Str).toArray⟩:ByteArray)==⟨(m:Str).toArray⟩)=((n:Str)==m):=by
   rw [Bool.eq_iff_iff,bytes_beq]
   constructor
   ·intro e
    injection e with e
    have:(n:Str)=m:=by simpa using congrArg Array.toList e
    simpa using this
   ·intro e
    have:(n:Str)=m:=by simpa using e
    rw [this]
  refine⟨by simp only [Instr.sameNow,key];rfl,fun h=> ?_⟩
  have h:((n:Str)==m)=true:=h
  have e:(n:Str)=m:=by simpa using h
  rw [e]
def PW(kt vt:Ty)(es:List MapEntry)(l:List (kt.den×vt.den)):Prop:=
 es.length=l.length∧∀(n:Nat) (e:MapEntry) (x:kt.den×vt.den),es[n]? =some e→l[n]? =some x→yt kt x.1 e.key∧ElD vt x.2 e.val
theorem qe0{kt vt:Ty}{d:TypeDesc}{n:kt.den}{k:Value}(hd:q0c kt d)(hk:yt kt n k): ∀(es:List MapEntry) (l:List (kt.den×vt.den)) (i:Nat),PW kt vt es l→
  (qtu kt vt n l=false∧Instr.findNow d k es i=some none∧qns kt vt n l=vt.zero∧∀y,qri kt vt n y l=l++[(n,y)])∨
  (∃j e x,es[j]? =some e∧l[j]? =some x∧Instr.findNow d k es i=some (some (i+j,e.val))∧qtu kt vt n l=true∧qns kt vt n l=x.2∧k=e.key∧∀y,qri kt vt n y l=l.set j (x.1,y))
 |[],[],i,_=> .inl ⟨rfl,rfl,rfl,fun _=>rfl⟩
 |[],_::_,_,h=>by simp [PW] at h
 |_::_,[],_,h=>by simp [PW] at h
 | e :: es, (a, b) :: l, i, h => by
  obtain⟨hl,hp⟩:=h
  obtain⟨h1,h2⟩:=hp 0 e (a,b) rfl rfl
  obtain⟨s1,s2⟩:=q0b hd hk h1
  cases hq:qv9 kt n a with
  |true=>
   rw [hq] at s1 s2
   refine .inr ⟨0,e,(a,b),rfl,rfl,by simp [Instr.findNow,s1],by simp [qtu,hq],by simp [qns,hq],s2 rfl,fun y=>by simp [qri,hq]⟩
  |false=>
   rw [hq] at s1
   have ih:=qe0 (vt:=vt) hd hk es l (i+1) ⟨by simpa using hl,fun m e' x' e1 e2=>hp (m+1) e' x' (by simpa using e1) (by simpa using e2)⟩
   rcases ih with⟨i1,i2,i3,i4⟩|⟨j,e',x,i1,i2,i3,i4,i5,i6,i7⟩
   ·exact .inl ⟨by simp [qtu,hq,i1],by simp [Instr.findNow,s1,i2],by simp [qns,hq,i3],fun y=>by simp [qri,hq,i4]⟩
   ·exact .inr ⟨j+1,e',x,by simpa using i1,by simpa using i2,by simp [Instr.findNow,s1,i3];omega,by simp [qtu,hq,i4],by simp [qns,hq,i5],i6,fun y=>by simp [qri,hq,i7]⟩
section
variable {E:Env} {w:World} {I:Nat→Nat→Prop} {h:qa} {μ:Nat→Option Nat} {ρ:Operand→Value} {g:Nat→AB} {b0:Nat} {fr:FR}
variable {dst:Option Tmp} {ty:TypeId} {pos:String} {aft:Array Edge} {gd:Option (Nat×Bool)}
theorem qwn(R:RelH w I μ h)(hb:b0≤h.length)(hh:h[b0]? =none∨h[b0]? =some .hole){t:TypeId}{r:Option Operand}{vs:List AV}
  (hf:qj E ⟨dst,.makeMap t r,ty,pos,aft,gd⟩ vs g b0=some fr):kj E ⟨dst,.makeMap t r,ty,pos,aft,gd⟩ ρ w I h μ fr:=by
 cases r with
 |some r=>simp [qj] at hf
 | none =>
  simp only [qj] at hf
  split at hf
  ·split at hf
   ·rename_i kt vt _ _
    obtain⟨hck,hf⟩:=ql hf
    simp only [Bool.and_eq_true] at hck
    cases hf
    have hal:=heap_alloc w (.map #[] 0)
    obtain⟨h2,h3,h4⟩:=R.layO hb hh (.map #[] 0) trivial (.mp kt vt []) (by
     show uc _ _ _ _ _ _ _
     rw [uc.of hck.1.2]
     exact⟨w.heap.size, #[],0,jy _ _ _,hal.1,rfl,(fun n e x e1 _=>by simp at e1),(by simp),(by simp)⟩)
    refine⟨_,_,_,I,_,jk (s:=Instr.makeMap t none) (v:= .map (some w.heap.size)) (w':=w.alloc (.map #[] 0)) rfl,.inl rfl, ?_,h2,h3,h4⟩
    refine .mptr b0 w.heap.size ⟨.mp kt vt [], ?_,by simp,fun _=>jy _ _ _⟩
    show(qe h b0 (.mp kt vt []))[b0]? =_
    rw [qi _ h b0 b0 hb,if_pos rfl]
   ·cases hf
  ·cases hf
theorem qq9{ti:TI}{k v:TypeId}(h:ti.ud= .map k v):ti.kn=true:=by simp [TI.kn,h,UD.isOther]
theorem qra{ti:TI}{kt:Ty}(h:qai ti.ud kt=true):ti.kn=true:=by
 cases hq:ti.ud <;>rw [hq] at h <;>cases kt <;>simp [qai] at h <;>simp [TI.kn,hq,UD.isOther]
theorem z6{ud:UD}{kt:Ty}(h:qai ud kt=true):qin kt=true:=by
 cases ud <;>cases kt <;>simp [qai] at h <;>rfl
theorem qrf(R:RelH w I μ h)(G:GOK g h){b:Nat}{kt vt:Ty}{l:List (kt.den×vt.den)}{v:Value}(hkey:qin kt=true)(hv:Rep w I h μ v (.mptr b))(hgb:g b= .mp kt vt l):
  ∃q es c,v= .map (some q)∧h[b]? =some (.mp kt vt l)∧μ b=some q∧w.heap[q]? =some (.map es c)∧PW kt vt es.toList l∧qqe kt vt es c l:=by
 have hb:=G.some hgb (by simp)
 cases hv with
 |mptr _ q hp=>
  obtain⟨x,hx,_,h2⟩:=hp
  rw [hb] at hx;cases hx
  have hm:uc w I μ b kt vt l:=R.blk b _ hb
  rw [uc.of hkey] at hm
  obtain⟨q',es,c,k1,k2,k3,k4,k5⟩:=hm
  have k0:=h2 (by simp)
  rw [k0] at k1;cases k1
  exact⟨q,es,c,rfl,hb,k0,k2,⟨by simpa using k3,fun n e x e1 e2=>k4 n e x (by simpa using e1) e2⟩,k3,k4,k5⟩
theorem qox(hE:EnvOK E)(R:RelH w I μ h){t:TypeId}{x i:Operand}{ok:Bool}{c:AV}{kt vt:Ty}{l:List (kt.den×vt.den)}(hc:Rep w I h μ (ρ i) c)
  (hat:qin kt=true→∃q es cl,ρ x= .map (some q)∧w.heap[q]? =some (.map es cl)∧PW kt vt es.toList l)
  (hf:qfc E (E.ti t).ud (.mp kt vt l) ok c=some fr):kj E ⟨dst,.lookup t x i ok,ty,pos,aft,gd⟩ ρ w I h μ fr:=by
 simp only [qfc] at hf
 split at hf
 ·rename_i k v kt vt l hud hgb
  injection hgb with g1 g2 g3
  subst g1;subst g2
  obtain rfl:=eq_of_heq g3
  obtain⟨hck,hf⟩:=ql hf
  simp only [Bool.and_eq_true] at hck
  obtain⟨⟨c1,c2⟩,c3⟩:=hck
  obtain⟨q,es,cl,e1,hq,hpw⟩:=hat (z6 c1)
  have hund:E.P.underlying t=some (.map k v):=by
   have:=hE.und t (qq9 hud)
   rw [hud] at this
   exact this
  obtain⟨d,hd,hkd⟩:=qq7 (hE.und k (qra c1)) c1
  split at hf
  ·rename_i n hn
   have hkn:=ua hc hn
   have hik:=qq6 hkd hkn
   have hvt:(E.ti v).ty=some vt:=by
    unfold jfa at c3
    split at c3
    ·rename_i u hu;rw [hu,of_decide_eq_true c3]
    ·cases c3
   obtain⟨iv,z,z1,z2,z3⟩:=q8d hE hvt c2
   have hzero:(zeroValue v).run E.P w= .ok z w:=by simp [zeroValue,typeInfo,z1,z2]
   have key: ∃u:Value,(Instr.lookup t (ρ x) (ρ i) ok).run E.P w= .ok (if ok then .tuple #[u,.bool (qtu kt vt n l)] else u) w∧ElD vt (qns kt vt n l) u:=by
    rcases qe0 (vt:=vt) hkd hkn es.toList l 0 hpw with⟨f1,f2,f3,_⟩|⟨j,e,y,f1,f2,f3,f4,f5,_,_⟩
    ·refine ⟨z, ?_, by rw [f3]; exact z3⟩
     rw [e1,f1]
     simp [Instr.lookup,run_underlying hund,Go.MapKept.run_getObj_map hq,run_checkKey hd hik,run_findKey hd f2,hzero,Result.andThen]
    ·refine ⟨e.val, ?_, by rw [f5]; exact (hpw.2 j e y f1 f2).2⟩
     rw [e1,f4]
     simp [Instr.lookup,run_underlying hund,Go.MapKept.run_getObj_map hq,run_checkKey hd hik,run_findKey hd f3,Result.andThen]
   obtain⟨u,hrun,hu⟩:=key
   cases ok with
   |true=>
    cases hf
    refine .quiet R rfl _ (jk hrun) ?_
    refine .tup _ _ rfl fun j a b h1 h2=> ?_
    match j with
    |0=>simp at h1 h2;subst h1;subst h2;exact qvz c2 hu
    |1=>simp at h1 h2;subst h1;subst h2;exact .bool _
    |j+2=>simp at h1
   |false=>
    cases hf
    exact .quiet R rfl _ (jk hrun) (qvz c2 hu)
  ·cases hf
 ·cases hf
theorem q0n(hE:EnvOK E)(R:RelH w I μ h)(G:GOK g h){t:TypeId}{x i:Operand}{ok:Bool}{vs:List AV}(hv:kw w I h μ ρ (q8 E ⟨dst,.lookup t x i ok,ty,pos,aft,gd⟩) vs)
  (hf:qj E ⟨dst,.lookup t x i ok,ty,pos,aft,gd⟩ vs g b0=some fr):kj E ⟨dst,.lookup t x i ok,ty,pos,aft,gd⟩ ρ w I h μ fr:=by
 match vs,hv with
 | [m, c], hv =>
  obtain⟨hm,hc,_⟩:=hv
  cases m with
  | mptr b =>
   simp only [qj] at hf
   cases hgb:g b with
   |mp kt vt l=>
    rw [hgb] at hf
    refine qox hE R hc (fun hk=> ?_) hf
    obtain⟨q,es,cl,e1,_,_,hq,hpw,_⟩:=qrf R G hk hm hgb
    exact⟨q,es,cl,e1,hq,hpw⟩
   |_=>rw [hgb] at hf;simp [qfc] at hf
  |fmap kt vt l=>
   simp only [qj] at hf
   refine qox hE R hc (fun hk=> ?_) hf
   generalize hq:ρ x=q at hm
   cases hm with
   |fmap _ _ _ q es cl hi hg hd=>exact⟨q,es,cl,rfl,hg,by simpa using hd.1,fun n e x e1 e2=>hd.2.1 n e x (by simpa using e1) e2⟩
  |_=>simp [qj] at hf
theorem qno(s:Array Nat)(b x:Nat):(s.push b).contains x=(s.contains x||(x==b)):=by
 rw [Bool.eq_iff_iff]
 simp
theorem qtq(es:Array MapEntry)(s:Array Nat)(b:Nat):(leftOf es (s.push b)).toList=(leftOf es s).toList.filter fun e=> !(e.born==b):=by
 unfold leftOf
 rw [Array.toList_filter,Array.toList_filter,List.filter_filter]
 refine List.filter_congr fun x _=> ?_
 rw [qno]
 cases s.contains x.born <;>cases x.born==b <;>rfl
theorem qic: ∀(L:List MapEntry) (j:Nat) (e:MapEntry),(L.map (·.born)).Nodup→L[j]? =some e→L.filter (fun x=> !(x.born==e.born))=L.eraseIdx j
 |[],j,e,_,h=>by simp at h
 |a::L,0,e,hn,h=>by
  simp at h
  subst h
  simp only [List.map_cons,List.nodup_cons] at hn
  simp only [List.eraseIdx_cons_zero]
  rw [List.filter_cons_of_neg (by simp)]
  refine List.filter_eq_self.2 fun x hx=> ?_
  simp only [Bool.not_eq_true',beq_eq_false_iff_ne]
  intro he
  exact hn.1 (List.mem_map.2 ⟨x,hx,he⟩)
 |a::L,j+1,e,hn,h=>by
  simp only [List.map_cons,List.nodup_cons] at hn
  have h:L[j]? =some e:=by simpa using h
  simp only [List.eraseIdx_cons_succ]
  rw [List.filter_cons_of_pos,qic L j e hn.2 h]
  simp only [Bool.not_eq_true',beq_eq_false_iff_ne]
  intro he
  exact hn.1 (List.mem_map.2 ⟨e,List.mem_of_getElem? h,he.symm⟩)
theorem ItD.new{k v:Ty}{es:Array MapEntry}{c:Nat}{l:List (k.den×v.den)}(h:qqe k v es c l):ItD k v es c c c #[] (qbl k v l):=by
 have e:leftOf es #[]=es:=by
  unfold leftOf
  exact Array.filter_eq_self.2 fun x _=>by simp
 refine⟨h.2.2.1,rfl,Nat.le_refl _,h.2.2.2,by rw [e];simp [qbl,h.1],by simp [qbl],fun n e' x e1 e2=> ?_,fun x hx hb=> ?_⟩
 ·rw [e] at e1
  have e2:(l.map fun x=>((false,x.1),x.2))[n]? =some x:=e2
  rw [List.getElem?_map] at e2
  cases hq:l[n]? with
  |none=>rw [hq] at e2;cases e2
  |some y=>rw [hq] at e2;cases e2;exact h.2.1 n e' y e1 hq
 ·have hx : some (((false, k.zero), v.zero) : (Bool × k.den) × v.den) = some x := hx
  cases hx
  cases hb
theorem RelH.stepIt(R:RelH w I μ h){b:Nat}{k v:Ty}{l:List ((Bool×k.den)×v.den)}{u:Value}(hr:Rep w I h μ u (.ptr b 0))(hb:h[b]? =some (.mp (.pair .bool k) v l)):
  ∃v' w' x' h' μ',(Instr.next u false ty).run E.P w= .ok v' w'∧Rep w' I h' μ' v' x'∧RelH w' I μ' h'∧Fr w (Wr h μ) I w' (Wr h' μ') I∧HM h μ h' μ'∧
   ((l.tail=[]∧x'= .tup [.f]∧h'=h)∨∃j,j<l.tail.length∧x'= .tup [.t,.junk,.junk]∧h'=qe h b (.mp (.pair .bool k) v (qtj k v l j))):=by
 obtain⟨r,q,es,c,since,c0,seen,h1,h2,h3,h4,i1,i2,i3,i4,i5,i6,i7,i8⟩:=(show uc w I μ b (.pair .bool k) v l from R.blk b _ hb)
 subst i2
 cases hr with
 | ptr _ _ r' hp =>
  obtain⟨x,hx,_,hp2⟩:=hp
  rw [hb] at hx;cases hx
  have:=hp2 (by simp)
  rw [this] at h1;cases h1
  rcases run_next_at (P:=E.P) w ty r q since c0 seen es c0 h2 h4 i1 i3 with⟨hz,hrun⟩|⟨e,he,w1,hal,hrun⟩
  ·refine ⟨_, w, .tup [.f], h, μ, hrun, ?_, R, Fr.refl _ _ _, HM.refl _ _, .inl ⟨?_, rfl, rfl⟩⟩
   ·refine .tup _ _ rfl fun i v c e1 e2 => ?_
    match i with
    |0=>cases e1;cases e2;exact .f
    |n+1=>simp at e2
   ·exact List.eq_nil_of_length_eq_zero (by omega)
  ·obtain ⟨j, hj⟩ := List.getElem?_of_mem he
   have hjl:j<l.tail.length:=by
    rw [←i5]
    have:=(List.getElem?_eq_some_iff.1 hj).1
    simpa using this
   obtain⟨R1,F1⟩:RelH w1 I μ h∧Fr w (Wr h μ) I w1 (Wr h μ) I:=by
    rcases hal with rfl|rfl
    ·exact⟨R,Fr.refl _ _ _⟩
    ·exact R.drew
   have hr1:w1.heap[r]? =some (.mapIter (some q) since seen c0):=by rcases hal with rfl|rfl <;>exact h2
   have hq1:w1.heap[q]? =some (.map es c0):=by rcases hal with rfl|rfl <;>exact h4
   have hqr:q≠r:=by rintro rfl;rw [h2] at h4;cases h4
   have hset:=heap_set (w:=w1) (o':= .mapIter (some q) since (seen.push e.born) c0) hr1
   have hmem:e∈es.toList:=by
    have:e∈(leftOf es seen).toList:=he
    unfold leftOf at this
    rw [Array.toList_filter] at this
    exact(List.mem_filter.1 this).1
   have hx0:l.tail[j]? =some l.tail[j]:=List.getElem?_eq_getElem hjl
   have hg0:qio k v l j=l.tail[j]:=by unfold qio;rw [hx0];rfl
   have hcor:=i7 j e l.tail[j] (by rw [←Array.getElem?_toList];exact hj) hx0
   have hnl:((leftOf es seen).toList.map (·.born)).Nodup:=by
    unfold leftOf
    rw [Array.toList_filter]
    exact(List.filter_sublist.map _).nodup i4
   have hle:(leftOf es (seen.push e.born)).toList=(leftOf es seen).toList.eraseIdx j:=by
    rw [qtq,qic _ j e hnl hj]
   obtain⟨r1,r2,r3⟩:=R1.writeMp (w':=Go.ChangeMaps.setBlock w1 r (.mapIter (some q) since (seen.push e.born) c0)) (kt:= .pair .bool k) (vt:=v) (l':=qtj k v l j) hb this hr1 (fun _ _ _ e=>by cases e) hset.1 trivial hset.2 rfl rfl rfl (by simp [Go.ChangeMaps.setBlock]) (by
    refine⟨r,q,es,c0,since,c0,seen.push e.born,this,hset.1,h3,(hset.2 q hqr).trans hq1,i1,rfl,i3,i4, ?_,by simp [qtj],fun n e' x e1 e2=> ?_,fun x hx _=> ?_⟩
    ·rw [← Array.length_toList, hle, List.length_eraseIdx]
     have:(leftOf es seen).toList.length=l.tail.length:=by rw [Array.length_toList];exact i5
     show _=(l.tail.eraseIdx j).length
     rw [List.length_eraseIdx,this]
    ·rw [← Array.getElem?_toList, hle, List.getElem?_eraseIdx] at e1
     have e2:(l.tail.eraseIdx j)[n]? =some x:=e2
     rw [List.getElem?_eraseIdx] at e2
     split at e1
     ·rename_i hn
      rw [if_pos hn] at e2
      exact i7 n e' x (by rw [←Array.getElem?_toList];exact e1) e2
     ·rename_i hn
      rw [if_neg hn] at e2
      exact i7 (n+1) e' x (by rw [←Array.getElem?_toList];exact e1) e2
    ·have hx : some (((true, (qio k v l j).1.2), (qio k v l j).2) : (Bool × k.den) × v.den) = some x := hx
     cases hx
     refine⟨e,hmem, ?_, ?_,seen,rfl⟩
     ·show yt k (qio k v l j).1.2 e.key
      rw [hg0];exact hcor.1
     ·show ElD v (qio k v l j).2 e.val
      rw [hg0];exact hcor.2)
   refine⟨_,_,.tup [.t,.junk,.junk],_,μ,hrun, ?_,r1,F1.trans r2,r3,.inr ⟨j,hjl,rfl,rfl⟩⟩
   refine .tup _ _ rfl fun i v c e1 e2=> ?_
   match i with
   |0=>cases e1;cases e2;exact .t
   |1=>cases e1;cases e2;exact .junk _
   |2=>cases e1;cases e2;exact .junk _
   |n+3=>simp at e2
theorem RelH.newIt(R:RelH w I μ h)(hb:b0≤h.length)(hh:h[b0]? =none∨h[b0]? =some .hole){k v:Ty}{l:List (k.den×v.den)}{q c:Nat}{es:Array MapEntry}(hi: ∀o,I q o)(hq:w.heap[q]? =some (.map es c))(hd:qqe k v es c l):
  Rep (w.alloc (.mapIter (some q) c #[] c)) I (qe h b0 (.mp (.pair .bool k) v (qbl k v l))) (upd μ b0 w.heap.size) (.pointer (some ⟨w.heap.size,0,none⟩)) (.ptr b0 0)∧
  RelH (w.alloc (.mapIter (some q) c #[] c)) I (upd μ b0 w.heap.size) (qe h b0 (.mp (.pair .bool k) v (qbl k v l)))∧
  Fr w (Wr h μ) I (w.alloc (.mapIter (some q) c #[] c)) (Wr (qe h b0 (.mp (.pair .bool k) v (qbl k v l))) (upd μ b0 w.heap.size)) I∧HM h μ (qe h b0 (.mp (.pair .bool k) v (qbl k v l))) (upd μ b0 w.heap.size):=by
 have hal:=heap_alloc w (.mapIter (some q) c #[] c)
 have hq':=(hal.2 q (Array.getElem?_eq_some_iff.1 hq).1).trans hq
 obtain⟨h2,h3,h4⟩:=R.layO hb hh (.mapIter (some q) c #[] c) trivial (.mp (.pair .bool k) v (qbl k v l)) (show uc _ _ _ _ (.pair .bool k) v _ from
  ⟨w.heap.size,q,es,c,c,c, #[],jy _ _ _,hal.1,hi,hq',ItD.new hd⟩)
 refine⟨.ptr b0 0 w.heap.size ⟨.mp (.pair .bool k) v (qbl k v l), ?_,by simp,fun _=>jy _ _ _⟩,h2,h3,h4⟩
 rw [qi _ h b0 b0 hb,if_pos rfl]
theorem qyv(hE:EnvOK E){t:TypeId}(hm:qq2 (E.ti t).ud=true): ∃k v,E.P.underlying t=some (.map k v):=by
 cases hud:(E.ti t).ud with
 |map k v=>
  have:=hE.und t (qq9 hud)
  rw [hud] at this
  exact⟨k,v,this⟩
 |_=>rw [hud] at hm;cases hm
theorem q4v(hE:EnvOK E)(R:RelH w I μ h)(G:GOK g h)(hb:b0≤h.length)(hh:h[b0]? =none∨h[b0]? =some .hole){t:TypeId}{x:Operand}{vs:List AV}(hv:kw w I h μ ρ (q8 E ⟨dst,.range t x,ty,pos,aft,gd⟩) vs)
  (hf:qj E ⟨dst,.range t x,ty,pos,aft,gd⟩ vs g b0=some fr):kj E ⟨dst,.range t x,ty,pos,aft,gd⟩ ρ w I h μ fr:=by
 match vs,hv with
 | [m], hv =>
  obtain⟨hm,_⟩:=hv
  cases m with
  | mptr b =>
   simp only [qj] at hf
   split at hf
   ·rename_i kt vt l hgb
    obtain⟨hck,hf⟩:=ql hf
    simp only [Bool.and_eq_true,Bool.not_eq_true'] at hck
    cases hf
    obtain⟨q,es,cl,e1,hbb,hμ,hq,_,hmd⟩:=qrf R G hck.1.2 hm hgb
    obtain⟨k,v,hund⟩:=qyv hE hck.1.1
    have hne:b≠b0:=fun e=>by rw [e,Nat.beq_refl] at hck;exact absurd hck.2 (by simp)
    obtain⟨I1,R1,F1,M1,hI⟩:=R.freezeMap hbb hμ
    have hlen:b≤h.length:=by
     have:=(List.getElem?_eq_some_iff.1 hbb).1
     omega
    obtain⟨r1,r2,r3,r4⟩:=R1.newIt (b0:=b0) (k:=kt) (v:=vt) (l:=l) (by
      have:=uh .gone h b hlen
      omega) (by rw [qi _ h b b0 hlen,if_neg (Ne.symm hne)];exact hh) hI hq hmd
    refine⟨_,_,_,I1,_,jk (s:=Instr.range t (ρ x)) (by rw [e1];exact run_range_map w t k v q es cl hund hq),.inl rfl,r1,r2,F1.trans r3,M1.trans r4⟩
   ·cases hf
  | fmap kt vt l =>
   simp only [qj] at hf
   obtain⟨hck,hf⟩:=ql hf
   cases hf
   obtain⟨k,v,hund⟩:=qyv hE hck
   generalize hq:ρ x=q at hm
   cases hm with
   |fmap _ _ _ q es cl hi hg hd=>
    obtain⟨r1,r2,r3,r4⟩:=R.newIt hb hh (k:=kt) (v:=vt) (l:=l) hi hg hd
    exact⟨_,_,_,I,_,jk (s:=Instr.range t (ρ x)) (by rw [hq];exact run_range_map w t k v q es cl hund hg),.inl rfl,r1,r2,r3,r4⟩
  |_=>simp [qj] at hf
theorem q4s (R : RelH w I μ h) (G : GOK g h) {x : Operand} {vs : List AV} (hv : kw w I h μ ρ (q8 E ⟨dst, .entry x, ty, pos, aft, gd⟩) vs)
  (hf:qj E ⟨dst,.entry x,ty,pos,aft,gd⟩ vs g b0=some fr):kj E ⟨dst,.entry x,ty,pos,aft,gd⟩ ρ w I h μ fr:=by
 match vs,hv with
 | [m], hv =>
  obtain⟨hm,_⟩:=hv
  cases m with
  | ptr b j =>
   cases j with
   |succ j=>simp [qj] at hf
   | zero =>
    simp only [qj] at hf
    split at hf
    ·rename_i kt vt l hgb
     split at hf
     ·rename_i y r
      split at hf
      ·rename_i hy
       obtain⟨hck,hf⟩:=ql hf
       simp only [Bool.and_eq_true] at hck
       cases hf
       have hb:=G.some hgb (by simp)
       obtain⟨r',q,es,c,since,c0,seen,h1,h2,h3,h4,i1,i2,i3,i4,i5,i6,i7,i8⟩:=(show uc w I μ b (.pair .bool kt) vt _ from R.blk b _ hb)
       obtain⟨e,he,d1,d2,s0,rfl⟩:=i8 y rfl hy
       subst i2
       generalize hq:ρ x=u at hm
       cases hm with
       |ptr _ _ rr hp=>
        obtain⟨z,hz,_,hp2⟩:=hp
        rw [hb] at hz;cases hz
        have:=hp2 (by simp)
        rw [this] at h1;cases h1
        refine .quiet R rfl _ (jk (s:=Instr.entry (ρ x)) (by rw [hq];exact run_entry_at w r' q since s0 es c0 e h2 h4 he i4)) ?_
        refine .tup _ _ rfl fun j a b h1 h2=> ?_
        match j with
        |0=>simp at h1 h2;subst h1;subst h2;exact qsz hck.1 d1
        |1=>simp at h1 h2;subst h1;subst h2;exact qvz hck.2 d2
        |j+2=>simp at h1
      ·cases hf
     ·cases hf
    ·cases hf
  |_=>simp [qj] at hf
theorem qrx (hE : EnvOK E) (R : RelH w I μ h) (G : GOK g h) {t : TypeId} {x i y : Operand} {vs : List AV} (hv : kw w I h μ ρ (q8 E ⟨dst, .mapUpdate t x i y, ty, pos, aft, gd⟩) vs)
  (hf:qj E ⟨dst,.mapUpdate t x i y,ty,pos,aft,gd⟩ vs g b0=some fr):kj E ⟨dst,.mapUpdate t x i y,ty,pos,aft,gd⟩ ρ w I h μ fr:=by
 match vs,hv with
 | [m, c, o], hv =>
  obtain⟨hm,hc,ho,_⟩:=hv
  cases m with
  | mptr b =>
   simp only [qj,qjr] at hf
   split at hf
   ·rename_i k v kt vt l hud hgb
    obtain⟨c1,hf⟩:=ql hf
    obtain⟨q,es,cl,e1,hb,hμ,hq,hpw,hmd⟩:=qrf R G (z6 c1) hm hgb
    have hund:E.P.underlying t=some (.map k v):=by
     have:=hE.und t (qq9 hud)
     rw [hud] at this
     exact this
    obtain⟨d,hd,hkd⟩:=qq7 (hE.und k (qra c1)) c1
    split at hf
    ·rename_i n a hn ha
     cases hf
     have hkn:=ua hc hn
     have han:=jdw ho ha
     have hik:=qq6 hkd hkn
     have hset:=heap_set (w:=w) (o':= .map #[] 0) hq
     have key: ∃es' cl',(Instr.mapUpdate t (ρ x) (ρ i) (ρ y)).run E.P w= .ok () { w with heap:=w.heap.setIfInBounds q (.map es' cl') }∧PW kt vt es'.toList (qri kt vt n a l)∧(∀e∈es'.toList,e.born<cl')∧(es'.toList.map (·.born)).Nodup:=by
      rcases qe0 (vt:=vt) hkd hkn es.toList l 0 hpw with⟨f1,f2,f3,f4⟩|⟨j,e,z,f1,f2,f3,f4,f5,f6,f7⟩
      ·refine ⟨es.push { key := ρ i, val := ρ y, born := cl }, cl + 1, ?_, ?_, ?_, ?_⟩
       rotate_left 2
       ·intro e he
        simp only [Array.toList_push,List.mem_append,List.mem_singleton] at he
        rcases he with he|rfl
        ·exact Nat.lt_succ_of_lt (hmd.2.2.1 e he)
        ·exact Nat.lt_succ_self cl
       ·simp only [Array.toList_push, List.map_append, List.map_cons, List.map_nil]
        refine List.nodup_append.2 ⟨hmd.2.2.2,by simp, ?_⟩
        intro a ha b hb
        simp only [List.mem_singleton] at hb
        obtain⟨e,he,rfl⟩:=List.mem_map.1 ha
        have:=hmd.2.2.1 e he
        omega
       ·rw [e1]
        simp [Instr.mapUpdate,run_underlying hund,Go.MapKept.run_getObj_map hq,run_checkKey hd hik,run_findKey hd f2,run_setObj_map _ hq,Result.andThen]
       ·rw [f4]
        refine⟨by simp [hpw.1],fun m e' x' g1 g2=> ?_⟩
        simp only [Array.toList_push] at g1
        rcases Nat.lt_trichotomy m es.toList.length with h1|h1|h1
        ·rw [List.getElem?_append_left h1] at g1
         rw [List.getElem?_append_left (by rw [←hpw.1];exact h1)] at g2
         exact hpw.2 m e' x' g1 g2
        ·subst h1
         rw [List.getElem?_append_right (Nat.le_refl _)] at g1
         rw [List.getElem?_append_right (by rw [hpw.1];exact Nat.le_refl _)] at g2
         simp [hpw.1] at g1 g2
         subst g1;subst g2
         exact⟨hkn,han⟩
        ·rw [List.getElem?_eq_none (by simp at h1 ⊢; omega)] at g1
         cases g1
      ·have hj : es[j]? = some e := by simpa using f1
       have hborn:(es.modify j fun e=>{ e with key:=ρ i,val:=ρ y }).toList.map (·.born)=es.toList.map (·.born):=by
        apply List.ext_getElem?
        intro m
        rw [List.getElem?_map,List.getElem?_map,Array.getElem?_toList,Array.getElem?_modify,Array.getElem?_toList]
        by_cases hjm:j=m
        ·subst hjm;rw [if_pos rfl];cases es[j]? <;>rfl
        ·rw [if_neg hjm]
       refine⟨es.modify j fun e=>{ e with key:=ρ i,val:=ρ y },cl, ?_, ?_, ?_,by rw [hborn];exact hmd.2.2.2⟩
       rotate_left 2
       ·intro e he
        have:e.born∈(es.modify j fun e=>{ e with key:=ρ i,val:=ρ y }).toList.map (·.born):=List.mem_map.2 ⟨e,he,rfl⟩
        rw [hborn] at this
        obtain⟨e0,he0,h0⟩:=List.mem_map.1 this
        rw [←h0]
        exact hmd.2.2.1 e0 he0
       ·rw [e1]
        simp [Instr.mapUpdate,run_underlying hund,Go.MapKept.run_getObj_map hq,run_checkKey hd hik,run_findKey hd f3,hj,←f6,run_keyThatStays hik,run_setObj_map _ hq,Result.andThen]
       ·rw [f7]
        refine⟨by simpa using hpw.1,fun m e' x' g1 g2=> ?_⟩
        rw [Array.getElem?_toList,Array.getElem?_modify] at g1
        rw [List.getElem?_set] at g2
        by_cases hjm:j=m
        ·subst hjm
         rw [if_pos rfl,hj] at g1
         have hjl:j<l.length:=(List.getElem?_eq_some_iff.1 f2).1
         rw [if_pos rfl,if_pos hjl] at g2
         simp at g1 g2
         subst g1;subst g2
         have:=hpw.2 j e z f1 f2
         refine⟨?_,han⟩
         first|exact this.1|(simp only;rw [f6];exact this.1)
        ·rw [if_neg hjm] at g1 g2
         exact hpw.2 m e' x' (by simpa using g1) g2
     obtain⟨es',cl',hrun,hpw',hst',hnd'⟩:=key
     have hset:=heap_set (w:=w) (o':= .map es' cl') hq
     obtain⟨r1,r2,r3⟩:=R.writeMap (w':={ w with heap:=w.heap.setIfInBounds q (.map es' cl') }) hb hμ hq hset.1 hset.2 rfl rfl rfl (by simp) (z6 c1) ⟨by simpa using hpw'.1,fun m e' x' g1 g2=>hpw'.2 m e' x' (by simpa using g1) g2,hst',hnd'⟩
     exact⟨undef,_,_,I,μ,qui hrun,.inr ⟨rfl,rfl⟩,.junk _,r1,r2,r3⟩
    ·cases hf
   ·cases hf
  |_=>simp [qj] at hf
theorem q0m (hE : EnvOK E) (R : RelH w I μ h) (G : GOK g h) {t : TypeId} {x i y : Operand} {vs : List AV} (hv : kw w I h μ ρ (q8 E ⟨dst, .insert t x i y, ty, pos, aft, gd⟩) vs)
  (hf:qj E ⟨dst,.insert t x i y,ty,pos,aft,gd⟩ vs g b0=some fr):kj E ⟨dst,.insert t x i y,ty,pos,aft,gd⟩ ρ w I h μ fr:=by
 match vs,hv with
 | [m, c, o], hv =>
  obtain⟨hm,hc,ho,_⟩:=hv
  cases m with
  | mptr b =>
   simp only [qj,qjr] at hf
   split at hf
   ·rename_i k v kt vt l hud hgb
    obtain⟨c1,hf⟩:=ql hf
    obtain⟨q,es,cl,e1,hb,hμ,hq,hpw,hmd⟩:=qrf R G (z6 c1) hm hgb
    have hund:E.P.underlying t=some (.map k v):=by
     have:=hE.und t (qq9 hud)
     rw [hud] at this
     exact this
    obtain⟨d,hd,hkd⟩:=qq7 (hE.und k (qra c1)) c1
    split at hf
    ·rename_i n a hn ha
     cases hf
     have hkn:=ua hc hn
     have han:=jdw ho ha
     have hik:=qq6 hkd hkn
     have hset:=heap_set (w:=w) (o':= .map #[] 0) hq
     have key: ∃es' cl',(Instr.mapUpdate t (ρ x) (ρ i) (ρ y)).run E.P w= .ok () { w with heap:=w.heap.setIfInBounds q (.map es' cl') }∧PW kt vt es'.toList (qri kt vt n a l)∧(∀e∈es'.toList,e.born<cl')∧(es'.toList.map (·.born)).Nodup:=by
      rcases qe0 (vt:=vt) hkd hkn es.toList l 0 hpw with⟨f1,f2,f3,f4⟩|⟨j,e,z,f1,f2,f3,f4,f5,f6,f7⟩
      ·refine ⟨es.push { key := ρ i, val := ρ y, born := cl }, cl + 1, ?_, ?_, ?_, ?_⟩
       rotate_left 2
       ·intro e he
        simp only [Array.toList_push,List.mem_append,List.mem_singleton] at he
        rcases he with he|rfl
        ·exact Nat.lt_succ_of_lt (hmd.2.2.1 e he)
        ·exact Nat.lt_succ_self cl
       ·simp only [Array.toList_push, List.map_append, List.map_cons, List.map_nil]
        refine List.nodup_append.2 ⟨hmd.2.2.2,by simp, ?_⟩
        intro a ha b hb
        simp only [List.mem_singleton] at hb
        obtain⟨e,he,rfl⟩:=List.mem_map.1 ha
        have:=hmd.2.2.1 e he
        omega
       ·rw [e1]
        simp [Instr.mapUpdate,run_underlying hund,Go.MapKept.run_getObj_map hq,run_checkKey hd hik,run_findKey hd f2,run_setObj_map _ hq,Result.andThen]
       ·rw [f4]
        refine⟨by simp [hpw.1],fun m e' x' g1 g2=> ?_⟩
        simp only [Array.toList_push] at g1
        rcases Nat.lt_trichotomy m es.toList.length with h1|h1|h1
        ·rw [List.getElem?_append_left h1] at g1
         rw [List.getElem?_append_left (by rw [←hpw.1];exact h1)] at g2
         exact hpw.2 m e' x' g1 g2
        ·subst h1
         rw [List.getElem?_append_right (Nat.le_refl _)] at g1
         rw [List.getElem?_append_right (by rw [hpw.1];exact Nat.le_refl _)] at g2
         simp [hpw.1] at g1 g2
         subst g1;subst g2
         exact⟨hkn,han⟩
        ·rw [List.getElem?_eq_none (by simp at h1 ⊢; omega)] at g1
         cases g1
      ·have hj : es[j]? = some e := by simpa using f1
       have hborn:(es.modify j fun e=>{ e with key:=ρ i,val:=ρ y }).toList.map (·.born)=es.toList.map (·.born):=by
        apply List.ext_getElem?
        intro m
        rw [List.getElem?_map,List.getElem?_map,Array.getElem?_toList,Array.getElem?_modify,Array.getElem?_toList]
        by_cases hjm:j=m
        ·subst hjm;rw [if_pos rfl];cases es[j]? <;>rfl
        ·rw [if_neg hjm]
       refine⟨es.modify j fun e=>{ e with key:=ρ i,val:=ρ y },cl, ?_, ?_, ?_,by rw [hborn];exact hmd.2.2.2⟩
       rotate_left 2
       ·intro e he
        have:e.born∈(es.modify j fun e=>{ e with key:=ρ i,val:=ρ y }).toList.map (·.born):=List.mem_map.2 ⟨e,he,rfl⟩
        rw [hborn] at this
        obtain⟨e0,he0,h0⟩:=List.mem_map.1 this
        rw [←h0]
        exact hmd.2.2.1 e0 he0
       ·rw [e1]
        simp [Instr.mapUpdate,run_underlying hund,Go.MapKept.run_getObj_map hq,run_checkKey hd hik,run_findKey hd f3,hj,←f6,run_keyThatStays hik,run_setObj_map _ hq,Result.andThen]
       ·rw [f7]
        refine⟨by simpa using hpw.1,fun m e' x' g1 g2=> ?_⟩
        rw [Array.getElem?_toList,Array.getElem?_modify] at g1
        rw [List.getElem?_set] at g2
        by_cases hjm:j=m
        ·subst hjm
         rw [if_pos rfl,hj] at g1
         have hjl:j<l.length:=(List.getElem?_eq_some_iff.1 f2).1
         rw [if_pos rfl,if_pos hjl] at g2
         simp at g1 g2
         subst g1;subst g2
         have:=hpw.2 j e z f1 f2
         refine⟨?_,han⟩
         first|exact this.1|(simp only;rw [f6];exact this.1)
        ·rw [if_neg hjm] at g1 g2
         exact hpw.2 m e' x' (by simpa using g1) g2
     obtain⟨es',cl',hrun,hpw',hst',hnd'⟩:=key
     have hset:=heap_set (w:=w) (o':= .map es' cl') hq
     obtain⟨r1,r2,r3⟩:=R.writeMap (w':={ w with heap:=w.heap.setIfInBounds q (.map es' cl') }) hb hμ hq hset.1 hset.2 rfl rfl rfl (by simp) (z6 c1) ⟨by simpa using hpw'.1,fun m e' x' g1 g2=>hpw'.2 m e' x' (by simpa using g1) g2,hst',hnd'⟩
     exact⟨undef,_,_,I,μ,qui hrun,.inr ⟨rfl,rfl⟩,.junk _,r1,r2,r3⟩
    ·cases hf
   ·cases hf
  |_=>simp [qj] at hf
end
end Go.AM
namespace Go.AM
set_option linter.unusedSectionVars false
variable [Lay]
section
variable {E:Env} {w w':World} {I I':Nat→Nat→Prop} {h h':qa} {μ μ':Nat→Option Nat} {ρ:Operand→Value} {g:Nat→AB} {b0:Nat} {fr:FR}
variable {dst:Option Tmp} {ty:TypeId} {pos:String} {aft:Array Edge} {gd:Option (Nat×Bool)}
theorem RelH.more(R:RelH w I μ h)(ob:Obj)(n:Nat):
  RelH (w.alloc ob) (fun q o=>I q o∨(q=w.heap.size∧o<n)) μ h∧Fr w (Wr h μ) I (w.alloc ob) (Wr h μ) (fun q o=>I q o∨(q=w.heap.size∧o<n)):=by
 have hheap: ∀q,q<w.heap.size→(w.alloc ob).heap[q]? =w.heap[q]? :=fun q hq=>RowKit.Below.heap_alloc w _ q hq
 have hsz:(w.alloc ob).heap.size=w.heap.size+1:=by show(w.heap.push _).size=_;simp
 have F:Fr w (Wr h μ) I (w.alloc ob) (Wr h μ) (fun q o=>I q o∨(q=w.heap.size∧o<n)):=by
  refine⟨rfl,rfl,rfl,by omega,fun q hq _=>hheap q hq,fun q vs e fz hq hv=>⟨vs,(hheap q hq).trans hv,rfl,fun _ _=>rfl⟩,fun q hq hg x hx=> ?_,fun q o hw=> .inl hw,fun _ _ h=> .inl h,fun q o hi=> ?_⟩
  ·rw [hheap q hq] at hx;exact hg x hx
  ·rcases hi with hi | ⟨rfl, _⟩
   ·exact .inl hi
   ·exact .inr (.inr (Nat.le_refl _))
 refine⟨⟨R.inj,fun i x q hi lx hq=>Nat.lt_of_lt_of_le (R.lt i x q hi lx hq) (by omega),fun i x hi=> ?_,fun q o hi hw=> ?_,fun q o hi=> ?_,R.laid.step R.disj R.ilt F⟩,F⟩
 ·have hc := R.keptI F
  cases x with
  |hole=>trivial
  |gone=>trivial
  |_=>exact zm.mono (HM.refl h μ) F.shape hc F.im (fun _=>rfl) (fun q hq=>hheap q (R.lt i _ q hi trivial hq)) (R.blk i _ hi)
 ·rcases hi with hi | ⟨rfl, _⟩
  ·exact R.disj q o hi hw
  ·obtain ⟨i, hi, hx⟩ := hw
   have:w.heap.size<w.heap.size:=by
    rcases hx with⟨_,hx⟩|⟨_,_,hx⟩|⟨_,_,hx,_⟩|⟨_,_,_,hx⟩ <;>exact R.lt i _ _ hx trivial hi
   omega
 ·rcases hi with hi | ⟨rfl, _⟩
  ·exact Nat.lt_of_lt_of_le (R.ilt q o hi) (by omega)
  ·omega
theorem qvt (R : RelH w I μ h) (G : GOK g h) {v : Value} {y : AV} {l : List Int} (r : Rep w I h μ v y) (hy : gt g (.int .u8) y = some l) :
  (v= .slice none 0 0∧l=[])∨∃a c,v= .slice a l.length c∧(l=[]∨∃q o,a=some ⟨q,o,none⟩∧∀i (hi:i<l.length),w.cell? ⟨q,o+i,none⟩=some (.int .u8 l[i])):=by
 cases r with
 |nilsl=>cases hy;exact .inl ⟨rfl,rfl⟩
 | sl t' l' full a n cap hr hf =>
  simp only [gt] at hy
  split at hy
  ·rename_i e
   subst e
   cases hy
   right
   cases hr with
   | sl _ _ _ _ cs hcap hel hat =>
    refine⟨a,cap,rfl, ?_⟩
    by_cases h0:l'.length=0
    ·exact .inl (List.eq_nil_of_length_eq_zero h0)
    ·obtain ⟨q, o, ha, hc⟩ := hat (by omega)
     refine .inr ⟨q,o,ha,fun i hi=> ?_⟩
     have he:=hel i hi
     have hcs:cs i=[.int .u8 l'[i]]:=by
      generalize cs i=z at he
      cases he
      rfl
     have:=(hc i hi 0 (.int .u8 l'[i]) (by rw [hcs];rfl)).1
     simpa [Ty.sz] using this
  ·cases hy
 | own t' b full a n cap ho =>
  simp only [gt] at hy
  split at hy
  ·rename_i u l' frz hgb
   split at hy
   ·rename_i e
    obtain⟨e1,e2⟩:=e
    subst e1
    subst e2
    cases hy
    right
    have hb:=G.some hgb (by simp)
    obtain⟨x,hx,_,h3⟩:=ho
    rw [hb] at hx
    cases hx
    obtain⟨_,hn,_,_,h5⟩:=h3 _ _ _ rfl
    subst hn
    refine⟨a,cap,rfl, ?_⟩
    by_cases h0:l'.length=0
    ·exact .inl (List.eq_nil_of_length_eq_zero h0)
    ·rcases h5 with ⟨h5, _⟩ | ⟨q, vs, e', f1, f2, f3, f4⟩
     ·exact absurd h5 h0
     ·refine .inr ⟨q, 0, f2, fun i hi => ?_⟩
      rcases R.blk b _ hb with hnil|⟨q',vs',e2,k1,k2,k3,k4,_⟩
      ·rw [hnil] at hi;simp at hi
      ·rw [f1] at k1; cases k1
       obtain⟨fz3,f3,_⟩:=f3
       obtain⟨fz4,k2,_⟩:=k2
       rw [f3] at k2;cases k2
       have he:=k4 i hi
       have hrow:(vs.toList.drop (i*1)).take 1=[.int .u8 l'[i]]:=by
        have he:RD w I (.int .u8) l'[i] ((vs.toList.drop (i*1)).take 1):=he
        generalize (vs.toList.drop (i*1)).take 1=z at he
        cases he
        rfl
       have qd:vs[i]? =some (.int .u8 l'[i]):=by
        have:=congrArg (fun z:List Value=>z[0]?) hrow
        simpa using this
       unfold World.cell?
       simp [f3,qd]
   ·cases hy
  ·cases hy
 |_=>cases hy
theorem q4r(hE:EnvOK E)(R:RelH w I μ h)(G:GOK g h)(hb:b0≤h.length)(hh:h[b0]? =none∨h[b0]? =some .hole){s d:TypeId}{x:Operand}{v:AV}(hx:Rep w I h μ (ρ x) v)(hf:q2i E (E.ti s).ud (E.ti d).ud g b0 v=some fr):
  kj E ⟨dst,.convert s d x,ty,pos,aft,gd⟩ ρ w I h μ fr:=by
 have u8: ∀e,q68 (E.ti e)=true→E.P.underlying e=some (.int .u8):=by
  intro e he
  unfold q68 at he
  split at he
  ·rename_i hud
   have:=hE.und e (j7 (by rw [hud];rfl))
   rw [hud] at this
   exact this
  ·cases he
 unfold q2i at hf
 split at hf
 ·rename_i e s' hsu hdu
  obtain⟨hck,hf⟩:=ql hf
  have hs:=hE.und s (j7 (by rw [hsu];rfl))
  rw [hsu] at hs
  have hd:=hE.und d (j7 (by rw [hdu];rfl))
  rw [hdu] at hd
  have hs:E.P.underlying s=some .string:=hs
  have hd:E.P.underlying d=some (.slice e):=hd
  have ev:=ji hx
  have hrun:=run_bytes_of_string (P:=E.P) w s d e ⟨s'.toArray⟩ hs hd (u8 e hck)
  obtain⟨R1,F1⟩:=R.drew
  have hsz:(⟨s'.toArray⟩:ByteArray).size=s'.length:=by simp [ByteArray.size]
  have hcap:=grownCap_ge w (⟨s'.toArray⟩:ByteArray).size 0 e
  have hlen:(qp s').length=s'.length:=by simp [qp]
  split at hf
  ·-- one's own
   cases hf
   rw [hsz] at hrun hcap
   have hbs:(bytesRow ⟨s'.toArray⟩ (grownCap w s'.length 0 e)).size=grownCap w s'.length 0 e:=by
    unfold bytesRow
    rw [Array.size_append,Array.size_map,Array.size_replicate,hsz]
    show s'.toArray.size+_=_
    simp
    omega
   have hrow:jh w.drew I (.int .u8) (qp s') (bytesRow ⟨s'.toArray⟩ (grownCap w s'.length 0 e)).toList:=by
    have hrl:(bytesRow ⟨s'.toArray⟩ (grownCap w s'.length 0 e)).toList.length=grownCap w s'.length 0 e:=by rw [Array.length_toList,hbs]
    have hsz1:Ty.sz (.int .u8)=1:=rfl
    refine⟨by rw [hrl,hsz1];omega,fun k hk=> ?_⟩
    have hk':k<s'.length:=by rw [←hlen];exact hk
    have hcell:((bytesRow ⟨s'.toArray⟩ (grownCap w s'.length 0 e)).toList.drop (k*Ty.sz (.int .u8))).take (Ty.sz (.int .u8))=[.int .u8 ((qp s')[k])]:=by
     show(List.drop (k*1) _).take 1=_
     rw [Nat.mul_one]
     have hlt:k<(bytesRow ⟨s'.toArray⟩ (grownCap w s'.length 0 e)).toList.length:=by rw [Array.length_toList,hbs];omega
     rw [List.drop_eq_getElem_cons hlt]
     simp only [List.take_succ_cons,List.take_zero]
     congr 1
     rw [Array.getElem_toList]
     have hq:(bytesRow ⟨s'.toArray⟩ (grownCap w s'.length 0 e))[k]? =some (.int .u8 ((qp s')[k])):=by
      unfold bytesRow
      rw [Array.getElem?_append_left (by simpa using hk')]
      simp [qp,hk']
     exact(Array.getElem?_eq_some_iff.1 hq).2
    rw [hcell]
    exact .int _ _
   obtain⟨r1,r2,r3,r4⟩:=qtp R1 hb hh hrow e (grownCap w s'.length 0 e) false ((bytesRow ⟨s'.toArray⟩ (grownCap w s'.length 0 e)).size,(bytesRow ⟨s'.toArray⟩ (grownCap w s'.length 0 e)).size+1) (.inr ⟨rfl,Nat.le_refl _⟩) (by rw [hlen];exact hcap) (fun hh=>by cases hh) (by show _*1≤_;rw [hbs];omega)
   rw [hlen] at r1
   exact⟨_,_,_,I,upd μ b0 w.drew.heap.size,jk (s:=convert s d (ρ x)) (by rw [ev];exact hrun),.inl rfl,r1,r2,F1.trans r3,r4⟩
  cases hf
  obtain⟨R2,F2⟩:=R1.more (.cells (bytesRow ⟨s'.toArray⟩ (grownCap w (⟨s'.toArray⟩:ByteArray).size 0 e)) e ((bytesRow ⟨s'.toArray⟩ (grownCap w (⟨s'.toArray⟩:ByteArray).size 0 e)).size,(bytesRow ⟨s'.toArray⟩ (grownCap w (⟨s'.toArray⟩:ByteArray).size 0 e)).size+1)) s'.length
  rw [hsz] at hrun R2 F2 hcap
  refine⟨_,_,_,_,_,jk (s:=convert s d (ρ x)) (by rw [ev];exact hrun),.inl rfl, ?_,R2,F1.trans F2,HM.refl _ _⟩
  refine .sl (.int .u8) (qp s') false _ _ _ ?_ (fun hh=>by cases hh)
  have key:RD (w.drew.alloc (.cells (bytesRow ⟨s'.toArray⟩ (grownCap w s'.length 0 e)) e ((bytesRow ⟨s'.toArray⟩ (grownCap w s'.length 0 e)).size,(bytesRow ⟨s'.toArray⟩ (grownCap w s'.length 0 e)).size+1))) (fun q o=>I q o∨(q=w.drew.heap.size∧o<s'.length)) (.sl (.int .u8)) (qp s') [.slice (some ⟨w.heap.size,0,none⟩) (qp s').length (grownCap w s'.length 0 e)]:=by
   refine .sl (.int .u8) (qp s') _ _ (fun i=>[.int .u8 ((qp s').getD i 0)]) (by rw [hlen];exact hcap) (fun i hi=> ?_) (fun _=>⟨w.heap.size,0,rfl,fun i hi j u hu=> ?_⟩)
   ·have : (qp s').getD i 0 = (qp s')[i] := by simp [List.getD_eq_getElem?_getD, hi]
    rw [this]
    exact .int _ _
   ·have hi' : i < s'.length := by rw [← hlen]; exact hi
    cases j with
    |succ j=>simp at hu
    | zero =>
     simp at hu
     subst hu
     refine⟨?_,.inr ⟨rfl,by simpa [Ty.sz] using hi'⟩⟩
     have hb:(w.drew.alloc (.cells (bytesRow ⟨s'.toArray⟩ (grownCap w s'.length 0 e)) e ((bytesRow ⟨s'.toArray⟩ (grownCap w s'.length 0 e)).size,(bytesRow ⟨s'.toArray⟩ (grownCap w s'.length 0 e)).size+1))).heap[w.heap.size]? =some (.cells (bytesRow ⟨s'.toArray⟩ (grownCap w s'.length 0 e)) e ((bytesRow ⟨s'.toArray⟩ (grownCap w s'.length 0 e)).size,(bytesRow ⟨s'.toArray⟩ (grownCap w s'.length 0 e)).size+1)):=by
      show(w.heap.push _)[w.heap.size]? =_
      simp
     unfold World.cell?
     simp only [Option.isSome_none,Bool.false_eq_true,if_false,hb]
     unfold bytesRow
     rw [Array.getElem?_append_left (by simpa [Ty.sz] using hi')]
     simp [Ty.sz,qp,hi']
  rw [hlen] at key
  exact key
 ·rename_i e hsu hdu
  obtain⟨hck,hf⟩:=ql hf
  split at hf
  ·rename_i l hl
   cases hf
   have hs:=hE.und s (j7 (by rw [hsu];rfl))
   rw [hsu] at hs
   have hd:=hE.und d (j7 (by rw [hdu];rfl))
   rw [hdu] at hd
   have hs:E.P.underlying s=some (.slice e):=hs
   have hd:E.P.underlying d=some .string:=hd
   have nil:(⟨(jm []).toArray⟩:ByteArray)=ByteArray.empty:=rfl
   rcases qvt R G hx hl with⟨ev,rfl⟩|⟨a,c,ev,hc⟩
   ·refine .quiet R rfl _ (jk (s := convert s d (ρ x)) ?_) (.str _)
    rw [ev,nil]
    exact run_convert_bytes_nil w s e hs (u8 e hck) 0 0 d hd
   ·refine .quiet R rfl _ (jk (s := convert s d (ρ x)) (v := .string ⟨(jm l).toArray⟩) ?_) (.str _)
    rw [ev]
    rcases hc with rfl|⟨q,o,rfl,hc⟩
    ·cases a with
     |none=>exact run_convert_bytes_nil w s e hs (u8 e hck) 0 c d hd
     |some a=>
      show(convert s d (Value.slice (some a) 0 c)).run E.P w=_
      rw [run_convert_bytes_string w s d e (some a) 0 c hs (u8 e hck) hd]
      have hl0:=run_loadCells_list (P:=E.P) w a [] (fun j v hj=>by simp at hj)
      exact run_bytesToString w a 0 c [] hl0
    ·have := run_convert_bytes_arg (P := E.P) w s e hs (u8 e hck) q o l.length c l rfl (fun i hi => by rw [hc i hi]; simp [List.getD_eq_getElem?_getD, hi]) d hd
     rw [this]
     rfl
  ·cases hf
 ·cases hf
theorem qwl(hE:EnvOK E)(R:RelH w I μ h)(G:GOK g h)(hb:b0≤h.length)(hh:h[b0]? =none∨h[b0]? =some .hole){s d:TypeId}{x:Operand}{vs:List AV}(hv:kw w I h μ ρ (q8 E ⟨dst,.convert s d x,ty,pos,aft,gd⟩) vs)
  (hf:qj E ⟨dst,.convert s d x,ty,pos,aft,gd⟩ vs g b0=some fr):kj E ⟨dst,.convert s d x,ty,pos,aft,gd⟩ ρ w I h μ fr:=by
 match vs,hv with
 | [v], hv =>
  have hx:=hv.1
  have hf:q2j E (E.ti s) (E.ti d) g b0 v=some fr:=hf
  unfold q2j at hf
  split at hf
  ·rename_i r hr
   cases hf
   exact qt2 hE R hx hr
  ·exact q4r hE R G hb hh hx hf
end
end Go.AM
namespace Go.AM
set_option linter.unusedSectionVars false
variable [Lay]
section
variable {E:Env} {w:World} {I:Nat→Nat→Prop} {h:qa} {μ:Nat→Option Nat} {ρ:Operand→Value} {g:Nat→AB} {b0:Nat} {fr:FR}
theorem qs8(hE:EnvOK E)(R:RelH w I μ h)(G:GOK g h)(hb:b0≤h.length)(hh:h[b0]? =none∨h[b0]? =some .hole){o:Oper}{vs:List AV}
  (hρ: ∀q,ρ (.global q)= .pointer (some ⟨q,0,none⟩)) (hv:kw w I h μ ρ (q8 E o) vs) (hf:qj E o vs g b0=some fr) (hc: ∀c∈fr.cs,c.p):kj E o ρ w I h μ fr:=by
 obtain⟨dst,op,ty,pos,aft,gd⟩:=o
 cases op with
 |move x=>exact q7o R hv hf
 |assign x=>exact q0l R hv hf
 |pick c a b=>exact q7p R hv hf
 |alloc e=>exact q4o hE R hb hh hf
 |box e v=>exact jar R hb hh hv hf
 |build t ps=>exact q4q hE R hv hf
 |buildSlice t n ps=>exact qnt hE R G hb hh hv hf
 |load t a=>exact q7n hE R G hv hf hc
 |store t a v=>exact q4x hE R G hv hf hc
 |nilCheck x=>exact qt4 R hv hf
 |binOp op t x y u=>exact q4p hE R hv hf hc
 |unOp op t x=>exact q7q R hv hf
 |convert s d x=>exact qwl hE R G hb hh hv hf
 |makeInterface t x=>exact qhm hE R hv hf
 |makeFunc f a b=>exact qt3 R hv hf
 |makeSlice t a b=>exact qrw hE R hb hh hv hf hc
 |slice t x l hi m=>exact q4w hE R G hv hf hc
 |fieldAddr t x i=>exact qru hE R hv hf
 |field t x i=>exact q4t hE R hv hf
 |indexAddr t x i=>exact qrv hE R G hρ hv hf hc
 |index t x i=>exact q4u hE R hv hf hc
 |extract x i=>exact qwm R hv hf
 |makeMap t r=>exact qwn R hb hh hf
 |lookup t x i ok=>exact q0n hE R G hv hf
 |mapUpdate t m k x=>exact qrx hE R G hv hf
 |insert t m k x=>exact q0m hE R G hv hf
 |range t x=>exact q4v hE R G hb hh hv hf
 |entry x=>exact q4s R G hv hf
 | call c =>
  obtain⟨cal,as,ts⟩:=c
  cases cal with
  | builtin b =>
   have hf':=hf
   simp only [qj] at hf
   obtain⟨hs,hf⟩:=ql hf
   have hs:as.size=ts.size:=Nat.eq_of_beq_eq_true hs
   split at hf
   ·rename_i x t hts _
    exact jas hE R G hs hts hv hf
   ·rename_i x y t u hts _
    split at hf
    ·rename_i e hud
     exact qo4 hE R G hb hh hs hts hud hv hf hc
    ·cases hf
   ·split at hf
    ·rename_i v hm
     cases hf
     exact jau R hs hv hm
    ·cases hf
   ·split at hf
    ·rename_i v hm
     cases hf
     exact jat R hs hv hm
    ·cases hf
   ·cases hf
  |value f=>cases vs <;>simp [qj] at hf
  |invoke r m=>cases vs <;>simp [qj] at hf
 |_=>cases vs <;>simp [qj] at hf
def qy2(w:World)(I:Nat→Nat→Prop)(h:qa)(μ:Nat→Option Nat)(a:Act)(s:qc):Prop:= ∀i,Rep w I h μ (a.tmps.getD i undef) (lkp i s)
theorem qtz(ti:TI)(v:Value):Rep w I h μ v (qrn ti v):=by
 unfold qrn
 split
 ·exact .t
 ·exact .f
 ·exact .int _ _
 ·rename_i s
  have e:=qwx s
  have:=Rep.str (w:=w) (I:=I) (h:=h) (μ:=μ) s.data.toList
  rwa [←e] at this
 ·split
  ·exact .sl _ [] true none 0 0 (.sl _ [] none 0 (fun _=>[]) (Nat.zero_le _) (fun i hi=>by simp at hi) (fun h0=>by simp at h0)) (fun _=>rfl)
  ·exact .nilsl
 ·exact .nilptr
 ·exact .nilfn
 ·exact .niliface
 ·exact .junk _
theorem y5{a:Act}{s:qc}(hs:qy2 w I h μ a s)(t:TypeId)(x:Operand):Rep w I h μ (a.eval x) (ev E s t x):=by
 cases x with
 |tmp i=>exact hs i
 |const v=>exact qtz _ v
 |global g=>exact .junk _
 |func f=>exact .fn (.func f) #[] #[] [] [] rfl rfl (fun i v c h1 _=>by simp at h1) (fun i v c h1 _=>by simp at h1)
theorem qs6{a:Act}{s:qc}(hs:qy2 w I h μ a s): ∀l:List (TypeId×Operand),kw w I h μ a.eval l (evs E s l)
 |[]=>trivial
 |(t,x)::r=>⟨y5 hs t x,qs6 hs r⟩
theorem qol(hE:EnvOK E)(R:RelH w I μ h)(hb:b0≤h.length)(hh:h[b0]? =none∨h[b0]? =some .hole){o:Oper}{a:Act}{s:qc}(hs:qy2 w I h μ a s)
  (hf:fOp E o s h b0=some fr) (hc: ∀c∈fr.cs,c.p):kj E o a.eval w I h μ fr:=
 qs8 hE R (q7e h _) hb hh (fun _=>rfl) (qs6 hs _) hf hc
end
end Go.AM
