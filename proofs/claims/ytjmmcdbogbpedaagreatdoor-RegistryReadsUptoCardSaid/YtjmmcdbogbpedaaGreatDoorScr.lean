import Derived.Test.YtjmmcdbogbpedaaGreatDoorS7P
import Derived.Test.YtjmmcdbogbpedaaGreatDoorFacts
import Derived.Lib.ItoaMem
import Derived.Lib.ItoaLen
import Derived.Laws.Bits64
import Derived.Test.YtjmmcdbogbpedaaGreatDoorMani
namespace Go.Plain
open Go.AM
set_option linter.unusedVariables false
abbrev jkh:Type:=Int×(List Int×List Str)
abbrev jkj:Type:=Int×(Int×List jkh)
theorem jnk{α:Type}(a:List α)(x:α)(b:List α):a++x::b=(a++[x])++b:=by simp
theorem y9{α:Type}(a:List α)(x:α):((a++[x]).length:Int)=(a.length:Int)+1:=by simp
def jnn(n:Int):Bool:=decide (0≤n)&&decide (n≤1099511627776)
end Go.Plain
namespace Go.Plain
open Go.AM
set_option linter.unusedVariables false
theorem qg1{l:List Str}(h: ∀s∈l,s.length=128):l.flatten.length=128*l.length:=by
 induction l with
 |nil=>rfl
 |cons x r ih=>
  rw [List.flatten_cons,List.length_append,h x List.mem_cons_self,ih fun s hs=>h s (List.mem_cons_of_mem _ hs),List.length_cons]
  omega
end Go.Plain
namespace Go.Plain
open Go.AM
set_option linter.unusedVariables false
abbrev jow:Ty:= .pair .str (.pair (.int .i64) (.int .i64))
def jhh(k:Int):Str×(Int×Int):=qr8 (.int .i64) jow k jfz
def jno(s:Str):Bool:=decide (s.length≤1000)
structure Small (p:jkj):Prop where
 len:p.2.2.length≤1000
 nums: ∀d∈p.2.2,d.2.1.length≤1000
 texts: ∀d∈p.2.2,d.2.2.length≤1000
structure DeedOk (d:jkh):Prop where
 kind:1≤d.1∧d.1≤12
 nlen:(d.2.1.length:Int)=(jhh d.1).2.1
 tlen:(d.2.2.length:Int)=(jhh d.1).2.2
 nums: ∀n∈d.2.1,jnn n=true
 texts: ∀s∈d.2.2,jno s=true
end Go.Plain
namespace Go.Plain
open Go.AM
set_option linter.unusedVariables false
theorem qhk{α:Type}(x:α):[x].length=1:=rfl
end Go.Plain
namespace Go.Plain
open Go.AM
set_option linter.unusedVariables false
def j7(c:UInt8):Str→List Str
 |[]=>[[]]
 |b::r=>if b=c then []::j7 c r else match j7 c r with
  |w::ws=>(b::w)::ws
  |[]=>[[b]]
theorem jdk(c:UInt8): ∀s:Str,j7 c s≠[]
 |[]=>by simp [j7]
 |b::r=>by
  unfold j7
  split
  ·simp
  ·split <;>simp
theorem qpj{c:UInt8}: ∀{w:Str},c∉w→j7 c w=[w]
 |[],_=>rfl
 |b::r,h=>by
  have h1:b≠c:=fun e=>h (by simp [e])
  have h2:=qpj (c:=c) (w:=r) fun e=>h (by simp [e])
  unfold j7
  rw [if_neg h1,h2]
theorem qt6{c:UInt8}(r:Str): ∀{w:Str},c∉w→j7 c (w++c::r)=w::j7 c r
 |[],_=>by simp [j7]
 |b::w,h=>by
  have h1:b≠c:=fun e=>h (by simp [e])
  have h2:=qt6 (c:=c) r (w:=w) fun e=>h (by simp [e])
  rw [List.cons_append]
  conv=>lhs;rw [j7,if_neg h1,h2]
theorem qt7(c:UInt8): ∀s:Str,(j7 c s).length≤s.length+1
 |[]=>by simp [j7]
 | b :: r => by
  have ih:=qt7 c r
  unfold j7
  split
  ·simp;omega
  ·split
   ·rename_i w ws e
    rw [e] at ih
    simp at ih ⊢
    omega
   ·simp
theorem qzg{c:UInt8}(r:Str): ∀{w:Str},c∉w→Lib.index (w++c::r) [c]=(w.length:Int)
 |[],_=>by rw [List.nil_append,Lib.index];simp [List.isPrefixOf]
 |b::w,h=>by
  have h1:b≠c:=fun e=>h (by simp [e])
  have hp:([c]:List UInt8).isPrefixOf (b::(w++c::r))=false:=by simp [List.isPrefixOf,Ne.symm h1]
  rw [List.cons_append,Lib.index,hp]
  have:=qzg r (c:=c) (w:=w) fun e=>h (by simp [e])
  rw [this]
  rw [if_neg (by decide),if_neg (by rw [beq_iff_eq];omega)]
  simp
theorem jbr{c:UInt8}(s:Str):c∉s∨∃w r,s=w++c::r∧c∉w:=by
 by_cases h:c∈s
 ·exact .inr (List.eq_append_cons_of_mem h)
 ·exact .inl h
theorem q0x(c:UInt8): ∀(n:Nat) (s:Str),s.length≤n→Lib.splitK [c] 0 (s.count c) s=j7 c s:=by
 intro n
 induction n with
 |zero=>
  intro s h
  have:s=[]:=List.eq_nil_of_length_eq_zero (by omega)
  subst this
  rfl
 | succ n ih =>
  intro s h
  rcases jbr (c:=c) s with h1|⟨w,r,e,h1⟩
  ·rw [List.count_eq_zero_of_not_mem h1, qpj h1]
   rfl
  ·have hc : s.count c = r.count c + 1 := by
    rw [e,List.count_append,List.count_eq_zero_of_not_mem h1,List.count_cons_self]
    omega
   have hl:s.length=w.length+(r.length+1):=by rw [e];simp
   have hi:Lib.index s [c]=(w.length:Int):=by rw [e];exact qzg r h1
   rw [hc,Lib.splitK,hi,if_neg (by rw [beq_iff_eq];omega),Int.toNat_natCast,Nat.add_zero]
   have e1:s.take w.length=w:=by rw [e];exact List.take_left' rfl
   have e2:List.drop (w.length+([c]:List UInt8).length) s=r:=by
    rw [e,jnk]
    exact List.drop_left' (by simp)
   rw [e1,e2,ih r (by omega),e,qt6 r h1]
theorem qpa{s:Str}{a b:Str}{x:UInt8}(e:s=a++x::b):List.drop a.length (List.take (a.length+1) s)=[x]:=by
 rw [e,jnk]
 have:List.take (a.length+1) ((a++[x])++b)=a++[x]:=List.take_left' (by simp)
 rw [this]
 exact List.drop_left' rfl
theorem qv7{s:Str}{a b:Str}{x:UInt8}(e:s=a++x::b):bt s (a.length:Int)=(x.toNat:Int):=by
 have hl:a.length<s.length:=by rw [e];simp
 rw [wy hl]
 simp [e]
theorem jdc{n:Nat}(h:n≤2000000):qj n 16:=by
 unfold qj
 constructor <;>omega
theorem qyh{s:Str}(hs:s.length≤1048576)(k:UInt8): ∀(b a now:Str) (c:List Str),s=a++b→c.length≤a.length→now.length≤a.length→
  ∃now' c',qrf (((a.length:Int),(now,(s,(k.toNat:Int)))),c)=some (now',c')∧c'.length≤s.length∧∃w ws,j7 k b=w::ws∧c'++[now']=c++(now++w)::ws:=by
 intro b
 induction b with
 |nil=>
  intro a now c e hc hn
  rw [List.append_nil] at e
  rw [qu8]
  unfold qjf
  dsimp only
  rw [if_neg (by rw [e];simp)]
  exact⟨now,c,rfl,by rw [e];exact hc,[],[],rfl,by simp⟩
 | cons x b ih =>
  intro a now c e hc hn
  have hl2:s.length=a.length+(b.length+1):=by rw [e];simp
  have hw:w64 ((a.length:Int)+1)=(a.length:Int)+1:=qh (by omega)
  have hb:=qv7 e
  have e4:((a.length:Int)+1).toNat=a.length+1:=by omega
  rw [qu8]
  unfold qjf
  dsimp only
  rw [hb,hw,if_pos (by rw [decide_eq_true_eq];omega),if_pos (by omega),if_pos (by omega)]
  have xk:(((x.toNat:Int)==(k.toNat:Int))=true)↔x=k:=by
   rw [beq_iff_eq]
   constructor
   ·intro h
    exact UInt8.toNat_inj.1 (by omega)
   ·intro h;rw [h]
  by_cases g:x=k
  ·obtain ⟨now', c', q1, q0, w, ws, q2, q3⟩ := ih (a ++ [x]) [] (c ++ [now]) (by rw [e]; simp) (by simp; omega) (by simp)
   rw [y9] at q1
   rw [if_pos (xk.2 g),if_pos (jdc (by rw [qhk];omega))]
   refine⟨now',c',q1,q0,[],j7 k b,by rw [j7,if_pos g], ?_⟩
   rw [q3,q2]
   simp
  ·obtain ⟨now', c', q1, q0, w, ws, q2, q3⟩ := ih (a ++ [x]) (now ++ [x]) c (by rw [e]; simp) (by simp; omega) (by simp; omega)
   rw [y9] at q1
   rw [if_neg (fun h=>g (xk.1 h)),if_pos (by omega),if_pos (by omega),if_pos (by omega),Int.toNat_natCast,e4,qpa e,if_pos (by rw [qhk];omega)]
   refine⟨now',c',q1,q0,x::w,ws,by rw [j7,if_neg g,q2], ?_⟩
   rw [q3]
   simp
theorem jj0{s:Str}(hs:s.length≤1048576)(k:UInt8):z1i (s,(k.toNat:Int))=some (j7 k s):=by
 obtain⟨now',c',q1,q0,w,ws,q2,q3⟩:=qyh hs k s [] [] [] rfl (by simp) (by simp)
 have q1:qrf (((0:Int),([],(s,(k.toNat:Int)))),[])=_:=q1
 unfold z1i
 dsimp only
 rw [q1,sb]
 dsimp only
 rw [if_pos (jdc (by rw [qhk];omega)),q3,q2]
 rfl
end Go.Plain
