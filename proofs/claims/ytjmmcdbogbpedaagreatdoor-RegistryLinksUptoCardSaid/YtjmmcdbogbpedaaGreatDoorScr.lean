import Derived.Test.YtjmmcdbogbpedaaGreatDoorS7P
import Derived.Test.YtjmmcdbogbpedaaGreatDoorFacts
import Derived.Lib.ItoaMem
import Derived.Lib.ItoaLen
import Derived.Laws.Bits64
import Derived.Test.YtjmmcdbogbpedaaGreatDoorMani
namespace Go.Plain
open Go.AM
set_option linter.unusedVariables false
abbrev jls:Type:=Int×(List Int×List Str)
abbrev jlv:Type:=Int×(Int×List jls)
theorem jo3{α:Type}(a:List α)(x:α)(b:List α):a++x::b=(a++[x])++b:=by simp
theorem zb{α:Type}(a:List α)(x:α):((a++[x]).length:Int)=(a.length:Int)+1:=by simp
def jo6(n:Int):Bool:=decide (0≤n)&&decide (n≤1099511627776)
end Go.Plain
namespace Go.Plain
open Go.AM
set_option linter.unusedVariables false
theorem qg2{l:List Str}(h: ∀s∈l,s.length=128):l.flatten.length=128*l.length:=by
 induction l with
 |nil=>rfl
 |cons x r ih=>
  rw [List.flatten_cons,List.length_append,h x List.mem_cons_self,ih fun s hs=>h s (List.mem_cons_of_mem _ hs),List.length_cons]
  omega
end Go.Plain
namespace Go.Plain
open Go.AM
set_option linter.unusedVariables false
abbrev jqf:Ty:= .pair .str (.pair (.int .i64) (.int .i64))
def jiq(k:Int):Str×(Int×Int):=qsm (.int .i64) jqf k jhb
def jo7(s:Str):Bool:=decide (s.length≤1000)
structure Small (p:jlv):Prop where
 len:p.2.2.length≤1000
 nums: ∀d∈p.2.2,d.2.1.length≤1000
 texts: ∀d∈p.2.2,d.2.2.length≤1000
structure DeedOk (d:jls):Prop where
 kind:1≤d.1∧d.1≤12
 nlen:(d.2.1.length:Int)=(jiq d.1).2.1
 tlen:(d.2.2.length:Int)=(jiq d.1).2.2
 nums: ∀n∈d.2.1,jo6 n=true
 texts: ∀s∈d.2.2,jo7 s=true
end Go.Plain
namespace Go.Plain
open Go.AM
set_option linter.unusedVariables false
theorem zj{α:Type}(x:α):[x].length=1:=rfl
end Go.Plain
namespace Go.Plain
open Go.AM
set_option linter.unusedVariables false
def j6(c:UInt8):Str→List Str
 |[]=>[[]]
 |b::r=>if b=c then []::j6 c r else match j6 c r with
  |w::ws=>(b::w)::ws
  |[]=>[[b]]
theorem jen(c:UInt8): ∀s:Str,j6 c s≠[]
 |[]=>by simp [j6]
 |b::r=>by
  unfold j6
  split
  ·simp
  ·split <;>simp
theorem qpr{c:UInt8}: ∀{w:Str},c∉w→j6 c w=[w]
 |[],_=>rfl
 |b::r,h=>by
  have h1:b≠c:=fun e=>h (by simp [e])
  have h2:=qpr (c:=c) (w:=r) fun e=>h (by simp [e])
  unfold j6
  rw [if_neg h1,h2]
theorem qun{c:UInt8}(r:Str): ∀{w:Str},c∉w→j6 c (w++c::r)=w::j6 c r
 |[],_=>by simp [j6]
 |b::w,h=>by
  have h1:b≠c:=fun e=>h (by simp [e])
  have h2:=qun (c:=c) r (w:=w) fun e=>h (by simp [e])
  rw [List.cons_append]
  conv=>lhs;rw [j6,if_neg h1,h2]
theorem qup(c:UInt8): ∀s:Str,(j6 c s).length≤s.length+1
 |[]=>by simp [j6]
 | b :: r => by
  have ih:=qup c r
  unfold j6
  split
  ·simp;omega
  ·split
   ·rename_i w ws e
    rw [e] at ih
    simp at ih ⊢
    omega
   ·simp
theorem qz4{c:UInt8}(r:Str): ∀{w:Str},c∉w→Lib.index (w++c::r) [c]=(w.length:Int)
 |[],_=>by rw [List.nil_append,Lib.index];simp [List.isPrefixOf]
 |b::w,h=>by
  have h1:b≠c:=fun e=>h (by simp [e])
  have hp:([c]:List UInt8).isPrefixOf (b::(w++c::r))=false:=by simp [List.isPrefixOf,Ne.symm h1]
  rw [List.cons_append,Lib.index,hp]
  have:=qz4 r (c:=c) (w:=w) fun e=>h (by simp [e])
  rw [this]
  rw [if_neg (by decide),if_neg (by rw [beq_iff_eq];omega)]
  simp
theorem jcr{c:UInt8}(s:Str):c∉s∨∃w r,s=w++c::r∧c∉w:=by
 by_cases h:c∈s
 ·exact .inr (List.eq_append_cons_of_mem h)
 ·exact .inl h
theorem q1l(c:UInt8): ∀(n:Nat) (s:Str),s.length≤n→Lib.splitK [c] 0 (s.count c) s=j6 c s:=by
 intro n
 induction n with
 |zero=>
  intro s h
  have:s=[]:=List.eq_nil_of_length_eq_zero (by omega)
  subst this
  rfl
 | succ n ih =>
  intro s h
  rcases jcr (c:=c) s with h1|⟨w,r,e,h1⟩
  ·rw [List.count_eq_zero_of_not_mem h1, qpr h1]
   rfl
  ·have hc : s.count c = r.count c + 1 := by
    rw [e,List.count_append,List.count_eq_zero_of_not_mem h1,List.count_cons_self]
    omega
   have hl:s.length=w.length+(r.length+1):=by rw [e];simp
   have hi:Lib.index s [c]=(w.length:Int):=by rw [e];exact qz4 r h1
   rw [hc,Lib.splitK,hi,if_neg (by rw [beq_iff_eq];omega),Int.toNat_natCast,Nat.add_zero]
   have e1:s.take w.length=w:=by rw [e];exact List.take_left' rfl
   have e2:List.drop (w.length+([c]:List UInt8).length) s=r:=by
    rw [e,jo3]
    exact List.drop_left' (by simp)
   rw [e1,e2,ih r (by omega),e,qun r h1]
theorem qpj{s:Str}{a b:Str}{x:UInt8}(e:s=a++x::b):List.drop a.length (List.take (a.length+1) s)=[x]:=by
 rw [e,jo3]
 have:List.take (a.length+1) ((a++[x])++b)=a++[x]:=List.take_left' (by simp)
 rw [this]
 exact List.drop_left' rfl
theorem qwv{s:Str}{a b:Str}{x:UInt8}(e:s=a++x::b):bt s (a.length:Int)=(x.toNat:Int):=by
 have hl:a.length<s.length:=by rw [e];simp
 rw [ww hl]
 simp [e]
theorem jef{n:Nat}(h:n≤2000000):qi n 16:=by
 unfold qi
 constructor <;>omega
theorem qy5{s:Str}(hs:s.length≤1048576)(k:UInt8): ∀(b a now:Str) (c:List Str),s=a++b→c.length≤a.length→now.length≤a.length→
  ∃now' c',qrr (((a.length:Int),(now,(s,(k.toNat:Int)))),c)=some (now',c')∧c'.length≤s.length∧∃w ws,j6 k b=w::ws∧c'++[now']=c++(now++w)::ws:=by
 intro b
 induction b with
 |nil=>
  intro a now c e hc hn
  rw [List.append_nil] at e
  rw [qvt]
  unfold qjk
  dsimp only
  rw [if_neg (by rw [e];simp)]
  exact⟨now,c,rfl,by rw [e];exact hc,[],[],rfl,by simp⟩
 | cons x b ih =>
  intro a now c e hc hn
  have hl2:s.length=a.length+(b.length+1):=by rw [e];simp
  have hw:w64 ((a.length:Int)+1)=(a.length:Int)+1:=qh (by omega)
  have hb:=qwv e
  have e4:((a.length:Int)+1).toNat=a.length+1:=by omega
  rw [qvt]
  unfold qjk
  dsimp only
  rw [hb,hw,if_pos (by rw [decide_eq_true_eq];omega),if_pos (by omega),if_pos (by omega)]
  have xk:(((x.toNat:Int)==(k.toNat:Int))=true)↔x=k:=by
   rw [beq_iff_eq]
   constructor
   ·intro h
    exact UInt8.toNat_inj.1 (by omega)
   ·intro h;rw [h]
  by_cases g:x=k
  ·obtain ⟨now', c', q1, q0, w, ws, q2, q3⟩ := ih (a ++ [x]) [] (c ++ [now]) (by rw [e]; simp) (by simp; omega) (by simp)
   rw [zb] at q1
   rw [if_pos (xk.2 g),if_pos (jef (by rw [zj];omega))]
   refine⟨now',c',q1,q0,[],j6 k b,by rw [j6,if_pos g], ?_⟩
   rw [q3,q2]
   simp
  ·obtain ⟨now', c', q1, q0, w, ws, q2, q3⟩ := ih (a ++ [x]) (now ++ [x]) c (by rw [e]; simp) (by simp; omega) (by simp; omega)
   rw [zb] at q1
   rw [if_neg (fun h=>g (xk.1 h)),if_pos (by omega),if_pos (by omega),if_pos (by omega),Int.toNat_natCast,e4,qpj e,if_pos (by rw [zj];omega)]
   refine⟨now',c',q1,q0,x::w,ws,by rw [j6,if_neg g,q2], ?_⟩
   rw [q3]
   simp
theorem jlb{s:Str}(hs:s.length≤1048576)(k:UInt8):z1l (s,(k.toNat:Int))=some (j6 k s):=by
 obtain⟨now',c',q1,q0,w,ws,q2,q3⟩:=qy5 hs k s [] [] [] rfl (by simp) (by simp)
 have q1:qrr (((0:Int),([],(s,(k.toNat:Int)))),[])=_:=q1
 unfold z1l
 dsimp only
 rw [q1,sb]
 dsimp only
 rw [if_pos (jef (by rw [zj];omega)),q3,q2]
 rfl
end Go.Plain
