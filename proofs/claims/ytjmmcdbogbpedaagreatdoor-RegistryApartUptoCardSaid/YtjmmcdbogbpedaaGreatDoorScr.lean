import Derived.Test.YtjmmcdbogbpedaaGreatDoorS7P
import Derived.Test.YtjmmcdbogbpedaaGreatDoorFacts
import Derived.Lib.ItoaMem
import Derived.Lib.ItoaLen
import Derived.Laws.Bits64
import Derived.Test.YtjmmcdbogbpedaaGreatDoorMani
namespace Go.Plain
open Go.AM
set_option linter.unusedVariables false
abbrev jbq:Type:=Int×(List Int×List Str)
abbrev jbs:Type:=Int×(Int×List jbq)
theorem jfk{α:Type}(a:List α)(x:α)(b:List α):a++x::b=(a++[x])++b:=by simp
theorem qc9{α:Type}(a:List α)(x:α):((a++[x]).length:Int)=(a.length:Int)+1:=by simp
def jej(n:Int):Bool:=decide (0≤n)&&decide (n≤1099511627776)
end Go.Plain
namespace Go.Plain
open Go.AM
set_option linter.unusedVariables false
theorem qe2{l:List Str}(h: ∀s∈l,s.length=128):l.flatten.length=128*l.length:=by
 induction l with
 |nil=>rfl
 |cons x r ih=>
  rw [List.flatten_cons,List.length_append,h x List.mem_cons_self,ih fun s hs=>h s (List.mem_cons_of_mem _ hs),List.length_cons]
  omega
end Go.Plain
namespace Go.Plain
open Go.AM
set_option linter.unusedVariables false
abbrev jfn:Ty:= .pair .str (.pair (.int .i64) (.int .i64))
def q9e(k:Int):Str×(Int×Int):=qns (.int .i64) jfn k q7z
def jek(s:Str):Bool:=decide (s.length≤1000)
structure Small (p:jbs):Prop where
 len:p.2.2.length≤1000
 nums: ∀d∈p.2.2,d.2.1.length≤1000
 texts: ∀d∈p.2.2,d.2.2.length≤1000
structure DeedOk (d:jbq):Prop where
 kind:1≤d.1∧d.1≤12
 nlen:(d.2.1.length:Int)=(q9e d.1).2.1
 tlen:(d.2.2.length:Int)=(q9e d.1).2.2
 nums: ∀n∈d.2.1,jej n=true
 texts: ∀s∈d.2.2,jek s=true
end Go.Plain
namespace Go.Plain
open Go.AM
set_option linter.unusedVariables false
theorem q7l{α:Type}(x:α):[x].length=1:=rfl
end Go.Plain
namespace Go.Plain
open Go.AM
set_option linter.unusedVariables false
def xu(c:UInt8):Str→List Str
 |[]=>[[]]
 |b::r=>if b=c then []::xu c r else match xu c r with
  |w::ws=>(b::w)::ws
  |[]=>[[b]]
theorem q5v(c:UInt8): ∀s:Str,xu c s≠[]
 |[]=>by simp [xu]
 |b::r=>by
  unfold xu
  split
  ·simp
  ·split <;>simp
theorem ql5{c:UInt8}: ∀{w:Str},c∉w→xu c w=[w]
 |[],_=>rfl
 |b::r,h=>by
  have h1:b≠c:=fun e=>h (by simp [e])
  have h2:=ql5 (c:=c) (w:=r) fun e=>h (by simp [e])
  unfold xu
  rw [if_neg h1,h2]
theorem qpi{c:UInt8}(r:Str): ∀{w:Str},c∉w→xu c (w++c::r)=w::xu c r
 |[],_=>by simp [xu]
 |b::w,h=>by
  have h1:b≠c:=fun e=>h (by simp [e])
  have h2:=qpi (c:=c) r (w:=w) fun e=>h (by simp [e])
  rw [List.cons_append]
  conv=>lhs;rw [xu,if_neg h1,h2]
theorem qte{c:UInt8}(r:Str): ∀{w:Str},c∉w→Lib.index (w++c::r) [c]=(w.length:Int)
 |[],_=>by rw [List.nil_append,Lib.index];simp [List.isPrefixOf]
 |b::w,h=>by
  have h1:b≠c:=fun e=>h (by simp [e])
  have hp:([c]:List UInt8).isPrefixOf (b::(w++c::r))=false:=by simp [List.isPrefixOf,Ne.symm h1]
  rw [List.cons_append,Lib.index,hp]
  have:=qte r (c:=c) (w:=w) fun e=>h (by simp [e])
  rw [this]
  rw [if_neg (by decide),if_neg (by rw [beq_iff_eq];omega)]
  simp
theorem q3u{c:UInt8}(s:Str):c∉s∨∃w r,s=w++c::r∧c∉w:=by
 by_cases h:c∈s
 ·exact .inr (List.eq_append_cons_of_mem h)
 ·exact .inl h
theorem qum(c:UInt8): ∀(n:Nat) (s:Str),s.length≤n→Lib.splitK [c] 0 (s.count c) s=xu c s:=by
 intro n
 induction n with
 |zero=>
  intro s h
  have:s=[]:=List.eq_nil_of_length_eq_zero (by omega)
  subst this
  rfl
 | succ n ih =>
  intro s h
  rcases q3u (c:=c) s with h1|⟨w,r,e,h1⟩
  ·rw [List.count_eq_zero_of_not_mem h1, ql5 h1]
   rfl
  ·have hc : s.count c = r.count c + 1 := by
    rw [e,List.count_append,List.count_eq_zero_of_not_mem h1,List.count_cons_self]
    omega
   have hl:s.length=w.length+(r.length+1):=by rw [e];simp
   have hi:Lib.index s [c]=(w.length:Int):=by rw [e];exact qte r h1
   rw [hc,Lib.splitK,hi,if_neg (by rw [beq_iff_eq];omega),Int.toNat_natCast,Nat.add_zero]
   have e1:s.take w.length=w:=by rw [e];exact List.take_left' rfl
   have e2:List.drop (w.length+([c]:List UInt8).length) s=r:=by
    rw [e,jfk]
    exact List.drop_left' (by simp)
   rw [e1,e2,ih r (by omega),e,qpi r h1]
theorem q2b{s:Str}{a b:Str}{x:UInt8}(e:s=a++x::b):bt s (a.length:Int)=(x.toNat:Int):=by
 have hl:a.length<s.length:=by rw [e];simp
 rw [qkb hl]
 simp [e]
end Go.Plain
