import Derived.Test.YtjmmcdbogbpedaaGreatDoorBa
namespace Go.AM
def qqy(n:Nat):UInt8:=if n<10 then UInt8.ofNat (48+n) else UInt8.ofNat (87+n)
def zr(s:List UInt8):List UInt8:=s.flatMap fun b=>[qqy (b.toNat / 16),qqy (b.toNat%16)]
theorem qz5{s:List UInt8}{k:Nat}(h:k<s.length):zr (s.take (k+1))=zr (s.take k)++[qqy (s[k].toNat / 16)]++[qqy (s[k].toNat%16)]:=by
 unfold zr
 rw [List.take_succ_eq_append_getElem h,List.flatMap_append]
 simp only [List.flatMap_cons,List.flatMap_nil,List.append_nil,List.append_assoc,List.cons_append,List.nil_append]
theorem qkw(s:List UInt8):(zr s).length=2*s.length:=by
 induction s with
 |nil=>rfl
 |cons b r ih=>simp [zr] at ih ⊢;omega
end Go.AM
