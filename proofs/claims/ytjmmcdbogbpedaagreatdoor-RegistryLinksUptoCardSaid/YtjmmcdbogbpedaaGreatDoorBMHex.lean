import Derived.Test.YtjmmcdbogbpedaaGreatDoorBa
namespace Go.AM
def qw8(n:Nat):UInt8:=if n<10 then UInt8.ofNat (48+n) else UInt8.ofNat (87+n)
def ul(s:List UInt8):List UInt8:=s.flatMap fun b=>[qw8 (b.toNat / 16),qw8 (b.toNat%16)]
theorem q7c{s:List UInt8}{k:Nat}(h:k<s.length):ul (s.take (k+1))=ul (s.take k)++[qw8 (s[k].toNat / 16)]++[qw8 (s[k].toNat%16)]:=by
 unfold ul
 rw [List.take_succ_eq_append_getElem h,List.flatMap_append]
 simp only [List.flatMap_cons,List.flatMap_nil,List.append_nil,List.append_assoc,List.cons_append,List.nil_append]
theorem qod(s:List UInt8):(ul s).length=2*s.length:=by
 induction s with
 |nil=>rfl
 |cons b r ih=>simp [ul] at ih ⊢;omega
end Go.AM
