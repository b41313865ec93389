import Derived.Test.YtjmmcdbogbpedaaGreatDoorBa
namespace Go.AM
def qwk(n:Nat):UInt8:=if n<10 then UInt8.ofNat (48+n) else UInt8.ofNat (87+n)
def uk(s:List UInt8):List UInt8:=s.flatMap fun b=>[qwk (b.toNat / 16),qwk (b.toNat%16)]
theorem q6o{s:List UInt8}{k:Nat}(h:k<s.length):uk (s.take (k+1))=uk (s.take k)++[qwk (s[k].toNat / 16)]++[qwk (s[k].toNat%16)]:=by
 unfold uk
 rw [List.take_succ_eq_append_getElem h,List.flatMap_append]
 simp only [List.flatMap_cons,List.flatMap_nil,List.append_nil,List.append_assoc,List.cons_append,List.nil_append]
theorem qn3(s:List UInt8):(uk s).length=2*s.length:=by
 induction s with
 |nil=>rfl
 |cons b r ih=>simp [uk] at ih ⊢;omega
end Go.AM
