import Derived.Test.YtjmmcdbogbpedaaGreatDoorBMEnv
namespace Go.AM
set_option linter.unusedSectionVars false
variable [Lay]
structure Box (T:Prop):Prop where
 out:T
theorem je7{T G:Prop}(h:Box T→G)(hT:T):G:=h ⟨hT⟩
section
variable {E:Env} {f:FuncId} {args args':List AV} {h hs hs':qa} {v:AV} {x:ARes} {Q:ARes→qa→Prop} {ρ:List Nat}
theorem qix{h h':qa}{τ:List Src}: ∀(ρ:List Nat) (hs:qa),(∀b∈ρ,qd h' b=qd h b)→qaw τ h (ρ.map Src.old) hs→qaw τ h' (ρ.map Src.old) hs
 |[],[],_,_=>trivial
 |[],_::_,_,hv=>hv.elim
 |b::ρ,[],_,hv=>hv.elim
 |b::ρ,y::hs,hg,hv=>⟨by rw [hg b List.mem_cons_self];exact hv.1,qix ρ hs (fun c hc=>hg c (List.mem_cons_of_mem _ hc)) hv.2⟩
end
end Go.AM
