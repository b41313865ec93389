/-
  AM, part 26: what proofs of functions use.
-/
import Derived.Test.YtfcigmcjgaipmaaDoorBMEnv
namespace Go.AM
set_option linter.unusedSectionVars false
variable [Lay]

structure Box (T : Prop) : Prop where
  out : T
/-- What several ways lead to is shown once. -/
theorem share {T G : Prop} (h : Box T → G) (hT : T) : G := h ⟨hT⟩

section
variable {E : Env} {f : FuncId} {args args' : List AV} {h hs hs' : Heap} {v : AV} {x : ARes} {Q : ARes → Heap → Prop} {ρ : List Nat}

theorem viewH_agree {h h' : Heap} {τ : List Src} : ∀ (ρ : List Nat) (hs : Heap), (∀ b ∈ ρ, hget h' b = hget h b) → viewH τ h (ρ.map Src.old) hs → viewH τ h' (ρ.map Src.old) hs
  | [], [], _, _ => trivial
  | [], _ :: _, _, hv => hv.elim
  | b :: ρ, [], _, hv => hv.elim
  | b :: ρ, y :: hs, hg, hv => ⟨by rw [hg b List.mem_cons_self]; exact hv.1, viewH_agree ρ hs (fun c hc => hg c (List.mem_cons_of_mem _ hc)) hv.2⟩
end
end Go.AM
