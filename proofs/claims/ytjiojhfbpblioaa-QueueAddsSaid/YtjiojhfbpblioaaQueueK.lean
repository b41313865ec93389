import Derived.Test.YtjiojhfbpblioaaQueueJ
namespace Go.Proofs.Try
open Go.AM

abbrev jobA : Job := (1, [107], [98], 2, 1, 1, 5, 0)
theorem add0 : addN ([], 0, 0) [107] [98] = (([(1, [107], [98], 1, 0, 0, 0, 0)], 1, 0), 1, 0) := rfl
theorem lease0 : leaseN ([(1, [107], [98], 1, 0, 0, 0, 0)], 1, 0) 0 5 = (([jobA], 1, 1), jobA, 0) := rfl
theorem done0 : doneN ([jobA], 1, 1) 1 1 = (([(1, [107], [98], 3, 1, 1, 5, 0)], 1, 1), 0) := by
  have e : elt tJob [jobA] 0 = jobA := eltJ (l := [jobA]) (i := 0) (by simp)
  have i0 : idxOf (isId 1) [jobA] = 0 := by decide
  have g : goodQ ([jobA], 1, 1) = true := by decide
  unfold doneN changeN
  rw [if_neg (by rw [g]; simp), i0, if_neg (by decide), show (0 : Int).toNat = 0 from rfl, e]
  rfl

set_option maxRecDepth 100000 in
theorem c12 : ACall E 12 [] [] (fun r h' => r = .ret (.bool true) ∧ h' = []) := by
  refine ACall.body envOK func12 rfl rfl rfl ?_
  conv => whnf
  refine ACall.use [] (c19 ([], 0, 0) [107] [98] (by simp)) rfl trivial (by repeat' (first | exact trivial | exact rfl | exact .inl rfl | (exact .inr rfl) | refine And.intro ?_ ?_)) ?_
  rw [add0]
  conv => whnf
  refine ACall.use0 (c11 ([(1, [107], [98], 1, 0, 0, 0, 0)], 1, 0) 0 5 (by simp)) rfl ?_
  rw [lease0]
  conv => whnf
  refine ACall.use0 (c20 ([jobA], 1, 1) 1 1 (by simp)) rfl ?_
  rw [done0]
  repeat' ((conv => whnf); first | refine aIf_beq (fun h => ?_) (fun h => absurd rfl h) | refine And.intro (by decide) ?_)
  conv => whnf
  have e : elt tJob [((1, [107], [98], 3, 1, 1, 5, 0) : Job)] 0 = (1, [107], [98], 3, 1, 1, 5, 0) := eltJ (l := [((1, [107], [98], 3, 1, 1, 5, 0) : Job)]) (i := 0) (by simp)
  refine ⟨[], _, _, ?_, rfl, rfl⟩
  repeat' (first | exact trivial | exact rfl | exact .inl rfl | (exact .inr rfl) | refine And.intro ?_ ?_)
  conv => whnf
  show ((elt tJob [((1, [107], [98], 3, 1, 1, 5, 0) : Job)] 0).2.2.2.1 == (3 : Int)) = true
  rw [e]
  rfl
end Go.Proofs.Try
