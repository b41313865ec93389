import Derived.Test.YtfhcedpnofidnaaWireD
namespace Go.Proofs.Try
open Go.AM

set_option maxRecDepth 100000 in
theorem c24 (l : List Msg) (hl : l.length ≤ 1099511627776) : ACall E 24 [.sl tMsg l false] [] (fun r h' => r = .ret (.own tMsg 0 false) ∧ h' = [.arr tMsg l true]) := by
  refine ACall.bodyR envOK func24 rfl rfl rfl ?_
  conv => whnf
  intro b hb
  conv => whnf
  refine aIf_mk (fun h => ?_) (fun h => ?_)
  · have e : l = [] := List.eq_nil_of_length_eq_zero (hb (by simpa using h))
    subst e
    conv => whnf
    refine ⟨[.emp tMsg], _, _, ?_, rfl, rfl⟩
    repeat' (first | exact trivial | exact rfl | exact .inl rfl | refine And.intro ?_ ?_)
  · conv => whnf
    refine And.intro (show sumOk (0 + l.length) 40 from ⟨by omega, by omega⟩) ?_
    conv => whnf
    refine ⟨[.old 1], _, _, ?_, rfl, rfl⟩
    repeat' (first | exact trivial | exact rfl | exact .inl rfl | refine And.intro ?_ ?_)
end Go.Proofs.Try
