import Derived.Test.YtjiojhfbpblioaaQueueDel
namespace Go.Proofs.Try
open Go.AM

theorem c49 (l : List Job) (i j : Nat) (full : Bool) (hij : i < j) (hj : j ≤ l.length) :
    ACall E 49 [.own tJob 0 full, .int .i64 i, .int .i64 j] [.arr tJob l true] (fun r h' => r = .ret (.own tJob 1 false) ∧ h' = [.gone, .arr tJob (l.take i ++ l.drop j) true]) := by
  obtain ⟨_, _, i0, z, h1, h2, h3⟩ := envOK.ty 27 tJob rfl
  have hr := h3 default (fun _ _ => False)
  refine ACall.delete tJob z.cells ?_ (by simpa using hr.len) (fun g n cap i j vs e w h4 h5 h6 h7 h8 h9 => ?_) l i j full hij hj
  · exact ⟨_, func49, rfl, rfl⟩
  · obtain ⟨i1, h10, h11, _⟩ := envOK.info 27 rfl
    have h12 : some i0 = some i1 := h1.symm.trans h10
    injection h12 with h12
    subst h12
    exact del_flat g n cap i j vs e w h4 h5 h6 h7 h8 h9 z.cells ⟨i0, z, h1, h11, h2, rfl⟩ (by have := hr.len; rw [Array.length_toList] at this; exact this) hr.one _ _ rfl rfl
end Go.Proofs.Try
