import Derived.Test.YtfhcedpnofidnaaWireC
namespace Go.Proofs.Try
open Go.AM

theorem bad_at {n : Net} {i : Nat} (hi : i < n.1.length) (h : badMsg n.2.1 n.2.2 (elt tMsg n.1 i) = true) : goodNet n = false := by
  cases hg : goodNet n with
  | false => rfl
  | true =>
    obtain ⟨_, _, _, _, _, g6⟩ := (goodNet_iff n).1 hg
    rw [notBad g6 hi] at h
    cases h

set_option maxRecDepth 100000 in
theorem c14 (n : Net) (hl : okNet n) : ACall E 14 [netV n] [] (fun r h' => r = .ret (.bool (goodNet n)) ∧ h' = []) := by
  refine ACall.body envOK func14 rfl rfl rfl ?_
  conv => whnf
  refine ⟨Nat, ⟨fun i => i ≤ n.1.length ∧ ∀ j, j < i → badMsg n.2.1 n.2.2 (elt tMsg n.1 j) = false, fun i => ([(1, .ptr 0 0), (6, .sl tMsg n.1 false), (7, .int .i64 (n.1.length : Int)), (8, .int .i64 (i : Int))],
    [.var [.sl tMsg n.1 false, .int .i64 n.2.1, .int .i64 n.2.2]]), fun i => n.1.length - i⟩, 0, [], [.old 0], ?_, ?_, fun i hi => ?_⟩
  · exact ⟨Nat.zero_le _, fun j hj => absurd hj (Nat.not_lt_zero _)⟩
  · repeat' (first | exact trivial | exact rfl | exact .inl rfl | refine And.intro ?_ ?_)
  · obtain ⟨hi1, hi2⟩ : i ≤ n.1.length ∧ ∀ j, j < i → badMsg n.2.1 n.2.2 (elt tMsg n.1 j) = false := hi
    conv => whnf
    refine aIf_dec (fun h => ?_) (fun h => ?_)
    · conv => whnf
      refine And.intro (by omega) (And.intro (by omega) ?_)
      conv => whnf
      have e1 : ((i : Int)).toNat = i := by omega
      rw [e1]
      have bad : badMsg n.2.1 n.2.2 (elt tMsg n.1 i) = true → false = goodNet n := fun hb => (bad_at (by omega) hb).symm
      repeat' ((conv => whnf); refine aIf_dec (fun h => ?_) (fun h => ?_))
      all_goals (conv => whnf)
      all_goals (first
        | (refine ⟨[], _, _, ?_, rfl, rfl⟩
           repeat' (first | exact trivial | exact rfl | exact .inl rfl | refine And.intro ?_ ?_)
           conv => whnf
           refine (bad ?_).symm
           simp only [badMsg, Bool.or_eq_true, decide_eq_true_eq]
           omega)
        | (refine ⟨i + 1, [], [.old 0], ⟨?_, ?_⟩, ?_, ?_⟩
           · omega
           · intro j hj
             rcases Nat.lt_or_ge j i with h1 | h1
             · exact hi2 j h1
             · have : j = i := by omega
               subst this
               simp only [badMsg, Bool.or_eq_false_iff, decide_eq_false_iff_not]
               omega
           · show n.1.length - (i + 1) < n.1.length - i
             omega
           · repeat' (first | exact trivial | exact rfl | exact .inl rfl | refine And.intro ?_ ?_)
             exact i64_at rfl (by unfold okNet at hl; omega)))
    · have hall : n.1.any (badMsg n.2.1 n.2.2) = false := by
        rw [List.any_eq_false]
        intro x hx
        obtain ⟨j, hj, rfl⟩ := List.getElem_of_mem hx
        have := hi2 j (by omega)
        rw [eltM hj] at this
        simp [this]
      repeat' ((conv => whnf); refine aIf_dec (fun h => ?_) (fun h => ?_))
      all_goals ((conv => whnf); refine ⟨[], _, _, ?_, rfl, rfl⟩)
      all_goals (repeat' (first | exact trivial | exact rfl | exact .inl rfl | refine And.intro ?_ ?_))
      all_goals (conv => whnf)
      all_goals (first | (simp_all [goodNet, rightNet]; done) | (simp [goodNet, rightNet, *]; try omega))
end Go.Proofs.Try
