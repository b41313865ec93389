import Derived.Test.YtfhcedpnofidnaaWireB
namespace Go.Proofs.Try
open Go.AM

set_option maxRecDepth 100000 in
theorem c16 (a b : Net) (ha : okNet a) : ACall E 16 [netV a, netV b] [] (fun r h' => r = .ret (.bool (decide (a = b))) ∧ h' = []) := by
  refine ACall.body envOK func16 rfl rfl rfl ?_
  conv => whnf
  refine aIf_mk (fun h => ?_) (fun h => ?_)
  · conv => whnf
    have e : decide (a = b) = true → False := by
      intro e
      have := of_decide_eq_true e
      subst this
      simp at h
    refine ⟨[], _, _, ?_, rfl, rfl⟩
    repeat' (first | exact trivial | exact rfl | exact .inl rfl | refine And.intro ?_ ?_)
    conv => whnf
    simpa using e
  · conv => whnf
    refine aIf_mk (fun h2 => ?_) (fun h2 => ?_)
    · conv => whnf
      have e : decide (a = b) = true → False := by
        intro e
        have := of_decide_eq_true e
        subst this
        simp at h2
      refine ⟨[], _, _, ?_, rfl, rfl⟩
      repeat' (first | exact trivial | exact rfl | exact .inl rfl | refine And.intro ?_ ?_)
      conv => whnf
      simpa using e
    · conv => whnf
      refine aIf_mk (fun h3 => ?_) (fun h3 => ?_)
      · conv => whnf
        have e : decide (a = b) = true → False := by
          intro e
          have := of_decide_eq_true e
          subst this
          simp at h3
        refine ⟨[], _, _, ?_, rfl, rfl⟩
        repeat' (first | exact trivial | exact rfl | exact .inl rfl | refine And.intro ?_ ?_)
        conv => whnf
        simpa using e
      · conv => whnf
        refine ⟨Nat, ⟨fun i => i ≤ a.1.length ∧ ∀ j, j < i → elt tMsg a.1 j = elt tMsg b.1 j, fun i => ([(2, .ptr 0 0), (3, .ptr 1 0), (29, .int .i64 (a.1.length : Int)), (30, .int .i64 (i : Int))],
          [.var [.sl tMsg a.1 false, .int .i64 a.2.1, .int .i64 a.2.2], .var [.sl tMsg b.1 false, .int .i64 b.2.1, .int .i64 b.2.2]]), fun i => a.1.length - i⟩, 0, [], [.old 0, .old 1], ?_, ?_, fun i hi => ?_⟩
        · exact ⟨Nat.zero_le _, fun j hj => absurd hj (Nat.not_lt_zero _)⟩
        · repeat' (first | exact trivial | exact rfl | exact .inl rfl | refine And.intro ?_ ?_)
        · obtain ⟨hi1, hi2⟩ : i ≤ a.1.length ∧ ∀ j, j < i → elt tMsg a.1 j = elt tMsg b.1 j := hi
          conv => whnf
          refine aIf_dec (fun h4 => ?_) (fun h4 => ?_)
          · have hlen : a.1.length = b.1.length := by simp at h; omega
            conv => whnf
            refine And.intro (by omega) (And.intro (by omega) ?_)
            conv => whnf
            refine And.intro (by omega) (And.intro (by omega) ?_)
            conv => whnf
            refine aIf_mk (fun h5 => ?_) (fun h5 => ?_)
            · conv => whnf
              have e : decide (a = b) = true → False := by
                intro e
                have := of_decide_eq_true e
                subst this
                simp at h5
              refine ⟨[], _, _, ?_, rfl, rfl⟩
              repeat' (first | exact trivial | exact rfl | exact .inl rfl | refine And.intro ?_ ?_)
              conv => whnf
              simpa using e
            · conv => whnf
              have e5 : elt tMsg a.1 i = elt tMsg b.1 i := by
                have e1 : ((i : Int)).toNat = i := by omega
                rw [e1] at h5
                generalize elt tMsg a.1 i = x at h5
                generalize elt tMsg b.1 i = y at h5
                obtain ⟨x1, x2, x3, x4⟩ := x
                obtain ⟨y1, y2, y3, y4⟩ := y
                simp at h5
                simp [h5]
              refine ⟨i + 1, [], [.old 0, .old 1], ⟨?_, ?_⟩, ?_, ?_⟩
              · omega
              · intro j hj
                rcases Nat.lt_or_ge j i with h1 | h1
                · exact hi2 j h1
                · have : j = i := by omega
                  subst this; exact e5
              · show a.1.length - (i + 1) < a.1.length - i
                omega
              · repeat' (first | exact trivial | exact rfl | exact .inl rfl | refine And.intro ?_ ?_)
                exact i64_at rfl (by unfold okNet at ha; omega)
          · conv => whnf
            have hlen : a.1.length = b.1.length := by simp at h; omega
            have hb : ∀ j, j < a.1.length → elt tMsg a.1 j = elt tMsg b.1 j := fun j hj => hi2 j (by omega)
            have e : a = b := by
              clear hi1 hi2 h4
              obtain ⟨af, al, an⟩ := a
              obtain ⟨bf, bl, bn⟩ := b
              simp at h2 h3 hlen
              subst h2; subst h3
              have : af = bf := List.ext_getElem hlen fun j h5 h6 => by
                have := hb j h5
                rwa [eltM h5, eltM h6] at this
              rw [this]
            refine ⟨[], _, _, ?_, rfl, rfl⟩
            repeat' (first | exact trivial | exact rfl | exact .inl rfl | refine And.intro ?_ ?_)
            conv => whnf
            simp [e]
end Go.Proofs.Try
