import Derived.Test.YtjiojhfbpblioaaQueueL
namespace Go.Proofs.Try
open Go.AM

theorem elt_drop {l r : List Job} {i : Nat} {a : Job} (h : l.drop i = a :: r) : i < l.length ∧ elt tJob l i = a ∧ l.drop (i + 1) = r := by
  have hi : i < l.length := by
    refine Nat.lt_of_not_le fun hle => ?_
    rw [List.drop_eq_nil_of_le hle] at h
    cases h
  rw [List.drop_eq_getElem_cons hi] at h
  injection h with h1 h2
  exact ⟨hi, by rw [eltJ hi]; exact h1, h2⟩
theorem lease_drop_len {tok now span : Int} : ∀ (l : List Job), (leaseL tok now span l).1.length = l.length
  | [] => rfl
  | j :: r => by
    simp only [leaseL]
    split
    · simp
    · simp [lease_drop_len r]

/-- How far the loop came: none is leased yet, or one was. -/
def lvInv (Q : Queue) (R : List Job) (o : Option Job) (now span : Int) (i c : Nat) : Prop := i ≤ Q.1.length ∧
  ((c = 0 ∧ R.drop i = (leaseL Q.2.2 now span (Q.1.drop i)).1 ∧ o = (leaseL Q.2.2 now span (Q.1.drop i)).2) ∨ (c = 1 ∧ R.drop i = Q.1.drop i ∧ o.isSome = true))

set_option maxRecDepth 100000 in
set_option maxHeartbeats 4000000 in
theorem c3 (n : Queue) (now span : Int) : ACall E 3 [queueV n, .int .i64 now, .int .i64 span] [] (fun r h' => r = .ret (.bool true) ∧ h' = []) := by
  refine ACall.body envOK func3 rfl rfl rfl ?_
  conv => whnf
  refine ACall.use0 (c10 n) rfl ?_
  have hQ1 : (fewQ n).1.length ≤ 66 := fewQ_ok n
  generalize fewQ n = Q at hQ1 ⊢
  conv => whnf
  refine ACall.use0 (c11 Q now span (by omega)) rfl ?_
  conv => whnf
  first | refine aIf_dec (fun h1 => ?_) (fun h1 => ?_) | refine aIf_beq (fun h1 => ?_) (fun h1 => ?_) | refine aIf_bne (fun h1 => ?_) (fun h1 => ?_) | refine aIf_not (fun h1 => ?_) (fun h1 => ?_) | refine aIf_mk (fun h1 => ?_) (fun h1 => ?_)
  · obtain ⟨b1, _⟩ := lease_bad h1
    rw [b1]
    conv => whnf
    refine ACall.use0 (c12) rfl ?_
    conv => whnf
    refine aIf_mk (fun _ => ?_) (fun h => absurd h (by simp))
    conv => whnf
    refine ⟨[], _, _, ?_, rfl, rfl⟩
    repeat' (first | exact trivial | exact rfl | exact .inl rfl | (exact .inr rfl) | refine And.intro ?_ ?_)
  · obtain ⟨g, hn, hs, t1, hany, e⟩ := lease_ok h1
    obtain ⟨lg, ll⟩ := lease_good h1
    obtain ⟨g1, g2, g3, g4⟩ := goodQ_iff g
    have hR : (leaseN Q now span).1.1 = (leaseL Q.2.2 now span Q.1).1 := by
      rw [e]; cases (leaseL Q.2.2 now span Q.1).2 <;> rfl
    have hJ : ∀ j, (leaseL Q.2.2 now span Q.1).2 = some j → (leaseN Q now span).2.1 = j ∧ (leaseN Q now span).1.2.2 = Q.2.2 + 1 := by
      intro j hj
      rw [e, hj]
      exact ⟨rfl, rfl⟩
    have hJ0 : (leaseL Q.2.2 now span Q.1).2 = none → (leaseN Q now span).2.1 = job0 ∧ (leaseN Q now span).1.2.2 = Q.2.2 := by
      intro hj
      rw [e, hj]
      exact ⟨rfl, rfl⟩
    conv => whnf
    generalize leaseN Q now span = Y at lg ll hR hJ hJ0 ⊢
    refine ACall.use0 (c13 Y.1 (by omega)) rfl ?_
    refine aIf_not (fun h => absurd h (by rw [lg]; simp)) (fun _ => ?_)
    conv => whnf
    refine ACall.use0 (c14 Q (by omega)) rfl ?_
    conv => whnf
    refine aIf_not (fun h => absurd h (by rw [g]; simp)) (fun _ => ?_)
    conv => whnf
    refine aIf_bne (fun h => absurd (show (Y.1.1.length : Int) = (Q.1.length : Int) by rw [ll]) h) (fun _ => ?_)
    conv => whnf
    refine ACall.use0 (c12) rfl ?_
    conv => whnf
    refine aIf_not (fun h => absurd h (by simp)) (fun _ => ?_)
    conv => whnf
    obtain ⟨o, ho⟩ : ∃ o, (leaseL Q.2.2 now span Q.1).2 = o := ⟨_, rfl⟩
    rw [ho] at hJ hJ0
    have memQ : ∀ {i : Nat}, i < Q.1.length → mayJ (elt tJob Q.1 i) = true ∧ (elt tJob Q.1 i).2.2.2.2.2.1 ≤ Q.2.2 := by
      intro i hi
      rw [eltJ hi]
      exact ⟨(goodQ_mem g (List.getElem_mem hi)).1, (goodQ_mem g (List.getElem_mem hi)).2.1⟩
    refine ⟨Nat × Nat, ⟨fun x => lvInv Q Y.1.1 o now span x.1 x.2, fun x => ([(1, .int .i64 now), (3, .ptr 0 0), (6, .f), (7, .ptr 1 0), (8, .ptr 2 0), (10, .int .i64 (x.2 : Int)), (54, .sl tJob Y.1.1 false), (55, .int .i64 (Y.1.1.length : Int)), (56, .int .i64 (x.1 : Int))],
      [.var [.sl tJob Q.1 false, .int .i64 Q.2.1, .int .i64 Q.2.2], .var [.sl tJob Y.1.1 false, .int .i64 Y.1.2.1, .int .i64 Y.1.2.2], .var [.int .i64 Y.2.1.1, .str Y.2.1.2.1, .str Y.2.1.2.2.1, .int .i64 Y.2.1.2.2.2.1, .int .i64 Y.2.1.2.2.2.2.1, .int .i64 Y.2.1.2.2.2.2.2.1, .int .i64 Y.2.1.2.2.2.2.2.2.1, .int .i64 Y.2.1.2.2.2.2.2.2.2]]),
      fun x => Q.1.length - x.1⟩, (0, 0), [], [.old 0, .old 1, .old 2], ⟨Nat.zero_le _, .inl ⟨rfl, by simpa using hR, by rw [List.drop_zero]; exact ho.symm⟩⟩, ?_, fun x hx => ?_⟩
    · repeat' (first | exact trivial | exact rfl | exact .inl rfl | (exact .inr rfl) | refine And.intro ?_ ?_)
    · obtain ⟨i, c⟩ := x
      obtain ⟨hi, hcase⟩ : lvInv Q Y.1.1 o now span i c := hx
      conv => whnf
      first | refine aIf_dec (fun h2 => ?_) (fun h2 => ?_) | refine aIf_beq (fun h2 => ?_) (fun h2 => ?_) | refine aIf_bne (fun h2 => ?_) (fun h2 => ?_) | refine aIf_not (fun h2 => ?_) (fun h2 => ?_) | refine aIf_mk (fun h2 => ?_) (fun h2 => ?_)
      · have hlt : i < Q.1.length := by
          have h2' : (i : Int) < (Y.1.1.length : Int) := h2
          omega
        have hlt2 : i < Y.1.1.length := by omega
        have e1 : ((i : Int)).toNat = i := by omega
        obtain ⟨w, hw⟩ : ∃ w : Job, elt tJob Q.1 i = w := ⟨_, rfl⟩
        obtain ⟨k, hk⟩ : ∃ k : Job, elt tJob Y.1.1 i = k := ⟨_, rfl⟩
        have hdq : Q.1.drop i = w :: Q.1.drop (i + 1) := by rw [List.drop_eq_getElem_cons hlt, ← hw, eltJ hlt]
        have hdr : Y.1.1.drop i = k :: Y.1.1.drop (i + 1) := by rw [List.drop_eq_getElem_cons hlt2, ← hk, eltJ hlt2]
        obtain ⟨mw, tw⟩ := memQ hlt
        rw [hw] at mw tw
        have tw : w.2.2.2.2.2.1 ≤ Q.2.2 := tw
        obtain ⟨a1, a2, a3, a4, a5, a6, a7, a8, a9, a10, a11⟩ := mayJ_iff mw
        conv => whnf
        refine And.intro (by omega) (And.intro (by omega) ?_)
        conv => whnf
        refine And.intro (by omega) (And.intro (by omega) ?_)
        conv => whnf
        rw [e1, hw, hk]
        have w1 : ∀ z : Int, 0 ≤ z → z ≤ 1099511627776 → IntKind.i64.wrap (z + 1) = z + 1 := fun z h1 h2 => i64_at rfl (by omega)
        refine aIf_mk (fun h => ?_) (fun h => ?_)
        · have hkw : k = w := eqJ_iff.1 h
          conv => whnf
          refine ⟨(i + 1, c), [], [.old 0, .old 1, .old 2], ⟨(show i + 1 ≤ Q.1.length by omega), ?_⟩, (show Q.1.length - (i + 1) < Q.1.length - i by omega), ?_⟩
          · rcases hcase with ⟨c0, r1, r2⟩ | ⟨c1, r1, r2⟩
            · rw [hdq, hdr, leaseL] at r1
              rw [hdq, leaseL] at r2
              by_cases hc : rdy now w = true ∧ w.2.2.2.2.1 ≠ 10
              · rw [if_pos hc] at r1
                injection r1 with r1 _
                rw [hkw] at r1
                have : w.2.2.2.2.2.1 = Q.2.2 + 1 := by rw [r1]; rfl
                omega
              · rw [if_neg hc] at r1 r2
                injection r1 with r1 r3
                exact .inl ⟨c0, r3, r2⟩
            · rw [hdq, hdr] at r1
              injection r1 with _ r3
              exact .inr ⟨c1, r3, r2⟩
          · repeat' (first | exact trivial | exact rfl | exact .inl rfl | (exact .inr rfl) | refine And.intro ?_ ?_)
            exact i64_at rfl (by omega)
        · have hkw : k ≠ w := fun hh => by
            have := eqJ_iff.2 hh
            have h' : eqJ k w = false := h
            rw [this] at h'
            cases h'
          rcases hcase with ⟨c0, r1, r2⟩ | ⟨c1, r1, r2⟩
          · rw [hdq, hdr, leaseL] at r1
            rw [hdq, leaseL] at r2
            by_cases hc : rdy now w = true ∧ w.2.2.2.2.1 ≠ 10
            · rw [if_pos hc] at r1 r2
              injection r1 with r1 r3
              have hr := hc.1
              simp only [rdy, Bool.and_eq_true, decide_eq_true_eq] at hr
              obtain ⟨y1, y2⟩ := hJ _ r2
              obtain ⟨n1, n2⟩ := hn
              obtain ⟨s1, s2⟩ := hs
              have y3 : k = Y.2.1 := by rw [y1]; exact r1
              conv => whnf
              refine ACall.use0 (c15 w) rfl ?_
              conv => whnf
              refine aIf_not (fun h => absurd h (by rw [hr.1]; simp)) (fun _ => ?_)
              conv => whnf
              first | refine aIf_dec (fun h5 => ?_) (fun h5 => ?_) | refine aIf_beq (fun h5 => ?_) (fun h5 => ?_) | refine aIf_bne (fun h5 => ?_) (fun h5 => ?_) | refine aIf_not (fun h5 => ?_) (fun h5 => ?_) | refine aIf_mk (fun h5 => ?_) (fun h5 => ?_)
              · exact absurd hr.2 (by omega)
              · conv => whnf
                refine aIf_beq (fun h => absurd h (by rw [r1]; show ¬ (2 : Int) = 5; decide)) (fun _ => ?_)
                conv => whnf
                refine aIf_mk (fun h => absurd h (by show ¬ (!(eqJ k Y.2.1)) = true; rw [eqJ_iff.2 y3]; simp)) (fun _ => ?_)
                conv => whnf
                refine aIf_bne (fun h => absurd (show k.2.2.2.2.2.1 = IntKind.i64.wrap (Q.2.2 + 1) by rw [w1 _ g4.1 g4.2, r1]; rfl) h) (fun _ => ?_)
                conv => whnf
                refine aIf_bne (fun h => absurd (show k.2.2.2.2.1 = IntKind.i64.wrap (w.2.2.2.2.1 + 1) by rw [w1 _ a10 (by omega), r1]; rfl) h) (fun _ => ?_)
                conv => whnf
                refine aIf_bne (fun h => absurd (show k.2.2.2.1 = 2 by rw [r1]; rfl) h) (fun _ => ?_)
                conv => whnf
                first | refine aIf_dec (fun h6 => ?_) (fun h6 => ?_) | refine aIf_beq (fun h6 => ?_) (fun h6 => ?_) | refine aIf_bne (fun h6 => ?_) (fun h6 => ?_) | refine aIf_not (fun h6 => ?_) (fun h6 => ?_) | refine aIf_mk (fun h6 => ?_) (fun h6 => ?_)
                · have : k.2.2.2.2.2.2.1 = min (now + span) 1099511627776 := by rw [r1]; rfl
                  exact absurd h6 (by omega)
                · conv => whnf
                  refine ⟨(i + 1, 1), [], [.old 0, .old 1, .old 2], ⟨(show i + 1 ≤ Q.1.length by omega), .inr ⟨rfl, r3, by rw [r2]; rfl⟩⟩, (show Q.1.length - (i + 1) < Q.1.length - i by omega), ?_⟩
                  repeat' (first | exact trivial | exact rfl | exact .inl rfl | (exact .inr rfl) | refine And.intro ?_ ?_)
                  · conv => whnf
                    rw [c0]
                    exact i64_at rfl (by omega)
                  · exact i64_at rfl (by omega)
            · rw [if_neg hc] at r1 r2
              injection r1 with r1 r3
              have hd : rdy now w = true ∧ w.2.2.2.2.1 = 10 := by
                refine Classical.byContradiction fun hh => hkw ?_
                rw [r1, deadJ, if_neg hh]
              have hr := hd.1
              simp only [rdy, Bool.and_eq_true, decide_eq_true_eq] at hr
              have hk5 : k = stG 5 w := by rw [r1, deadJ, if_pos hd]
              conv => whnf
              refine ACall.use0 (c15 w) rfl ?_
              conv => whnf
              refine aIf_not (fun h => absurd h (by rw [hr.1]; simp)) (fun _ => ?_)
              conv => whnf
              first | refine aIf_dec (fun h5 => ?_) (fun h5 => ?_) | refine aIf_beq (fun h5 => ?_) (fun h5 => ?_) | refine aIf_bne (fun h5 => ?_) (fun h5 => ?_) | refine aIf_not (fun h5 => ?_) (fun h5 => ?_) | refine aIf_mk (fun h5 => ?_) (fun h5 => ?_)
              · exact absurd hr.2 (by omega)
              · conv => whnf
                refine aIf_beq (fun _ => ?_) (fun h => absurd (show k.2.2.2.1 = 5 by rw [hk5]; rfl) h)
                conv => whnf
                refine aIf_beq (fun _ => ?_) (fun h => absurd hd.2 h)
                conv => whnf
                refine ⟨(i + 1, c), [], [.old 0, .old 1, .old 2], ⟨(show i + 1 ≤ Q.1.length by omega), .inl ⟨c0, r3, r2⟩⟩, (show Q.1.length - (i + 1) < Q.1.length - i by omega), ?_⟩
                repeat' (first | exact trivial | exact rfl | exact .inl rfl | (exact .inr rfl) | refine And.intro ?_ ?_)
                exact i64_at rfl (by omega)
          · rw [hdq, hdr] at r1
            injection r1 with r1 _
            exact absurd r1 hkw
      · have hle : Q.1.length ≤ i := by
          have h2' : ¬ (i : Int) < (Y.1.1.length : Int) := h2
          omega
        conv => whnf
        first | refine aIf_dec (fun h7 => ?_) (fun h7 => ?_) | refine aIf_beq (fun h7 => ?_) (fun h7 => ?_) | refine aIf_bne (fun h7 => ?_) (fun h7 => ?_) | refine aIf_not (fun h7 => ?_) (fun h7 => ?_) | refine aIf_mk (fun h7 => ?_) (fun h7 => ?_)
        · conv => whnf
          refine ⟨[], _, _, ?_, rfl, rfl⟩
          repeat' (first | exact trivial | exact rfl | exact .inl rfl | (exact .inr rfl) | refine And.intro ?_ ?_)
        · have c0 : c = 0 := by
            have h7' : ¬ (c : Int) = 1 := h7
            rcases hcase with ⟨c0, _⟩ | ⟨c1, _⟩ <;> omega
          have hn0 : o = none := by
            rcases hcase with ⟨_, _, r2⟩ | ⟨c1, _⟩
            · rw [r2, List.drop_eq_nil_of_le hle]; rfl
            · omega
          obtain ⟨y1, y2⟩ := hJ0 hn0
          subst c0
          conv => whnf
          refine aIf_beq (fun _ => ?_) (fun h => absurd rfl h)
          conv => whnf
          refine aIf_mk (fun _ => ?_) (fun h => absurd h (by show ¬ eqJ Y.2.1 job0 = false; rw [eqJ_iff.2 y1]; simp))
          conv => whnf
          refine ⟨[], _, _, ?_, rfl, rfl⟩
          repeat' (first | exact trivial | exact rfl | exact .inl rfl | (exact .inr rfl) | refine And.intro ?_ ?_)
          conv => whnf
          show (Y.1.2.2 == Q.2.2) = true
          rw [y2]
          simp
end Go.Proofs.Try
