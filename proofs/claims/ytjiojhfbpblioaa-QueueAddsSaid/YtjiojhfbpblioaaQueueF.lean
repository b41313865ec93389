import Derived.Test.YtjiojhfbpblioaaQueueE
namespace Go.Proofs.Try
open Go.AM

theorem rightFrom_at {q : Queue} : ∀ (l : List Job) (last : Int), rightFrom q last l = true → ∀ i (hi : i < l.length), mayJ l[i] = true ∧ last < l[i].1 ∧ l[i].1 ≤ q.2.1 ∧ l[i].2.2.2.2.2.1 ≤ q.2.2 ∧ (opn l[i] = true → q.1.any (hold l[i].2.1 l[i].1) = false)
  | j :: r, last, h, i, hi => by
    simp only [rightFrom, Bool.and_eq_true, Bool.not_eq_true', decide_eq_false_iff_not, Bool.and_eq_false_iff] at h
    obtain ⟨⟨⟨⟨⟨h1, h2⟩, h3⟩, h4⟩, h5⟩, h6⟩ := h
    cases i with
    | zero => exact ⟨h1, by simp; omega, by simp; omega, by simp; omega, fun ho => h5.resolve_left (by rw [show opn j = true from ho]; simp)⟩
    | succ i =>
      obtain ⟨k1, k2, k3⟩ := rightFrom_at r j.1 h6 i (by simpa using hi)
      exact ⟨k1, by simp; omega, k3⟩
theorem goodQ_iff {q : Queue} (h : goodQ q = true) : rightFrom q 0 q.1 = true ∧ q.1.length ≤ 64 ∧ inT q.2.1 ∧ inT q.2.2 := by
  simp only [goodQ, Bool.and_eq_true, Bool.not_eq_true', decide_eq_true_eq, List.any_cons, List.any_nil, Bool.or_false, Bool.or_eq_false_iff] at h
  exact ⟨h.1.1, by omega, inT_of h.2.1, inT_of h.2.2⟩
theorem goodQ_may {q : Queue} (h : goodQ q = true) {i : Nat} (hi : i < q.1.length) : mayJ (elt tJob q.1 i) = true := by
  rw [eltJ hi]
  exact (rightFrom_at _ _ (goodQ_iff h).1 i hi).1
theorem mayJ_iff {j : Job} (h : mayJ j = true) : 1 ≤ j.1 ∧ inT j.1 ∧ inT j.2.2.2.2.2.1 ∧ inT j.2.2.2.2.2.2.1 ∧ inT j.2.2.2.2.2.2.2 ∧ j.2.1.length ≤ 200 ∧ j.2.2.1.length ≤ 200 ∧ 1 ≤ j.2.2.2.1 ∧ j.2.2.2.1 ≤ 5 ∧ 0 ≤ j.2.2.2.2.1 ∧ j.2.2.2.2.1 ≤ 10 := by
  simp only [mayJ, List.any_cons, List.any_nil, Bool.or_false, Bool.and_eq_true, Bool.not_eq_true', decide_eq_true_eq, Bool.or_eq_false_iff] at h
  obtain ⟨⟨⟨⟨⟨⟨⟨h1, h2⟩, h3⟩, h4⟩, h5⟩, h6⟩, h7⟩, h8⟩ := h
  exact ⟨h1, inT_of h2.1, inT_of h2.2.1, inT_of h2.2.2.1, inT_of h2.2.2.2, by omega, by omega, h5, h6, h7, h8⟩

def changeN (q : Queue) (id : Int) (times : Bool) (F : Job → Int) (G : Job → Job) : Queue × Int :=
  if goodQ q = false ∨ times = false then (([], 0, 0), 1)
  else if idxOf (isId id) q.1 < 0 then (([], 0, 0), 9)
  else if F (elt tJob q.1 (idxOf (isId id) q.1).toNat) ≠ 0 then (([], 0, 0), F (elt tJob q.1 (idxOf (isId id) q.1).toNat))
  else ((q.1.set (idxOf (isId id) q.1).toNat (G (elt tJob q.1 (idxOf (isId id) q.1).toNat)), q.2.1, q.2.2), 0)

set_option maxRecDepth 100000 in
theorem c51s (q : Queue) (id : Int) (times : Bool) (F : Job → Int) (G : Job → Job) (hl : q.1.length ≤ 9223372036854775807)
    (hdo : times = true → ∀ (l : List Job) (i : Nat), i < l.length → mayJ (elt tJob l i) = true → ACall E 52 [.eptr tJob 0 i 0] [.arr tJob l true] (fun r h' => r = .ret (.int .i64 (F (elt tJob l i))) ∧ h' = [.arr tJob (l.set i (G (elt tJob l i))) true])) :
    ACall E 51 [queueV q, .int .i64 id, .bool times, .fn (.func 52) [] []] [] (fun r h' => r = .ret (.tup [queueV (changeN q id times F G).1, .int .i64 (changeN q id times F G).2]) ∧ h' = []) := by
  refine ACall.body envOK func51 rfl rfl rfl ?_
  conv => whnf
  refine ACall.use0 (c13 q hl) rfl ?_
  conv => whnf
  first | refine aIf_dec (fun h1 => ?_) (fun h1 => ?_) | refine aIf_beq (fun h1 => ?_) (fun h1 => ?_) | refine aIf_bne (fun h1 => ?_) (fun h1 => ?_) | refine aIf_not (fun h1 => ?_) (fun h1 => ?_) | refine aIf_mk (fun h1 => ?_) (fun h1 => ?_)
  · rw [show changeN q id times F G = (([], 0, 0), 1) from by (first | (simp [changeN, *]; done) | (simp [changeN, *] <;> omega) | (simp_all [changeN]; done) | (simp_all [changeN] <;> omega))]
    conv => whnf
    refine ⟨[], _, _, ?_, rfl, rfl⟩
    repeat' (first | exact trivial | exact rfl | exact .inl rfl | (exact .inr rfl) | refine And.intro ?_ ?_)
  · conv => whnf
    first | refine aIf_dec (fun h2 => ?_) (fun h2 => ?_) | refine aIf_beq (fun h2 => ?_) (fun h2 => ?_) | refine aIf_bne (fun h2 => ?_) (fun h2 => ?_) | refine aIf_not (fun h2 => ?_) (fun h2 => ?_) | refine aIf_mk (fun h2 => ?_) (fun h2 => ?_)
    · rw [show changeN q id times F G = (([], 0, 0), 1) from by (first | (simp [changeN, *]; done) | (simp [changeN, *] <;> omega) | (simp_all [changeN]; done) | (simp_all [changeN] <;> omega))]
      conv => whnf
      refine ⟨[], _, _, ?_, rfl, rfl⟩
      repeat' (first | exact trivial | exact rfl | exact .inl rfl | (exact .inr rfl) | refine And.intro ?_ ?_)
    · obtain ⟨g1, g2, g3, g4⟩ := goodQ_iff h1
      conv => whnf
      refine ACall.use [1] (c47i id q.1 false hl) rfl (by repeat' (first | exact trivial | exact rfl | exact .inl rfl | refine And.intro ?_ ?_)) (by repeat' (first | exact trivial | exact rfl | exact .inl rfl | refine And.intro ?_ ?_)) ?_
      conv => whnf
      first | refine aIf_dec (fun h3 => ?_) (fun h3 => ?_) | refine aIf_beq (fun h3 => ?_) (fun h3 => ?_) | refine aIf_bne (fun h3 => ?_) (fun h3 => ?_) | refine aIf_not (fun h3 => ?_) (fun h3 => ?_) | refine aIf_mk (fun h3 => ?_) (fun h3 => ?_)
      · rw [show changeN q id times F G = (([], 0, 0), 9) from by (first | (simp [changeN, *]; done) | (simp [changeN, *] <;> omega) | (simp_all [changeN]; done) | (simp_all [changeN] <;> omega))]
        conv => whnf
        refine ⟨[], _, _, ?_, rfl, rfl⟩
        repeat' (first | exact trivial | exact rfl | exact .inl rfl | (exact .inr rfl) | refine And.intro ?_ ?_)
      · have h3' : ¬ idxOf (isId id) q.1 < 0 := h3
        obtain ⟨i, hi, hil, _, _⟩ := idxOf_lt (p := isId id) (l := q.1) (by omega)
        have hn : changeN q id times F G = if F (elt tJob q.1 i) ≠ 0 then (([], 0, 0), F (elt tJob q.1 i)) else ((q.1.set i (G (elt tJob q.1 i)), q.2.1, q.2.2), 0) := by
          rw [changeN, if_neg (by rw [h1]; simpa using h2), if_neg h3', hi]
          rfl
        rw [hn, hi]
        conv => whnf
        refine ACall.use [] (c39 q.1 (by omega)) rfl trivial (by repeat' (first | exact trivial | exact rfl | exact .inl rfl | refine And.intro ?_ ?_)) ?_
        conv => whnf
        refine And.intro (by omega) (And.intro (by omega) ?_)
        conv => whnf
        refine ACall.use [3] (hdo (by simpa using h2) q.1 i hil (goodQ_may h1 hil)) rfl (by repeat' (first | exact trivial | exact rfl | exact .inl rfl | refine And.intro ?_ ?_)) (by repeat' (first | exact trivial | exact rfl | exact .inl rfl | refine And.intro ?_ ?_)) ?_
        conv => whnf
        first | refine aIf_dec (fun h5 => ?_) (fun h5 => ?_) | refine aIf_beq (fun h5 => ?_) (fun h5 => ?_) | refine aIf_bne (fun h5 => ?_) (fun h5 => ?_) | refine aIf_not (fun h5 => ?_) (fun h5 => ?_) | refine aIf_mk (fun h5 => ?_) (fun h5 => ?_)
        · rw [if_pos h5]
          conv => whnf
          refine ⟨[], _, _, ?_, rfl, rfl⟩
          repeat' (first | exact trivial | exact rfl | exact .inl rfl | (exact .inr rfl) | refine And.intro ?_ ?_)
        · rw [if_neg (by simpa using h5)]
          conv => whnf
          refine ⟨[], _, _, ?_, rfl, rfl⟩
          repeat' (first | exact trivial | exact rfl | exact .inl rfl | (exact .inr rfl) | refine And.intro ?_ ?_)
end Go.Proofs.Try
