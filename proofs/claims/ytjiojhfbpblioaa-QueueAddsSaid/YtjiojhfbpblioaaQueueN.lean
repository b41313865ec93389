import Derived.Test.YtjiojhfbpblioaaQueueM
namespace Go.Proofs.Try
open Go.AM

theorem change_ok {q : Queue} {id : Int} {times : Bool} {F : Job → Int} {G : Job → Job} (h : (changeN q id times F G).2 = 0) : goodQ q = true ∧ times = true ∧ ∃ i : Nat, idxOf (isId id) q.1 = i ∧ i < q.1.length ∧ (elt tJob q.1 i).1 = id ∧ F (elt tJob q.1 i) = 0 ∧
    changeN q id times F G = ((q.1.set i (G (elt tJob q.1 i)), q.2.1, q.2.2), 0) := by
  unfold changeN at h ⊢
  by_cases h1 : goodQ q = false ∨ times = false
  · rw [if_pos h1] at h; simp at h
  · rw [if_neg h1] at h ⊢
    by_cases h2 : idxOf (isId id) q.1 < 0
    · rw [if_pos h2] at h; simp at h
    · rw [if_neg h2] at h ⊢
      obtain ⟨i, hi, hil, hp, _⟩ := idxOf_lt (p := isId id) (l := q.1) (by omega)
      rw [hi] at h ⊢
      rw [show ((i : Int)).toNat = i from rfl] at h ⊢
      by_cases h3 : F (elt tJob q.1 i) = 0
      · have g : goodQ q = true := by
          cases hq : goodQ q with
          | true => rfl
          | false => exact absurd (.inl hq) h1
        have t : times = true := by
          cases hq : times with
          | true => rfl
          | false => exact absurd (.inr hq) h1
        refine ⟨g, t, i, rfl, hil, ?_, h3, by rw [if_neg (by simpa using h3)]⟩
        rw [eltJ hil]
        simpa [isId] using hp
      · rw [if_pos h3] at h; exact absurd h h3
theorem change_bad {q : Queue} {id : Int} {times : Bool} {F : Job → Int} {G : Job → Job} (h : ¬ (changeN q id times F G).2 = 0) : (changeN q id times F G).1 = ([], 0, 0) := by
  unfold changeN at h ⊢
  split
  · rfl
  · rename_i h1
    rw [if_neg h1] at h
    split
    · rfl
    · rename_i h2
      rw [if_neg h2] at h
      split
      · rfl
      · rename_i h3
        rw [if_neg h3] at h
        exact absurd rfl h
theorem jrL_set {tok : Int} : ∀ {l : List Job} {i : Nat} {k : Job}, (∀ j ∈ l, mayJ j = true ∧ j.2.2.2.2.2.1 ≤ tok) → (∀ h : i < l.length, jr tok l[i] k) → jrL tok l (l.set i k)
  | [], _, _, _, _ => trivial
  | j :: r, 0, k, h, hk => ⟨hk (by simp), jrL_refl fun x hx => h x (List.mem_cons_of_mem _ hx)⟩
  | j :: r, i + 1, k, h, hk => ⟨⟨rfl, rfl, (h j List.mem_cons_self).1, (h j List.mem_cons_self).2, fun ho => ho⟩, jrL_set (fun x hx => h x (List.mem_cons_of_mem _ hx)) (fun hi => hk (by simpa using hi))⟩
theorem goodQ_set {q : Queue} {i : Nat} {k : Job} (hg : goodQ q = true) (_hi : i < q.1.length) (hk : jr q.2.2 (elt tJob q.1 i) k) : goodQ (q.1.set i k, q.2.1, q.2.2) = true :=
  goodQ_rel hg (jrL_set (fun j hj => ⟨(goodQ_mem hg hj).1, (goodQ_mem hg hj).2.1⟩) (fun h => by rw [← eltJ h]; exact hk)) (goodQ_iff hg).2.2.2
theorem goodQ_elt {q : Queue} {i : Nat} (h : goodQ q = true) (hi : i < q.1.length) : mayJ (elt tJob q.1 i) = true ∧ (elt tJob q.1 i).2.2.2.2.2.1 ≤ q.2.2 ∧ (elt tJob q.1 i).1 ≤ q.2.1 := by
  rw [eltJ hi]; exact goodQ_mem h (List.getElem_mem hi)
theorem lF_0 {token : Int} {F : Job → Int} {j : Job} (h : lF token F j = 0) : j.2.2.2.1 = 2 ∧ j.2.2.2.2.2.1 = token ∧ F j = 0 := by
  unfold lF at h
  split at h
  · omega
  · split at h
    · omega
    · exact ⟨by omega, by omega, h⟩
theorem lG_of {token : Int} {G : Job → Job} {j : Job} (h1 : j.2.2.2.1 = 2) (h2 : j.2.2.2.2.2.1 = token) : lG token G j = G j := by
  unfold lG
  rw [if_neg (by simp [h1]), if_neg (by simp [h2])]

/-- What renewing does where it is done. -/
theorem renew_ok {q : Queue} {id token now span : Int} (h : (renewN q id token now span).2 = 0) : goodQ q = true ∧ inT now ∧ inT span ∧ ∃ i : Nat, idxOf (isId id) q.1 = i ∧ i < q.1.length ∧ (elt tJob q.1 i).1 = id ∧ (elt tJob q.1 i).2.2.2.1 = (2 : Int) ∧ (elt tJob q.1 i).2.2.2.2.2.1 = token ∧
    renewN q id token now span = ((q.1.set i (renewG now span (elt tJob q.1 i)), q.2.1, q.2.2), 0) ∧ goodQ (renewN q id token now span).1 = true := by
  obtain ⟨g, t, i, h1, h2, h3, h4, h5⟩ := change_ok (F := lF token (fun _ => 0)) (G := lG token (renewG now span)) h
  have t' : ([now, span].any out) = false := by simpa using t
  simp only [List.any_cons, List.any_nil, Bool.or_false, Bool.or_eq_false_iff] at t'
  obtain ⟨k1, k2, _⟩ := lF_0 h4
  have e : renewN q id token now span = ((q.1.set i (renewG now span (elt tJob q.1 i)), q.2.1, q.2.2), 0) := by
    show changeN q id _ _ _ = _
    rw [h5, lG_of k1 k2]
  refine ⟨g, inT_of t'.1, inT_of t'.2, i, h1, h2, h3, k1, k2, e, ?_⟩
  rw [e]
  obtain ⟨m1, m2, _⟩ := goodQ_elt g h2
  refine goodQ_set g h2 ⟨rfl, rfl, ?_, m2, fun ho => ho⟩
  obtain ⟨a1, a2, a3, a4, a5, a6, a7, a8, a9, a10, a11⟩ := mayJ_iff m1
  obtain ⟨n1, n2⟩ := inT_of t'.1
  obtain ⟨n3, n4⟩ := inT_of t'.2
  exact mayJ_mk a1 a2 a3 ⟨by simp only [renewG]; omega, by simp only [renewG]; omega⟩ a5 a6 a7 a8 a9 a10 a11
theorem mark_ok {q : Queue} {id token point : Int} (h : (markN q id token point).2 = 0) : goodQ q = true ∧ ∃ i : Nat, idxOf (isId id) q.1 = i ∧ i < q.1.length ∧ (elt tJob q.1 i).1 = id ∧ (elt tJob q.1 i).2.2.2.1 = (2 : Int) ∧ (elt tJob q.1 i).2.2.2.2.2.1 = token ∧ (elt tJob q.1 i).2.2.2.2.2.2.2 ≤ point ∧ point ≤ 1099511627776 ∧
    markN q id token point = ((q.1.set i ((elt tJob q.1 i).1, (elt tJob q.1 i).2.1, (elt tJob q.1 i).2.2.1, (elt tJob q.1 i).2.2.2.1, (elt tJob q.1 i).2.2.2.2.1, (elt tJob q.1 i).2.2.2.2.2.1, (elt tJob q.1 i).2.2.2.2.2.2.1, point), q.2.1, q.2.2), 0) ∧ goodQ (markN q id token point).1 = true := by
  obtain ⟨g, t, i, h1, h2, h3, h4, h5⟩ := change_ok (F := lF token (markF point)) (G := lG token (markG point)) h
  obtain ⟨k1, k2, k3⟩ := lF_0 h4
  have hp : ¬ (point < (elt tJob q.1 i).2.2.2.2.2.2.2 ∨ point > 1099511627776) := by
    intro hh
    rw [markF, if_pos hh] at k3
    cases k3
  have hp1 : (elt tJob q.1 i).2.2.2.2.2.2.2 ≤ point := Int.not_lt.1 fun hh => hp (.inl hh)
  have hp2 : point ≤ 1099511627776 := Int.not_lt.1 fun hh => hp (.inr hh)
  have e : markN q id token point = ((q.1.set i ((elt tJob q.1 i).1, (elt tJob q.1 i).2.1, (elt tJob q.1 i).2.2.1, (elt tJob q.1 i).2.2.2.1, (elt tJob q.1 i).2.2.2.2.1, (elt tJob q.1 i).2.2.2.2.2.1, (elt tJob q.1 i).2.2.2.2.2.2.1, point), q.2.1, q.2.2), 0) := by
    show changeN q id _ _ _ = _
    rw [h5, lG_of k1 k2, markG, if_neg hp]
  refine ⟨g, i, h1, h2, h3, k1, k2, hp1, hp2, e, ?_⟩
  rw [e]
  obtain ⟨m1, m2, _⟩ := goodQ_elt g h2
  refine goodQ_set g h2 ⟨rfl, rfl, ?_, m2, fun ho => ho⟩
  obtain ⟨a1, a2, a3, a4, a5, a6, a7, a8, a9, a10, a11⟩ := mayJ_iff m1
  exact mayJ_mk a1 a2 a3 a4 ⟨Int.le_trans a5.1 hp1, hp2⟩ a6 a7 a8 a9 a10 a11

abbrev kS (id token now point : Int) (at' : Int) (e f : Int) : Slots := [(1, .int .i64 id), (2, .int .i64 token), (3, .int .i64 now), (5, .int .i64 point), (6, .ptr 0 0), (12, .f), (13, .ptr 1 0), (14, .int .i64 e), (15, .ptr 2 0), (16, .int .i64 f), (17, .int .i64 at')]
abbrev kH (Q A B : Queue) : Heap := [.var [.sl tJob Q.1 false, .int .i64 Q.2.1, .int .i64 Q.2.2], .var [.sl tJob A.1 false, .int .i64 A.2.1, .int .i64 A.2.2], .var [.sl tJob B.1 false, .int .i64 B.2.1, .int .i64 B.2.2]]

set_option maxRecDepth 100000 in
set_option maxHeartbeats 8000000 in
theorem c4 (n : Queue) (id token now span point : Int) : ACall E 4 [queueV n, .int .i64 id, .int .i64 token, .int .i64 now, .int .i64 span, .int .i64 point] [] (fun r h' => r = .ret (.bool true) ∧ h' = []) := by
  refine ACall.bodyJ envOK func4 rfl rfl rfl ?_
  conv => whnf
  refine ACall.use0 (c10 n) rfl ?_
  have hQ1 : (fewQ n).1.length ≤ 66 := fewQ_ok n
  generalize fewQ n = Q at hQ1 ⊢
  conv => whnf
  refine ACall.use0 (c16 Q id token now span (by omega)) rfl ?_
  have rk := @renew_ok Q id token now span
  generalize renewN Q id token now span = A at rk ⊢
  conv => whnf
  refine ACall.use0 (c17 Q id token point (by omega)) rfl ?_
  have mk := @mark_ok Q id token point
  generalize markN Q id token point = B at mk ⊢
  conv => whnf
  refine ACall.use0 (c18 Q id (by omega)) rfl ?_
  conv => whnf
  apply share
  · intro tail
    first | refine aIf_dec (fun h1 => ?_) (fun h1 => ?_) | refine aIf_beq (fun h1 => ?_) (fun h1 => ?_) | refine aIf_bne (fun h1 => ?_) (fun h1 => ?_) | refine aIf_not (fun h1 => ?_) (fun h1 => ?_) | refine aIf_mk (fun h1 => ?_) (fun h1 => ?_)
    · obtain ⟨g, ⟨n1, n2⟩, ⟨n3, n4⟩, i, hi, hil, hid, hst, htk, hA, gA⟩ := rk h1
      have hA1 : A.1.1 = Q.1.set i (renewG now span (elt tJob Q.1 i)) := by rw [hA]
      have hAl : A.1.1.length = Q.1.length := by rw [hA1, List.length_set]
      have hAe : elt tJob A.1.1 i = renewG now span (elt tJob Q.1 i) := by rw [hA1]; exact elt_set hil
      obtain ⟨j, hj⟩ : ∃ j : Job, elt tJob Q.1 i = j := ⟨_, rfl⟩
      rw [hj] at hAe hst
      conv => whnf
      first | refine aIf_dec (fun h2 => ?_) (fun h2 => ?_) | refine aIf_beq (fun h2 => ?_) (fun h2 => ?_) | refine aIf_bne (fun h2 => ?_) (fun h2 => ?_) | refine aIf_not (fun h2 => ?_) (fun h2 => ?_) | refine aIf_mk (fun h2 => ?_) (fun h2 => ?_)
      · exact absurd h2 (by omega)
      · conv => whnf
        refine aIf_bne (fun h => absurd (show (A.1.1.length : Int) = (Q.1.length : Int) by rw [hAl]) h) (fun _ => ?_)
        conv => whnf
        rw [hi]
        refine And.intro (by omega) (And.intro (by omega) ?_)
        rw [show ((i : Int)).toNat = i from rfl, hj]
        conv => whnf
        refine And.intro (by omega) (And.intro (by omega) ?_)
        rw [show ((i : Int)).toNat = i from rfl, hAe]
        conv => whnf
        first | refine aIf_dec (fun h3 => ?_) (fun h3 => ?_) | refine aIf_beq (fun h3 => ?_) (fun h3 => ?_) | refine aIf_bne (fun h3 => ?_) (fun h3 => ?_) | refine aIf_not (fun h3 => ?_) (fun h3 => ?_) | refine aIf_mk (fun h3 => ?_) (fun h3 => ?_)
        · have : (renewG now span j).2.2.2.2.2.2.1 = min (now + span) 1099511627776 := rfl
          exact absurd h3 (by omega)
        · conv => whnf
          refine aIf_bne (fun h => absurd rfl h) (fun _ => ?_)
          conv => whnf
          refine aIf_mk (fun h => absurd h (by simp [renewG])) (fun _ => ?_)
          conv => whnf
          refine aIf_mk (fun h => absurd h (by simp [renewG])) (fun _ => ?_)
          conv => whnf
          refine aIf_bne (fun h => absurd rfl h) (fun _ => ?_)
          conv => whnf
          refine aIf_bne (fun h => absurd hst h) (fun _ => ?_)
          conv => whnf
          refine jn_at [] [.old 0, .old 1, .old 2] (kS id token now point (idxOf (isId id) Q.1) A.2 B.2) (kH Q A.1 B.1) ?_ tail.out
          repeat' (first | exact trivial | exact rfl | exact .inl rfl | (exact .inr rfl) | refine And.intro ?_ ?_)
          exact hi.symm
    · conv => whnf
      refine jn_at [] [.old 0, .old 1, .old 2] (kS id token now point (idxOf (isId id) Q.1) A.2 B.2) (kH Q A.1 B.1) ?_ tail.out
      repeat' (first | exact trivial | exact rfl | exact .inl rfl | (exact .inr rfl) | refine And.intro ?_ ?_)
  · apply share
    · intro tail
      conv => whnf
      first | refine aIf_dec (fun h1 => ?_) (fun h1 => ?_) | refine aIf_beq (fun h1 => ?_) (fun h1 => ?_) | refine aIf_bne (fun h1 => ?_) (fun h1 => ?_) | refine aIf_not (fun h1 => ?_) (fun h1 => ?_) | refine aIf_mk (fun h1 => ?_) (fun h1 => ?_)
      · obtain ⟨g, i, hi, hil, hid, hst, htk, hp1, hp2, hB, gB⟩ := mk h1
        have hB1 := congrArg (fun x => x.1.1) hB
        simp only [] at hB1
        have hBl : B.1.1.length = Q.1.length := by rw [hB1, List.length_set]
        have hBe : elt tJob B.1.1 i = ((elt tJob Q.1 i).1, (elt tJob Q.1 i).2.1, (elt tJob Q.1 i).2.2.1, (elt tJob Q.1 i).2.2.2.1, (elt tJob Q.1 i).2.2.2.2.1, (elt tJob Q.1 i).2.2.2.2.2.1, (elt tJob Q.1 i).2.2.2.2.2.2.1, point) := by rw [hB1]; exact elt_set hil
        obtain ⟨j, hj⟩ : ∃ j : Job, elt tJob Q.1 i = j := ⟨_, rfl⟩
        rw [hj] at hBe hst
        conv => whnf
        first | refine aIf_dec (fun h2 => ?_) (fun h2 => ?_) | refine aIf_beq (fun h2 => ?_) (fun h2 => ?_) | refine aIf_bne (fun h2 => ?_) (fun h2 => ?_) | refine aIf_not (fun h2 => ?_) (fun h2 => ?_) | refine aIf_mk (fun h2 => ?_) (fun h2 => ?_)
        · exact absurd h2 (by omega)
        · conv => whnf
          refine aIf_bne (fun h => absurd (show (B.1.1.length : Int) = (Q.1.length : Int) by rw [hBl]) h) (fun _ => ?_)
          conv => whnf
          rw [hi]
          refine And.intro (by omega) (And.intro (by omega) ?_)
          rw [show ((i : Int)).toNat = i from rfl, hj]
          conv => whnf
          refine And.intro (by omega) (And.intro (by omega) ?_)
          rw [show ((i : Int)).toNat = i from rfl, hBe]
          conv => whnf
          refine aIf_bne (fun h => absurd rfl h) (fun _ => ?_)
          conv => whnf
          refine aIf_bne (fun h => absurd rfl h) (fun _ => ?_)
          conv => whnf
          refine aIf_mk (fun h => absurd h (by simp)) (fun _ => ?_)
          conv => whnf
          refine aIf_bne (fun h => absurd rfl h) (fun _ => ?_)
          conv => whnf
          refine aIf_bne (fun h => absurd hst h) (fun _ => ?_)
          conv => whnf
          refine jn_at [] [.old 0, .old 1, .old 2] (kS id token now point (idxOf (isId id) Q.1) A.2 B.2) (kH Q A.1 B.1) ?_ tail.out
          repeat' (first | exact trivial | exact rfl | exact .inl rfl | (exact .inr rfl) | refine And.intro ?_ ?_)
          exact hi.symm
      · conv => whnf
        refine jn_at [] [.old 0, .old 1, .old 2] (kS id token now point (idxOf (isId id) Q.1) A.2 B.2) (kH Q A.1 B.1) ?_ tail.out
        repeat' (first | exact trivial | exact rfl | exact .inl rfl | (exact .inr rfl) | refine And.intro ?_ ?_)
    · conv => whnf
      refine ACall.use0 (c12) rfl ?_
      conv => whnf
      refine aIf_mk (fun _ => ?_) (fun h => absurd h (by simp))
      conv => whnf
      have la : A.2 = 0 → A.1.1.length ≤ 9223372036854775807 ∧ goodQ A.1 = true := fun h => by
        obtain ⟨_, _, _, _, _, _, _, _, _, _, gA⟩ := rk h
        have := (goodQ_iff gA).2.1
        exact ⟨by omega, gA⟩
      have lb : B.2 = 0 → B.1.1.length ≤ 9223372036854775807 ∧ goodQ B.1 = true := fun h => by
        obtain ⟨_, _, _, _, _, _, _, _, _, _, gB⟩ := mk h
        have := (goodQ_iff gB).2.1
        exact ⟨by omega, gB⟩
      first | refine aIf_dec (fun h1 => ?_) (fun h1 => ?_) | refine aIf_beq (fun h1 => ?_) (fun h1 => ?_) | refine aIf_bne (fun h1 => ?_) (fun h1 => ?_) | refine aIf_not (fun h1 => ?_) (fun h1 => ?_) | refine aIf_mk (fun h1 => ?_) (fun h1 => ?_)
      · conv => whnf
        first | refine aIf_dec (fun h2 => ?_) (fun h2 => ?_) | refine aIf_beq (fun h2 => ?_) (fun h2 => ?_) | refine aIf_bne (fun h2 => ?_) (fun h2 => ?_) | refine aIf_not (fun h2 => ?_) (fun h2 => ?_) | refine aIf_mk (fun h2 => ?_) (fun h2 => ?_)
        · conv => whnf
          refine ⟨[], _, _, ?_, rfl, rfl⟩
          repeat' (first | exact trivial | exact rfl | exact .inl rfl | (exact .inr rfl) | refine And.intro ?_ ?_)
        · conv => whnf
          refine ACall.use0 (c13 B.1 (lb h2).1) rfl ?_
          rw [(lb h2).2]
          conv => whnf
          refine ⟨[], _, _, ?_, rfl, rfl⟩
          repeat' (first | exact trivial | exact rfl | exact .inl rfl | (exact .inr rfl) | refine And.intro ?_ ?_)
      · conv => whnf
        refine ACall.use0 (c13 A.1 (la h1).1) rfl ?_
        rw [(la h1).2]
        conv => whnf
        refine aIf_mk (fun _ => ?_) (fun h => absurd h (by simp))
        conv => whnf
        first | refine aIf_dec (fun h2 => ?_) (fun h2 => ?_) | refine aIf_beq (fun h2 => ?_) (fun h2 => ?_) | refine aIf_bne (fun h2 => ?_) (fun h2 => ?_) | refine aIf_not (fun h2 => ?_) (fun h2 => ?_) | refine aIf_mk (fun h2 => ?_) (fun h2 => ?_)
        · conv => whnf
          refine ⟨[], _, _, ?_, rfl, rfl⟩
          repeat' (first | exact trivial | exact rfl | exact .inl rfl | (exact .inr rfl) | refine And.intro ?_ ?_)
        · conv => whnf
          refine ACall.use0 (c13 B.1 (lb h2).1) rfl ?_
          rw [(lb h2).2]
          conv => whnf
          refine ⟨[], _, _, ?_, rfl, rfl⟩
          repeat' (first | exact trivial | exact rfl | exact .inl rfl | (exact .inr rfl) | refine And.intro ?_ ?_)
end Go.Proofs.Try
