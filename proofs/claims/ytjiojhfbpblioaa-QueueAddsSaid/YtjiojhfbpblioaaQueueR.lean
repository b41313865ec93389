import Derived.Test.YtjiojhfbpblioaaQueueQ
namespace Go.Proofs.Try
open Go.AM

abbrev jc (m : Job) : AB := .var [.int .i64 m.1, .str m.2.1, .str m.2.2.1, .int .i64 m.2.2.2.1, .int .i64 m.2.2.2.2.1, .int .i64 m.2.2.2.2.2.1, .int .i64 m.2.2.2.2.2.2.1, .int .i64 m.2.2.2.2.2.2.2]
abbrev qc (q : Queue) : AB := .var [.sl tJob q.1 false, .int .i64 q.2.1, .int .i64 q.2.2]
abbrev e8S (id token now span point : Int) (ever : Bool) (e f g h : Int) (r : Slots) : Slots := (1, .int .i64 id) :: (2, .int .i64 token) :: (3, .int .i64 now) :: (4, .int .i64 span) :: (5, .int .i64 point) :: (6, .bool ever) :: (7, .ptr 0 0) :: (14, .f) :: (15, .ptr 1 0) :: (16, .int .i64 e) :: (17, .ptr 2 0) :: (18, .int .i64 f) ::
  (19, .ptr 3 0) :: (20, .int .i64 g) :: (21, .ptr 4 0) :: (22, .int .i64 h) :: r
abbrev e8H (Q A B C D : Queue) (r : Heap) : Heap := qc Q :: qc A :: qc B :: qc C :: qc D :: r

theorem change_len {q : Queue} {id : Int} {times : Bool} {F : Job → Int} {G : Job → Job} : (changeN q id times F G).1.1.length ≤ q.1.length := by
  unfold changeN
  split
  · simp
  · split
    · simp
    · split
      · simp
      · simp
set_option maxRecDepth 100000 in
set_option maxHeartbeats 8000000 in
theorem c8 (n : Queue) (id token now span point : Int) (ever : Bool) (hp : -9223372036854775808 ≤ point ∧ point ≤ 9223372036854775807) : ACall E 8 [queueV n, .int .i64 id, .int .i64 token, .int .i64 now, .int .i64 span, .int .i64 point, .bool ever] [] (fun r h' => r = .ret (.bool true) ∧ h' = []) := by
  refine ACall.bodyJ envOK func8 rfl rfl rfl ?_
  conv => whnf
  refine ACall.use0 (c10 n) rfl ?_
  have hQ1 : (fewQ n).1.length ≤ 66 := fewQ_ok n
  generalize fewQ n = Q at hQ1 ⊢
  conv => whnf
  refine ACall.use0 (c16 Q id token now span (by omega)) rfl ?_
  have ia := is_renew (q := Q) (id := id) (token := token) (now := now) (span := span)
  have la : (renewN Q id token now span).1.1.length ≤ Q.1.length := by
    exact change_len
  generalize renewN Q id token now span = A at ia la ⊢
  conv => whnf
  refine ACall.use0 (c17 Q id token point (by omega)) rfl ?_
  have ib := is_mark (q := Q) (id := id) (token := token) (point := point)
  have lb : (markN Q id token point).1.1.length ≤ Q.1.length := by
    exact change_len
  generalize markN Q id token point = B at ib lb ⊢
  conv => whnf
  refine ACall.use0 (c20 Q id token (by omega)) rfl ?_
  have ic := is_done (q := Q) (id := id) (token := token)
  have lc : (doneN Q id token).1.1.length ≤ Q.1.length := by
    exact change_len
  generalize doneN Q id token = C at ic lc ⊢
  conv => whnf
  refine ACall.use0 (c23 Q id token now ever (by omega)) rfl ?_
  have idd := is_fail (q := Q) (id := id) (token := token) (now := now) (ever := ever)
  have ld : (failN Q id token now ever).1.1.length ≤ Q.1.length := by
    exact change_len
  generalize failN Q id token now ever = D at idd ld ⊢
  conv => whnf
  refine ACall.use0 (c12) rfl ?_
  conv => whnf
  refine aIf_not (fun h => absurd h (by simp)) (fun _ => ?_)
  conv => whnf
  repeat (refine jn_go ?_; conv => whnf)
  refine ACall.use0 (c31 Q id token (by omega)) rfl ?_
  conv => whnf
  refine ACall.use0 (c14 Q (by omega)) rfl ?_
  conv => whnf
  have hok : hB Q id token = 0 → ∃ i : Nat, hA Q id token = i ∧ i < Q.1.length ∧ hX Q id token = elt tJob Q.1 i := fun h => by
    obtain ⟨_, i, _, h2, h3, h4, _⟩ := held_ok h
    exact ⟨i, h2, h3, h4⟩
  have hgo : goodQ Q = true → (heldN Q id token).1 = hA Q id token ∧ (heldN Q id token).2 = hB Q id token := fun h => by simp [hA, hB, h]
  have hba : goodQ Q = false → hA Q id token = 0 ∧ hB Q id token = 1 := fun h => by simp [hA, hB, h]
  have hx0 : hB Q id token ≠ 0 → hX Q id token = job0 := fun h => by rw [hX, if_neg h]
  have hmay : hB Q id token = 0 → mayJ (hX Q id token) = true := fun h => by
    obtain ⟨g, i, _, _, h3, h4, _⟩ := held_ok h
    rw [h4]; exact goodQ_may g h3
  generalize hA Q id token = AT at hok hgo hba ia ib ic idd ⊢
  generalize hX Q id token = X at hok hx0 hmay ia ib ic idd ⊢
  generalize hB Q id token = BB at hok hgo hba hx0 hmay ia ib ic idd ⊢
  apply share
  · intro tail
    first | refine aIf_dec (fun h1 => ?_) (fun h1 => ?_) | refine aIf_beq (fun h1 => ?_) (fun h1 => ?_) | refine aIf_bne (fun h1 => ?_) (fun h1 => ?_) | refine aIf_not (fun h1 => ?_) (fun h1 => ?_) | refine aIf_mk (fun h1 => ?_) (fun h1 => ?_)
    · obtain ⟨e1, e2⟩ := hba h1
      conv => whnf
      refine jn_at [] [.old 0, .old 1, .old 2, .old 3, .old 4] (e8S id token now span point ever A.2 B.2 C.2 D.2 [(23, .int .i64 AT), (24, .int .i64 BB)]) (e8H Q A.1 B.1 C.1 D.1 []) ?_ tail.out
      repeat' (first | exact trivial | exact rfl | exact .inl rfl | (exact .inr rfl) | refine And.intro ?_ ?_)
      · exact e1.symm
      · exact e2.symm
    · obtain ⟨e1, e2⟩ := hgo h1
      conv => whnf
      refine jn_at [] [.old 0, .old 1, .old 2, .old 3, .old 4] (e8S id token now span point ever A.2 B.2 C.2 D.2 [(23, .int .i64 AT), (24, .int .i64 BB)]) (e8H Q A.1 B.1 C.1 D.1 []) ?_ tail.out
      repeat' (first | exact trivial | exact rfl | exact .inl rfl | (exact .inr rfl) | refine And.intro ?_ ?_)
      · exact e1
      · exact e2
  · apply share
    · intro tail
      conv => whnf
      first | refine aIf_dec (fun h1 => ?_) (fun h1 => ?_) | refine aIf_beq (fun h1 => ?_) (fun h1 => ?_) | refine aIf_bne (fun h1 => ?_) (fun h1 => ?_) | refine aIf_not (fun h1 => ?_) (fun h1 => ?_) | refine aIf_mk (fun h1 => ?_) (fun h1 => ?_)
      · obtain ⟨i, a1, a2, a3⟩ := hok h1
        conv => whnf
        rw [a1]
        refine And.intro (by omega) (And.intro (by omega) ?_)
        rw [show ((i : Int)).toNat = i from rfl, ← a3]
        conv => whnf
        refine jn_at [] [.old 0, .old 1, .old 2, .old 3, .old 4, .old 5] (e8S id token now span point ever A.2 B.2 C.2 D.2 [(23, .int .i64 AT), (24, .int .i64 BB), (25, .ptr 5 0)]) (e8H Q A.1 B.1 C.1 D.1 [jc X]) ?_ tail.out
        repeat' (first | exact trivial | exact rfl | exact .inl rfl | (exact .inr rfl) | refine And.intro ?_ ?_)
        exact a1.symm
      · have := hx0 h1
        conv => whnf
        refine jn_at [] [.old 0, .old 1, .old 2, .old 3, .old 4, .old 5] (e8S id token now span point ever A.2 B.2 C.2 D.2 [(23, .int .i64 AT), (24, .int .i64 BB), (25, .ptr 5 0)]) (e8H Q A.1 B.1 C.1 D.1 [jc X]) ?_ tail.out
        rw [this]
        repeat' (first | exact trivial | exact rfl | exact .inl rfl | (exact .inr rfl) | refine And.intro ?_ ?_)
    · conv => whnf
      refine ACall.use [] (c28 [now, span] true (by simp)) rfl trivial (by repeat' (first | exact trivial | exact rfl | exact .inl rfl | (exact .inr rfl) | refine And.intro ?_ ?_)) ?_
      conv => whnf
      apply share
      · intro tail
        first | refine aIf_dec (fun h1 => ?_) (fun h1 => ?_) | refine aIf_beq (fun h1 => ?_) (fun h1 => ?_) | refine aIf_bne (fun h1 => ?_) (fun h1 => ?_) | refine aIf_not (fun h1 => ?_) (fun h1 => ?_) | refine aIf_mk (fun h1 => ?_) (fun h1 => ?_)
        · have h1' : [now, span].any out = true := by generalize [now, span].any out = b at h1; cases b <;> simp_all
          conv => whnf
          refine jn_at [] [.old 0, .old 1, .old 2, .old 3, .old 4, .old 5, .old 6, .old 7, .old 8, .old 9] (e8S id token now span point ever A.2 B.2 C.2 D.2 [(23, .int .i64 AT), (24, .int .i64 BB), (25, .ptr 5 0), (26, .ptr 6 0), (27, .ptr 7 0), (28, .ptr 8 0), (29, .ptr 9 0), (30, .int .i64 (oneV BB now span)), (31, .int .i64 BB), (32, .int .i64 BB)])
            (e8H Q A.1 B.1 C.1 D.1 [jc X, jc (renV X now span), jc X, jc X, jc X]) ?_ tail.out
          rw [show oneV BB now span = 1 by rw [oneV, if_pos h1'], show renV X now span = X by rw [renV, if_pos h1']]
          repeat' (first | exact trivial | exact rfl | exact .inl rfl | (exact .inr rfl) | refine And.intro ?_ ?_)
        · have h1' : [now, span].any out = false := by generalize [now, span].any out = b at h1; cases b <;> simp_all
          have h1o := h1'
          simp only [List.any_cons, List.any_nil, Bool.or_false, Bool.or_eq_false_iff] at h1o
          obtain ⟨n1, n2⟩ := inT_of h1o.1
          obtain ⟨n3, n4⟩ := inT_of h1o.2
          conv => whnf
          refine ACall.use0 (c32 now span (by omega)) rfl ?_
          conv => whnf
          refine jn_at [] [.old 0, .old 1, .old 2, .old 3, .old 4, .old 5, .old 6, .old 7, .old 8, .old 9] (e8S id token now span point ever A.2 B.2 C.2 D.2 [(23, .int .i64 AT), (24, .int .i64 BB), (25, .ptr 5 0), (26, .ptr 6 0), (27, .ptr 7 0), (28, .ptr 8 0), (29, .ptr 9 0), (30, .int .i64 (oneV BB now span)), (31, .int .i64 BB), (32, .int .i64 BB)])
            (e8H Q A.1 B.1 C.1 D.1 [jc X, jc (renV X now span), jc X, jc X, jc X]) ?_ tail.out
          rw [show oneV BB now span = BB by rw [oneV, if_neg (by rw [h1']; simp)], show renV X now span = renewG now span X by rw [renV, if_neg (by rw [h1']; simp)]]
          repeat' (first | exact trivial | exact rfl | exact .inl rfl | (exact .inr rfl) | refine And.intro ?_ ?_)
      · conv => whnf
        apply share
        · intro tail
          repeat' ((conv => whnf); first | refine aIf_beq (fun h => ?_) (fun h => ?_) | refine aIf_dec (fun h => ?_) (fun h => ?_))
          all_goals (conv => whnf)
          all_goals (refine jn_at [] [.old 0, .old 1, .old 2, .old 3, .old 4, .old 5, .old 6, .old 7, .old 8, .old 9] (e8S id token now span point ever A.2 B.2 C.2 D.2 [(23, .int .i64 AT), (24, .int .i64 BB), (25, .ptr 5 0), (26, .ptr 6 0), (27, .ptr 7 0), (28, .ptr 8 0), (29, .ptr 9 0), (30, .int .i64 (oneV BB now span)), (31, .int .i64 (twoV BB X point)), (32, .int .i64 BB)]) (e8H Q A.1 B.1 C.1 D.1 [jc X, jc (renV X now span), jc (marV X point), jc X, jc X]) ?_ tail.out)
          all_goals (repeat' (first | exact trivial | exact rfl | exact .inl rfl | refine And.intro ?_ ?_))
          all_goals (first
            | (refine (?_ : (11 : Int) = twoV BB X point); rw [twoV, if_pos (by omega)])
            | (refine (?_ : BB = twoV BB X point); rw [twoV, if_neg (by omega)]))
        · conv => whnf
          refine ACall.use [] (c28 [now] true (by simp)) rfl trivial (by repeat' (first | exact trivial | exact rfl | exact .inl rfl | (exact .inr rfl) | refine And.intro ?_ ?_)) ?_
          conv => whnf
          apply share
          · intro tail
            first | refine aIf_dec (fun h1 => ?_) (fun h1 => ?_) | refine aIf_beq (fun h1 => ?_) (fun h1 => ?_) | refine aIf_bne (fun h1 => ?_) (fun h1 => ?_) | refine aIf_not (fun h1 => ?_) (fun h1 => ?_) | refine aIf_mk (fun h1 => ?_) (fun h1 => ?_)
            · have h1' : [now].any out = true := by generalize [now].any out = b at h1; cases b <;> simp_all
              conv => whnf
              refine jn_at [] [.old 0, .old 1, .old 2, .old 3, .old 4, .old 5, .old 6, .old 7, .old 8, .old 9] (e8S id token now span point ever A.2 B.2 C.2 D.2 [(23, .int .i64 AT), (24, .int .i64 BB), (25, .ptr 5 0), (26, .ptr 6 0), (27, .ptr 7 0), (28, .ptr 8 0), (29, .ptr 9 0), (30, .int .i64 (oneV BB now span)), (31, .int .i64 (twoV BB X point)), (32, .int .i64 (triV BB now))]) (e8H Q A.1 B.1 C.1 D.1 [jc X, jc (renV X now span), jc (marV X point), jc (stG 3 X), jc (faiV BB X now ever)]) ?_ tail.out
              rw [show triV BB now = 1 by rw [triV, if_pos h1'], show faiV BB X now ever = X by rw [faiV, if_pos h1']]
              repeat' (first | exact trivial | exact rfl | exact .inl rfl | (exact .inr rfl) | refine And.intro ?_ ?_)
            · have h1' : [now].any out = false := by generalize [now].any out = b at h1; cases b <;> simp_all
              have h1o := h1'
              simp only [List.any_cons, List.any_nil, Bool.or_false] at h1o
              obtain ⟨n1, n2⟩ := inT_of h1o
              have ht : triV BB now = BB := by rw [triV, if_neg (by rw [h1']; simp)]
              conv => whnf
              refine aIf_mk (fun h2 => ?_) (fun h2 => ?_)
              · conv => whnf
                refine jn_at [] [.old 0, .old 1, .old 2, .old 3, .old 4, .old 5, .old 6, .old 7, .old 8, .old 9] (e8S id token now span point ever A.2 B.2 C.2 D.2 [(23, .int .i64 AT), (24, .int .i64 BB), (25, .ptr 5 0), (26, .ptr 6 0), (27, .ptr 7 0), (28, .ptr 8 0), (29, .ptr 9 0), (30, .int .i64 (oneV BB now span)), (31, .int .i64 (twoV BB X point)), (32, .int .i64 (triV BB now))]) (e8H Q A.1 B.1 C.1 D.1 [jc X, jc (renV X now span), jc (marV X point), jc (stG 3 X), jc (faiV BB X now ever)]) ?_ tail.out
                rw [ht, show faiV BB X now ever = stG 5 X by rw [faiV, if_neg (by rw [h1']; simp), if_pos (.inl h2)]]
                repeat' (first | exact trivial | exact rfl | exact .inl rfl | (exact .inr rfl) | refine And.intro ?_ ?_)
              · conv => whnf
                first | refine aIf_dec (fun h3 => ?_) (fun h3 => ?_) | refine aIf_beq (fun h3 => ?_) (fun h3 => ?_) | refine aIf_bne (fun h3 => ?_) (fun h3 => ?_) | refine aIf_not (fun h3 => ?_) (fun h3 => ?_) | refine aIf_mk (fun h3 => ?_) (fun h3 => ?_)
                · conv => whnf
                  refine jn_at [] [.old 0, .old 1, .old 2, .old 3, .old 4, .old 5, .old 6, .old 7, .old 8, .old 9] (e8S id token now span point ever A.2 B.2 C.2 D.2 [(23, .int .i64 AT), (24, .int .i64 BB), (25, .ptr 5 0), (26, .ptr 6 0), (27, .ptr 7 0), (28, .ptr 8 0), (29, .ptr 9 0), (30, .int .i64 (oneV BB now span)), (31, .int .i64 (twoV BB X point)), (32, .int .i64 (triV BB now))]) (e8H Q A.1 B.1 C.1 D.1 [jc X, jc (renV X now span), jc (marV X point), jc (stG 3 X), jc (faiV BB X now ever)]) ?_ tail.out
                  rw [ht, show faiV BB X now ever = stG 5 X by rw [faiV, if_neg (by rw [h1']; simp), if_pos (.inr h3)]]
                  repeat' (first | exact trivial | exact rfl | exact .inl rfl | (exact .inr rfl) | refine And.intro ?_ ?_)
                · have hne : ¬ (ever = true ∨ X.2.2.2.2.1 = 10) := by rintro (h | h) <;> simp_all
                  conv => whnf
                  first | refine aIf_dec (fun h4 => ?_) (fun h4 => ?_) | refine aIf_beq (fun h4 => ?_) (fun h4 => ?_) | refine aIf_bne (fun h4 => ?_) (fun h4 => ?_) | refine aIf_not (fun h4 => ?_) (fun h4 => ?_) | refine aIf_mk (fun h4 => ?_) (fun h4 => ?_)
                  · obtain ⟨_, _, _, _, _, _, _, _, _, m1, m2⟩ := mayJ_iff (hmay h4)
                    conv => whnf
                    have hw := waitN_in (X.2.2.2.2.1 - 1).toNat
                    refine ACall.use0 (c33 X.2.2.2.2.1 ⟨m1, m2⟩) rfl ?_
                    conv => whnf
                    refine ACall.use0 (c32 now (waitI X.2.2.2.2.1) (by unfold waitI; omega)) rfl ?_
                    conv => whnf
                    refine jn_at [] [.old 0, .old 1, .old 2, .old 3, .old 4, .old 5, .old 6, .old 7, .old 8, .old 9] (e8S id token now span point ever A.2 B.2 C.2 D.2 [(23, .int .i64 AT), (24, .int .i64 BB), (25, .ptr 5 0), (26, .ptr 6 0), (27, .ptr 7 0), (28, .ptr 8 0), (29, .ptr 9 0), (30, .int .i64 (oneV BB now span)), (31, .int .i64 (twoV BB X point)), (32, .int .i64 (triV BB now))]) (e8H Q A.1 B.1 C.1 D.1 [jc X, jc (renV X now span), jc (marV X point), jc (stG 3 X), jc (faiV BB X now ever)]) ?_ tail.out
                    rw [ht, show faiV BB X now ever = (X.1, X.2.1, X.2.2.1, 1, X.2.2.2.2.1, X.2.2.2.2.2.1, min (now + waitI X.2.2.2.2.1) 1099511627776, X.2.2.2.2.2.2.2) by rw [faiV, if_neg (by rw [h1']; simp), if_neg hne, if_pos h4]]
                    repeat' (first | exact trivial | exact rfl | exact .inl rfl | (exact .inr rfl) | refine And.intro ?_ ?_)
                  · conv => whnf
                    refine jn_at [] [.old 0, .old 1, .old 2, .old 3, .old 4, .old 5, .old 6, .old 7, .old 8, .old 9] (e8S id token now span point ever A.2 B.2 C.2 D.2 [(23, .int .i64 AT), (24, .int .i64 BB), (25, .ptr 5 0), (26, .ptr 6 0), (27, .ptr 7 0), (28, .ptr 8 0), (29, .ptr 9 0), (30, .int .i64 (oneV BB now span)), (31, .int .i64 (twoV BB X point)), (32, .int .i64 (triV BB now))]) (e8H Q A.1 B.1 C.1 D.1 [jc X, jc (renV X now span), jc (marV X point), jc (stG 3 X), jc (faiV BB X now ever)]) ?_ tail.out
                    rw [ht, show faiV BB X now ever = X by rw [faiV, if_neg (by rw [h1']; simp), if_neg hne, if_neg h4]]
                    repeat' (first | exact trivial | exact rfl | exact .inl rfl | (exact .inr rfl) | refine And.intro ?_ ?_)
          · have hat : ∀ w : Int, (BB ≠ 0 → w ≠ 0) → w = 0 → 0 ≤ AT ∧ AT < Q.1.length := fun w h1 h2 => by
              obtain ⟨i, a1, a2, _⟩ := hok (Classical.byContradiction fun h => h1 h h2)
              omega
            conv => whnf
            refine ACall.use0 (c34 A.1 Q A.2 (oneV BB now span) AT (renV X now span) (by omega) (by omega) (hat _ (fun h => by unfold oneV; split <;> omega))) rfl ?_
            rw [ia]
            conv => whnf
            refine aIf_mk (fun _ => ?_) (fun h => absurd h (by simp))
            conv => whnf
            refine ACall.use0 (c34 B.1 Q B.2 (twoV BB X point) AT (marV X point) (by omega) (by omega) (hat _ (fun h => by unfold twoV; split <;> omega))) rfl ?_
            rw [ib]
            conv => whnf
            refine aIf_mk (fun _ => ?_) (fun h => absurd h (by simp))
            conv => whnf
            refine ACall.use0 (c34 C.1 Q C.2 BB AT (stG 3 X) (by omega) (by omega) (hat _ (fun h => h))) rfl ?_
            rw [ic]
            conv => whnf
            refine aIf_mk (fun _ => ?_) (fun h => absurd h (by simp))
            conv => whnf
            refine ACall.use0 (c34 D.1 Q D.2 (triV BB now) AT (faiV BB X now ever) (by omega) (by omega) (hat _ (fun h => by unfold triV; split <;> omega))) rfl ?_
            rw [idd]
            conv => whnf
            refine ⟨[], _, _, ?_, rfl, rfl⟩
            repeat' (first | exact trivial | exact rfl | exact .inl rfl | (exact .inr rfl) | refine And.intro ?_ ?_)
end Go.Proofs.Try
