import Derived.Test.YtjiojhfbpblioaaQueueI
namespace Go.Proofs.Try
open Go.AM

set_option maxRecDepth 100000 in
theorem c47o (l : List Job) (f : Bool) (hl : l.length ≤ 9223372036854775807) : ACall E 47 [.own tJob 0 f, .fn (.func 48) [] []] [.arr tJob l true] (fun r h' => r = .ret (.int .i64 (idxOf ended l)) ∧ h' = [.arr tJob l true]) := by
  refine ACall.body envOK func47 rfl rfl rfl ?_
  conv => whnf
  refine ⟨Nat, ⟨fun i => i ≤ l.length ∧ ∀ j (_ : j < i) (hj : j < l.length), ended l[j] = false, fun i => ([(0, .own tJob 0 f), (1, .fn (.func 48) [] []), (7, .int .i64 (l.length : Int)), (8, .int .i64 (i : Int))], [.arr tJob l true]), fun i => l.length - i⟩, 0, [], [.old 0], ?_, ?_, fun i hi => ?_⟩
  · exact ⟨Nat.zero_le _, fun j hj => absurd hj (Nat.not_lt_zero _)⟩
  · repeat' (first | exact trivial | exact rfl | exact .inl rfl | (exact .inr rfl) | refine And.intro ?_ ?_)
  · obtain ⟨hi1, hi2⟩ : i ≤ l.length ∧ ∀ j (_ : j < i) (hj : j < l.length), ended l[j] = false := hi
    conv => whnf
    first | refine aIf_dec (fun h => ?_) (fun h => ?_) | refine aIf_beq (fun h => ?_) (fun h => ?_) | refine aIf_bne (fun h => ?_) (fun h => ?_) | refine aIf_not (fun h => ?_) (fun h => ?_) | refine aIf_mk (fun h => ?_) (fun h => ?_)
    · have hlt : i < l.length := by omega
      conv => whnf
      refine And.intro (by omega) (And.intro (by omega) ?_)
      conv => whnf
      have e1 : ((i : Int)).toNat = i := by omega
      rw [e1]
      refine And.intro hlt ?_
      obtain ⟨j, hj⟩ : ∃ j : Job, elt tJob l i = j := ⟨_, rfl⟩
      rw [hj]
      have hjl : l[i] = j := by rw [← eltJ hlt]; exact hj
      conv => whnf
      refine ACall.use0 (c48 j) rfl ?_
      conv => whnf
      refine aIf_mk (fun hb => ?_) (fun hb => ?_)
      · conv => whnf
        rw [idxOf_at (p := ended) hlt (fun j hj => hi2 j hj _) (by rw [hjl]; exact hb)]
        refine ⟨[.old 0], _, _, ?_, rfl, rfl⟩
        repeat' (first | exact trivial | exact rfl | exact .inl rfl | (exact .inr rfl) | refine And.intro ?_ ?_)
      · conv => whnf
        refine ⟨i + 1, [], [.old 0], ⟨?_, ?_⟩, ?_, ?_⟩
        · omega
        · intro k hk hkl
          rcases Nat.lt_or_ge k i with h1 | h1
          · exact hi2 k h1 hkl
          · have : k = i := by omega
            subst this
            rw [hjl]
            exact hb
        · show l.length - (i + 1) < l.length - i
          omega
        · repeat' (first | exact trivial | exact rfl | exact .inl rfl | (exact .inr rfl) | refine And.intro ?_ ?_)
          exact i64_at rfl (by omega)
    · conv => whnf
      rw [idxOf_none (p := ended) (fun x hx => by obtain ⟨j, hj, rfl⟩ := List.getElem_of_mem hx; exact hi2 j (by omega) hj)]
      refine ⟨[.old 0], _, _, ?_, rfl, rfl⟩
      repeat' (first | exact trivial | exact rfl | exact .inl rfl | (exact .inr rfl) | refine And.intro ?_ ?_)

/-- The jobs, one off where there is no room. -/
def roomL (l : List Job) : List Job := if l.length = 64 ∧ 0 ≤ idxOf ended l then l.take (idxOf ended l).toNat ++ l.drop ((idxOf ended l).toNat + 1) else l
def newJ (id : Int) (key body : Str) : Job := (id, key, body, 1, 0, 0, 0, 0)
def addN (q : Queue) (key body : Str) : Queue × Int × Int :=
  if goodQ q = false then (([], 0, 0), 0, 1)
  else if key.length > 200 ∨ body.length > 200 then (([], 0, 0), 0, 2)
  else if q.1.any (hold key 0) = true then (([], 0, 0), 0, 17)
  else if (roomL q.1).length = 64 ∨ q.2.1 = 1099511627776 then (([], 0, 0), 0, 13)
  else ((roomL q.1 ++ [newJ (q.2.1 + 1) key body], q.2.1 + 1, q.2.2), q.2.1 + 1, 0)

set_option maxRecDepth 100000 in
set_option maxHeartbeats 4000000 in
theorem c19 (q : Queue) (key body : Str) (hl : q.1.length ≤ 9223372036854775807) : ACall E 19 [queueV q, .str key, .str body] []
    (fun r h' => r = .ret (.tup [queueV (addN q key body).1, .int .i64 (addN q key body).2.1, .int .i64 (addN q key body).2.2]) ∧ h' = []) := by
  refine ACall.body envOK func19 rfl rfl rfl ?_
  conv => whnf
  refine ACall.use0 (c13 q hl) rfl ?_
  conv => whnf
  first | refine aIf_dec (fun h1 => ?_) (fun h1 => ?_) | refine aIf_beq (fun h1 => ?_) (fun h1 => ?_) | refine aIf_bne (fun h1 => ?_) (fun h1 => ?_) | refine aIf_not (fun h1 => ?_) (fun h1 => ?_) | refine aIf_mk (fun h1 => ?_) (fun h1 => ?_)
  · rw [show addN q key body = (([], 0, 0), 0, 1) from by (first | (simp [addN, *]; done) | (simp [addN, *] <;> omega) | (simp_all [addN]; done) | (simp_all [addN] <;> omega))]
    conv => whnf
    refine ⟨[], _, _, ?_, rfl, rfl⟩
    repeat' (first | exact trivial | exact rfl | exact .inl rfl | (exact .inr rfl) | refine And.intro ?_ ?_)
  · obtain ⟨g1, g2, ⟨g3, g4⟩, g5⟩ := goodQ_iff h1
    conv => whnf
    first | refine aIf_dec (fun h2 => ?_) (fun h2 => ?_) | refine aIf_beq (fun h2 => ?_) (fun h2 => ?_) | refine aIf_bne (fun h2 => ?_) (fun h2 => ?_) | refine aIf_not (fun h2 => ?_) (fun h2 => ?_) | refine aIf_mk (fun h2 => ?_) (fun h2 => ?_)
    · rw [show addN q key body = (([], 0, 0), 0, 2) by rw [addN, if_neg (by rw [h1]; simp), if_pos (.inl (by omega))]]
      conv => whnf
      refine ⟨[], _, _, ?_, rfl, rfl⟩
      repeat' (first | exact trivial | exact rfl | exact .inl rfl | (exact .inr rfl) | refine And.intro ?_ ?_)
    · conv => whnf
      first | refine aIf_dec (fun h3 => ?_) (fun h3 => ?_) | refine aIf_beq (fun h3 => ?_) (fun h3 => ?_) | refine aIf_bne (fun h3 => ?_) (fun h3 => ?_) | refine aIf_not (fun h3 => ?_) (fun h3 => ?_) | refine aIf_mk (fun h3 => ?_) (fun h3 => ?_)
      · rw [show addN q key body = (([], 0, 0), 0, 2) by rw [addN, if_neg (by rw [h1]; simp), if_pos (.inr (by omega))]]
        conv => whnf
        refine ⟨[], _, _, ?_, rfl, rfl⟩
        repeat' (first | exact trivial | exact rfl | exact .inl rfl | (exact .inr rfl) | refine And.intro ?_ ?_)
      · have hlen : ¬ (key.length > 200 ∨ body.length > 200) := by omega
        conv => whnf
        refine ACall.use0 (c42 q key 0 hl) rfl ?_
        conv => whnf
        refine aIf_mk (fun h4 => ?_) (fun h4 => ?_)
        · rw [show addN q key body = (([], 0, 0), 0, 17) by rw [addN, if_neg (by rw [h1]; simp), if_neg hlen, if_pos h4]]
          conv => whnf
          refine ⟨[], _, _, ?_, rfl, rfl⟩
          repeat' (first | exact trivial | exact rfl | exact .inl rfl | (exact .inr rfl) | refine And.intro ?_ ?_)
        · conv => whnf
          refine ACall.use [] (c39 q.1 (by omega)) rfl trivial (by repeat' (first | exact trivial | exact rfl | exact .inl rfl | refine And.intro ?_ ?_)) ?_
          conv => whnf
          first | refine aIf_dec (fun h5 => ?_) (fun h5 => ?_) | refine aIf_beq (fun h5 => ?_) (fun h5 => ?_) | refine aIf_bne (fun h5 => ?_) (fun h5 => ?_) | refine aIf_not (fun h5 => ?_) (fun h5 => ?_) | refine aIf_mk (fun h5 => ?_) (fun h5 => ?_)
          · have h5' : q.1.length = 64 := by omega
            conv => whnf
            refine ACall.use [2] (c47o q.1 false hl) rfl (by repeat' (first | exact trivial | exact rfl | exact .inl rfl | refine And.intro ?_ ?_)) (by repeat' (first | exact trivial | exact rfl | exact .inl rfl | refine And.intro ?_ ?_)) ?_
            conv => whnf
            first | refine aIf_dec (fun h6 => ?_) (fun h6 => ?_) | refine aIf_beq (fun h6 => ?_) (fun h6 => ?_) | refine aIf_bne (fun h6 => ?_) (fun h6 => ?_) | refine aIf_not (fun h6 => ?_) (fun h6 => ?_) | refine aIf_mk (fun h6 => ?_) (fun h6 => ?_)
            · obtain ⟨i, hi, hil, _, _⟩ := idxOf_lt (p := ended) (l := q.1) h6
              have hroom : roomL q.1 = q.1.take i ++ q.1.drop (i + 1) := by rw [roomL, if_pos ⟨h5', h6⟩, hi]; rfl
              have hrl : (q.1.take i ++ q.1.drop (i + 1)).length = 63 := by simp; omega
              rw [hi]
              conv => whnf
              have w0 : IntKind.i64.wrap ((i : Int) + 1) = ((i + 1 : Nat) : Int) := i64_at (by omega) (by omega)
              rw [w0]
              refine ACall.use [2] (c49 q.1 i (i + 1) false (by omega) (by omega)) rfl (by repeat' (first | exact trivial | exact rfl | exact .inl rfl | refine And.intro ?_ ?_)) (by repeat' (first | exact trivial | exact rfl | exact .inl rfl | refine And.intro ?_ ?_)) ?_
              conv => whnf
              first | refine aIf_dec (fun k1 => ?_) (fun k1 => ?_) | refine aIf_beq (fun k1 => ?_) (fun k1 => ?_) | refine aIf_bne (fun k1 => ?_) (fun k1 => ?_) | refine aIf_not (fun k1 => ?_) (fun k1 => ?_) | refine aIf_mk (fun k1 => ?_) (fun k1 => ?_)
              · have k1' : ((q.1.take i ++ q.1.drop (i + 1))).length = 64 := by omega
                rw [show addN q key body = (([], 0, 0), 0, 13) by rw [addN, if_neg (by rw [h1]; simp), if_neg hlen, if_neg (by rw [h4]; simp), hroom, if_pos (.inl k1')]]
                conv => whnf
                refine ⟨[], _, _, ?_, rfl, rfl⟩
                repeat' (first | exact trivial | exact rfl | exact .inl rfl | (exact .inr rfl) | refine And.intro ?_ ?_)
              · have k1' : ¬ ((q.1.take i ++ q.1.drop (i + 1))).length = 64 := by omega
                conv => whnf
                first | refine aIf_dec (fun k2 => ?_) (fun k2 => ?_) | refine aIf_beq (fun k2 => ?_) (fun k2 => ?_) | refine aIf_bne (fun k2 => ?_) (fun k2 => ?_) | refine aIf_not (fun k2 => ?_) (fun k2 => ?_) | refine aIf_mk (fun k2 => ?_) (fun k2 => ?_)
                · rw [show addN q key body = (([], 0, 0), 0, 13) by rw [addN, if_neg (by rw [h1]; simp), if_neg hlen, if_neg (by rw [h4]; simp), hroom, if_pos (.inr k2)]]
                  conv => whnf
                  refine ⟨[], _, _, ?_, rfl, rfl⟩
                  repeat' (first | exact trivial | exact rfl | exact .inl rfl | (exact .inr rfl) | refine And.intro ?_ ?_)
                · rw [show addN q key body = (((q.1.take i ++ q.1.drop (i + 1)) ++ [newJ (q.2.1 + 1) key body], q.2.1 + 1, q.2.2), q.2.1 + 1, 0) by rw [addN, if_neg (by rw [h1]; simp), if_neg hlen, if_neg (by rw [h4]; simp), hroom, if_neg (by omega)]]
                  have w1 : IntKind.i64.wrap (q.2.1 + 1) = q.2.1 + 1 := i64_at rfl (by omega)
                  conv => whnf
                  rw [w1]
                  refine And.intro (sumOk_le (m := 1000) (b := 80) (by dsimp only; simp; omega) rfl (by decide) (by decide)) ?_
                  conv => whnf
                  refine ⟨[], _, _, ?_, rfl, rfl⟩
                  repeat' (first | exact trivial | exact rfl | exact .inl rfl | (exact .inr rfl) | refine And.intro ?_ ?_)
            · have hroom : roomL q.1 = q.1 := by rw [roomL, if_neg (fun hh => h6 hh.2)]
              conv => whnf
              first | refine aIf_dec (fun k1 => ?_) (fun k1 => ?_) | refine aIf_beq (fun k1 => ?_) (fun k1 => ?_) | refine aIf_bne (fun k1 => ?_) (fun k1 => ?_) | refine aIf_not (fun k1 => ?_) (fun k1 => ?_) | refine aIf_mk (fun k1 => ?_) (fun k1 => ?_)
              · have k1' : (q.1).length = 64 := by omega
                rw [show addN q key body = (([], 0, 0), 0, 13) by rw [addN, if_neg (by rw [h1]; simp), if_neg hlen, if_neg (by rw [h4]; simp), hroom, if_pos (.inl k1')]]
                conv => whnf
                refine ⟨[], _, _, ?_, rfl, rfl⟩
                repeat' (first | exact trivial | exact rfl | exact .inl rfl | (exact .inr rfl) | refine And.intro ?_ ?_)
              · have k1' : ¬ (q.1).length = 64 := by omega
                conv => whnf
                first | refine aIf_dec (fun k2 => ?_) (fun k2 => ?_) | refine aIf_beq (fun k2 => ?_) (fun k2 => ?_) | refine aIf_bne (fun k2 => ?_) (fun k2 => ?_) | refine aIf_not (fun k2 => ?_) (fun k2 => ?_) | refine aIf_mk (fun k2 => ?_) (fun k2 => ?_)
                · rw [show addN q key body = (([], 0, 0), 0, 13) by rw [addN, if_neg (by rw [h1]; simp), if_neg hlen, if_neg (by rw [h4]; simp), hroom, if_pos (.inr k2)]]
                  conv => whnf
                  refine ⟨[], _, _, ?_, rfl, rfl⟩
                  repeat' (first | exact trivial | exact rfl | exact .inl rfl | (exact .inr rfl) | refine And.intro ?_ ?_)
                · rw [show addN q key body = ((q.1 ++ [newJ (q.2.1 + 1) key body], q.2.1 + 1, q.2.2), q.2.1 + 1, 0) by rw [addN, if_neg (by rw [h1]; simp), if_neg hlen, if_neg (by rw [h4]; simp), hroom, if_neg (by omega)]]
                  have w1 : IntKind.i64.wrap (q.2.1 + 1) = q.2.1 + 1 := i64_at rfl (by omega)
                  conv => whnf
                  rw [w1]
                  refine And.intro (sumOk_le (m := 1000) (b := 80) (by dsimp only; simp; omega) rfl (by decide) (by decide)) ?_
                  conv => whnf
                  refine ⟨[], _, _, ?_, rfl, rfl⟩
                  repeat' (first | exact trivial | exact rfl | exact .inl rfl | (exact .inr rfl) | refine And.intro ?_ ?_)
          · have h5' : ¬ q.1.length = 64 := by omega
            have hroom : roomL q.1 = q.1 := by rw [roomL, if_neg (fun hh => h5' hh.1)]
            conv => whnf
            first | refine aIf_dec (fun k1 => ?_) (fun k1 => ?_) | refine aIf_beq (fun k1 => ?_) (fun k1 => ?_) | refine aIf_bne (fun k1 => ?_) (fun k1 => ?_) | refine aIf_not (fun k1 => ?_) (fun k1 => ?_) | refine aIf_mk (fun k1 => ?_) (fun k1 => ?_)
            · have k1' : (q.1).length = 64 := by omega
              rw [show addN q key body = (([], 0, 0), 0, 13) by rw [addN, if_neg (by rw [h1]; simp), if_neg hlen, if_neg (by rw [h4]; simp), hroom, if_pos (.inl k1')]]
              conv => whnf
              refine ⟨[], _, _, ?_, rfl, rfl⟩
              repeat' (first | exact trivial | exact rfl | exact .inl rfl | (exact .inr rfl) | refine And.intro ?_ ?_)
            · have k1' : ¬ (q.1).length = 64 := by omega
              conv => whnf
              first | refine aIf_dec (fun k2 => ?_) (fun k2 => ?_) | refine aIf_beq (fun k2 => ?_) (fun k2 => ?_) | refine aIf_bne (fun k2 => ?_) (fun k2 => ?_) | refine aIf_not (fun k2 => ?_) (fun k2 => ?_) | refine aIf_mk (fun k2 => ?_) (fun k2 => ?_)
              · rw [show addN q key body = (([], 0, 0), 0, 13) by rw [addN, if_neg (by rw [h1]; simp), if_neg hlen, if_neg (by rw [h4]; simp), hroom, if_pos (.inr k2)]]
                conv => whnf
                refine ⟨[], _, _, ?_, rfl, rfl⟩
                repeat' (first | exact trivial | exact rfl | exact .inl rfl | (exact .inr rfl) | refine And.intro ?_ ?_)
              · rw [show addN q key body = ((q.1 ++ [newJ (q.2.1 + 1) key body], q.2.1 + 1, q.2.2), q.2.1 + 1, 0) by rw [addN, if_neg (by rw [h1]; simp), if_neg hlen, if_neg (by rw [h4]; simp), hroom, if_neg (by omega)]]
                have w1 : IntKind.i64.wrap (q.2.1 + 1) = q.2.1 + 1 := i64_at rfl (by omega)
                conv => whnf
                rw [w1]
                refine And.intro (sumOk_le (m := 1000) (b := 80) (by dsimp only; simp; omega) rfl (by decide) (by decide)) ?_
                conv => whnf
                refine ⟨[], _, _, ?_, rfl, rfl⟩
                repeat' (first | exact trivial | exact rfl | exact .inl rfl | (exact .inr rfl) | refine And.intro ?_ ?_)
end Go.Proofs.Try
