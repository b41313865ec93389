import Derived.Test.YtjiojhfbpblioaaQueueF
namespace Go.Proofs.Try
open Go.AM


def lF (token : Int) (F : Job → Int) (j : Job) : Int := if j.2.2.2.1 ≠ 2 then 15 else if j.2.2.2.2.2.1 ≠ token then 16 else F j
def lG (token : Int) (G : Job → Job) (j : Job) : Job := if j.2.2.2.1 ≠ 2 then j else if j.2.2.2.2.2.1 ≠ token then j else G j

set_option maxRecDepth 100000 in
theorem c51a (q q0 : Queue) (id : Int) (times : Bool) (F : Job → Int) (G : Job → Job) (hl : q.1.length ≤ 9223372036854775807)
    (hdo : times = true → ∀ (l : List Job) (i : Nat), i < l.length → mayJ (elt tJob l i) = true → ACall E 55 [.eptr tJob 1 i 0, .ptr 0 0] [.var [.sl tJob q0.1 false, .int .i64 q0.2.1, .int .i64 q0.2.2], .arr tJob l true] (fun r h' => r = .ret (.int .i64 (F (elt tJob l i))) ∧ h' = [.var [.sl tJob q0.1 false, .int .i64 q0.2.1, .int .i64 q0.2.2], .arr tJob (l.set i (G (elt tJob l i))) true])) :
    ACall E 51 [queueV q, .int .i64 id, .bool times, .fn (.func 55) [] [.ptr 0 0]] [.var [.sl tJob q0.1 false, .int .i64 q0.2.1, .int .i64 q0.2.2]] (fun r h' => r = .ret (.tup [queueV (changeN q id times F G).1, .int .i64 (changeN q id times F G).2]) ∧ h' = [.var [.sl tJob q0.1 false, .int .i64 q0.2.1, .int .i64 q0.2.2]]) := by
  refine ACall.body envOK func51 rfl rfl rfl ?_
  conv => whnf
  refine ACall.use0 (c13 q hl) rfl ?_
  conv => whnf
  first | refine aIf_dec (fun h1 => ?_) (fun h1 => ?_) | refine aIf_beq (fun h1 => ?_) (fun h1 => ?_) | refine aIf_bne (fun h1 => ?_) (fun h1 => ?_) | refine aIf_not (fun h1 => ?_) (fun h1 => ?_) | refine aIf_mk (fun h1 => ?_) (fun h1 => ?_)
  · rw [show changeN q id times F G = (([], 0, 0), 1) from by (first | (simp [changeN, *]; done) | (simp [changeN, *] <;> omega) | (simp_all [changeN]; done) | (simp_all [changeN] <;> omega))]
    conv => whnf
    refine ⟨[.old 0], _, _, ?_, rfl, rfl⟩
    repeat' (first | exact trivial | exact rfl | exact .inl rfl | (exact .inr rfl) | refine And.intro ?_ ?_)
  · conv => whnf
    first | refine aIf_dec (fun h2 => ?_) (fun h2 => ?_) | refine aIf_beq (fun h2 => ?_) (fun h2 => ?_) | refine aIf_bne (fun h2 => ?_) (fun h2 => ?_) | refine aIf_not (fun h2 => ?_) (fun h2 => ?_) | refine aIf_mk (fun h2 => ?_) (fun h2 => ?_)
    · rw [show changeN q id times F G = (([], 0, 0), 1) from by (first | (simp [changeN, *]; done) | (simp [changeN, *] <;> omega) | (simp_all [changeN]; done) | (simp_all [changeN] <;> omega))]
      conv => whnf
      refine ⟨[.old 0], _, _, ?_, rfl, rfl⟩
      repeat' (first | exact trivial | exact rfl | exact .inl rfl | (exact .inr rfl) | refine And.intro ?_ ?_)
    · obtain ⟨g1, g2, g3, g4⟩ := goodQ_iff h1
      conv => whnf
      refine ACall.use [2] (c47i id q.1 false hl) rfl (by repeat' (first | exact trivial | exact rfl | exact .inl rfl | refine And.intro ?_ ?_)) (by repeat' (first | exact trivial | exact rfl | exact .inl rfl | refine And.intro ?_ ?_)) ?_
      conv => whnf
      first | refine aIf_dec (fun h3 => ?_) (fun h3 => ?_) | refine aIf_beq (fun h3 => ?_) (fun h3 => ?_) | refine aIf_bne (fun h3 => ?_) (fun h3 => ?_) | refine aIf_not (fun h3 => ?_) (fun h3 => ?_) | refine aIf_mk (fun h3 => ?_) (fun h3 => ?_)
      · rw [show changeN q id times F G = (([], 0, 0), 9) from by (first | (simp [changeN, *]; done) | (simp [changeN, *] <;> omega) | (simp_all [changeN]; done) | (simp_all [changeN] <;> omega))]
        conv => whnf
        refine ⟨[.old 0], _, _, ?_, rfl, rfl⟩
        repeat' (first | exact trivial | exact rfl | exact .inl rfl | (exact .inr rfl) | refine And.intro ?_ ?_)
      · have h3' : ¬ idxOf (isId id) q.1 < 0 := h3
        obtain ⟨i, hi, hil, _, _⟩ := idxOf_lt (p := isId id) (l := q.1) (by omega)
        have hn : changeN q id times F G = if F (elt tJob q.1 i) ≠ 0 then (([], 0, 0), F (elt tJob q.1 i)) else ((q.1.set i (G (elt tJob q.1 i)), q.2.1, q.2.2), 0) := by
          rw [changeN, if_neg (by rw [h1]; simpa using h2), if_neg h3', hi]
          rfl
        rw [hn, hi]
        conv => whnf
        refine ACall.use [] (c39 q.1 (by omega)) rfl trivial (by repeat' (first | exact trivial | exact rfl | exact .inl rfl | refine And.intro ?_ ?_)) ?_
        conv => whnf
        refine And.intro (by omega) (And.intro (by omega) ?_)
        conv => whnf
        refine ACall.use [0, 4] (hdo (by simpa using h2) q.1 i hil (goodQ_may h1 hil)) rfl (by repeat' (first | exact trivial | exact rfl | exact .inl rfl | refine And.intro ?_ ?_)) (by repeat' (first | exact trivial | exact rfl | exact .inl rfl | refine And.intro ?_ ?_)) ?_
        conv => whnf
        first | refine aIf_dec (fun h5 => ?_) (fun h5 => ?_) | refine aIf_beq (fun h5 => ?_) (fun h5 => ?_) | refine aIf_bne (fun h5 => ?_) (fun h5 => ?_) | refine aIf_not (fun h5 => ?_) (fun h5 => ?_) | refine aIf_mk (fun h5 => ?_) (fun h5 => ?_)
        · rw [if_pos h5]
          conv => whnf
          refine ⟨[.old 0], _, _, ?_, rfl, rfl⟩
          repeat' (first | exact trivial | exact rfl | exact .inl rfl | (exact .inr rfl) | refine And.intro ?_ ?_)
        · rw [if_neg (by simpa using h5)]
          conv => whnf
          refine ⟨[.old 0], _, _, ?_, rfl, rfl⟩
          repeat' (first | exact trivial | exact rfl | exact .inl rfl | (exact .inr rfl) | refine And.intro ?_ ?_)

set_option maxRecDepth 100000 in
theorem c59d (token : Int) (times : Bool) (F : Job → Int) (G : Job → Job)
    (hdo : times = true → ∀ (l : List Job) (i : Nat), i < l.length → mayJ (elt tJob l i) = true → ACall E 50 [.eptr tJob 0 i 0] [.arr tJob l true] (fun r h' => r = .ret (.int .i64 (F (elt tJob l i))) ∧ h' = [.arr tJob (l.set i (G (elt tJob l i))) true]))
    (ht : times = true) (l : List Job) (i : Nat) (hi : i < l.length) (hm : mayJ (elt tJob l i) = true) :
    ACall E 59 [.eptr tJob 2 i 0, .ptr 0 0, .ptr 1 0] [.var [.int .i64 token], .var [.fn (.func 50) [] []], .arr tJob l true] (fun r h' => r = .ret (.int .i64 (lF token F (elt tJob l i))) ∧ h' = [.var [.int .i64 token], .var [.fn (.func 50) [] []], .arr tJob (l.set i (lG token G (elt tJob l i))) true]) := by
  obtain ⟨j, hj⟩ : ∃ j : Job, elt tJob l i = j := ⟨_, rfl⟩
  rw [hj]
  refine ACall.body envOK func59 rfl rfl rfl ?_
  conv => whnf
  refine And.intro hi ?_
  rw [hj]
  conv => whnf
  first | refine aIf_dec (fun h1 => ?_) (fun h1 => ?_) | refine aIf_beq (fun h1 => ?_) (fun h1 => ?_) | refine aIf_bne (fun h1 => ?_) (fun h1 => ?_) | refine aIf_not (fun h1 => ?_) (fun h1 => ?_) | refine aIf_mk (fun h1 => ?_) (fun h1 => ?_)
  · rw [show lF token F j = 15 by simp [lF, h1], show lG token G j = j by simp [lG, h1], ← hj, set_self hi]
    conv => whnf
    refine ⟨[.old 0, .old 1, .old 2], _, _, ?_, rfl, rfl⟩
    repeat' (first | exact trivial | exact rfl | exact .inl rfl | (exact .inr rfl) | refine And.intro ?_ ?_)
  · conv => whnf
    refine And.intro hi ?_
    rw [hj]
    conv => whnf
    first | refine aIf_dec (fun h2 => ?_) (fun h2 => ?_) | refine aIf_beq (fun h2 => ?_) (fun h2 => ?_) | refine aIf_bne (fun h2 => ?_) (fun h2 => ?_) | refine aIf_not (fun h2 => ?_) (fun h2 => ?_) | refine aIf_mk (fun h2 => ?_) (fun h2 => ?_)
    · rw [show lF token F j = 16 by simp [lF, h1, h2], show lG token G j = j by simp [lG, h1, h2], ← hj, set_self hi]
      conv => whnf
      refine ⟨[.old 0, .old 1, .old 2], _, _, ?_, rfl, rfl⟩
      repeat' (first | exact trivial | exact rfl | exact .inl rfl | (exact .inr rfl) | refine And.intro ?_ ?_)
    · rw [show lF token F j = F j by simp [lF, h1, h2], show lG token G j = G j by simp [lG, h1, h2], ← hj]
      conv => whnf
      refine ACall.use [2] (hdo ht l i hi hm) rfl (by repeat' (first | exact trivial | exact rfl | exact .inl rfl | refine And.intro ?_ ?_)) (by repeat' (first | exact trivial | exact rfl | exact .inl rfl | refine And.intro ?_ ?_)) ?_
      conv => whnf
      refine ⟨[.old 0, .old 1, .old 2], _, _, ?_, rfl, rfl⟩
      repeat' (first | exact trivial | exact rfl | exact .inl rfl | (exact .inr rfl) | refine And.intro ?_ ?_)

set_option maxRecDepth 100000 in
theorem c51d (q : Queue) (id token : Int) (times : Bool) (F : Job → Int) (G : Job → Job) (hl : q.1.length ≤ 9223372036854775807)
    (hdo : times = true → ∀ (l : List Job) (i : Nat), i < l.length → mayJ (elt tJob l i) = true → ACall E 59 [.eptr tJob 2 i 0, .ptr 0 0, .ptr 1 0] [.var [.int .i64 token], .var [.fn (.func 50) [] []], .arr tJob l true] (fun r h' => r = .ret (.int .i64 (F (elt tJob l i))) ∧ h' = [.var [.int .i64 token], .var [.fn (.func 50) [] []], .arr tJob (l.set i (G (elt tJob l i))) true])) :
    ACall E 51 [queueV q, .int .i64 id, .bool times, .fn (.func 59) [] [.ptr 0 0, .ptr 1 0]] [.var [.int .i64 token], .var [.fn (.func 50) [] []]] (fun r h' => r = .ret (.tup [queueV (changeN q id times F G).1, .int .i64 (changeN q id times F G).2]) ∧ h' = [.var [.int .i64 token], .var [.fn (.func 50) [] []]]) := by
  refine ACall.body envOK func51 rfl rfl rfl ?_
  conv => whnf
  refine ACall.use0 (c13 q hl) rfl ?_
  conv => whnf
  first | refine aIf_dec (fun h1 => ?_) (fun h1 => ?_) | refine aIf_beq (fun h1 => ?_) (fun h1 => ?_) | refine aIf_bne (fun h1 => ?_) (fun h1 => ?_) | refine aIf_not (fun h1 => ?_) (fun h1 => ?_) | refine aIf_mk (fun h1 => ?_) (fun h1 => ?_)
  · rw [show changeN q id times F G = (([], 0, 0), 1) from by (first | (simp [changeN, *]; done) | (simp [changeN, *] <;> omega) | (simp_all [changeN]; done) | (simp_all [changeN] <;> omega))]
    conv => whnf
    refine ⟨[.old 0, .old 1], _, _, ?_, rfl, rfl⟩
    repeat' (first | exact trivial | exact rfl | exact .inl rfl | (exact .inr rfl) | refine And.intro ?_ ?_)
  · conv => whnf
    first | refine aIf_dec (fun h2 => ?_) (fun h2 => ?_) | refine aIf_beq (fun h2 => ?_) (fun h2 => ?_) | refine aIf_bne (fun h2 => ?_) (fun h2 => ?_) | refine aIf_not (fun h2 => ?_) (fun h2 => ?_) | refine aIf_mk (fun h2 => ?_) (fun h2 => ?_)
    · rw [show changeN q id times F G = (([], 0, 0), 1) from by (first | (simp [changeN, *]; done) | (simp [changeN, *] <;> omega) | (simp_all [changeN]; done) | (simp_all [changeN] <;> omega))]
      conv => whnf
      refine ⟨[.old 0, .old 1], _, _, ?_, rfl, rfl⟩
      repeat' (first | exact trivial | exact rfl | exact .inl rfl | (exact .inr rfl) | refine And.intro ?_ ?_)
    · obtain ⟨g1, g2, g3, g4⟩ := goodQ_iff h1
      conv => whnf
      refine ACall.use [3] (c47i id q.1 false hl) rfl (by repeat' (first | exact trivial | exact rfl | exact .inl rfl | refine And.intro ?_ ?_)) (by repeat' (first | exact trivial | exact rfl | exact .inl rfl | refine And.intro ?_ ?_)) ?_
      conv => whnf
      first | refine aIf_dec (fun h3 => ?_) (fun h3 => ?_) | refine aIf_beq (fun h3 => ?_) (fun h3 => ?_) | refine aIf_bne (fun h3 => ?_) (fun h3 => ?_) | refine aIf_not (fun h3 => ?_) (fun h3 => ?_) | refine aIf_mk (fun h3 => ?_) (fun h3 => ?_)
      · rw [show changeN q id times F G = (([], 0, 0), 9) from by (first | (simp [changeN, *]; done) | (simp [changeN, *] <;> omega) | (simp_all [changeN]; done) | (simp_all [changeN] <;> omega))]
        conv => whnf
        refine ⟨[.old 0, .old 1], _, _, ?_, rfl, rfl⟩
        repeat' (first | exact trivial | exact rfl | exact .inl rfl | (exact .inr rfl) | refine And.intro ?_ ?_)
      · have h3' : ¬ idxOf (isId id) q.1 < 0 := h3
        obtain ⟨i, hi, hil, _, _⟩ := idxOf_lt (p := isId id) (l := q.1) (by omega)
        have hn : changeN q id times F G = if F (elt tJob q.1 i) ≠ 0 then (([], 0, 0), F (elt tJob q.1 i)) else ((q.1.set i (G (elt tJob q.1 i)), q.2.1, q.2.2), 0) := by
          rw [changeN, if_neg (by rw [h1]; simpa using h2), if_neg h3', hi]
          rfl
        rw [hn, hi]
        conv => whnf
        refine ACall.use [] (c39 q.1 (by omega)) rfl trivial (by repeat' (first | exact trivial | exact rfl | exact .inl rfl | refine And.intro ?_ ?_)) ?_
        conv => whnf
        refine And.intro (by omega) (And.intro (by omega) ?_)
        conv => whnf
        refine ACall.use [0, 1, 5] (hdo (by simpa using h2) q.1 i hil (goodQ_may h1 hil)) rfl (by repeat' (first | exact trivial | exact rfl | exact .inl rfl | refine And.intro ?_ ?_)) (by repeat' (first | exact trivial | exact rfl | exact .inl rfl | refine And.intro ?_ ?_)) ?_
        conv => whnf
        first | refine aIf_dec (fun h5 => ?_) (fun h5 => ?_) | refine aIf_beq (fun h5 => ?_) (fun h5 => ?_) | refine aIf_bne (fun h5 => ?_) (fun h5 => ?_) | refine aIf_not (fun h5 => ?_) (fun h5 => ?_) | refine aIf_mk (fun h5 => ?_) (fun h5 => ?_)
        · rw [if_pos h5]
          conv => whnf
          refine ⟨[.old 0, .old 1], _, _, ?_, rfl, rfl⟩
          repeat' (first | exact trivial | exact rfl | exact .inl rfl | (exact .inr rfl) | refine And.intro ?_ ?_)
        · rw [if_neg (by simpa using h5)]
          conv => whnf
          refine ⟨[.old 0, .old 1], _, _, ?_, rfl, rfl⟩
          repeat' (first | exact trivial | exact rfl | exact .inl rfl | (exact .inr rfl) | refine And.intro ?_ ?_)

set_option maxRecDepth 100000 in
theorem c44d (q : Queue) (id token : Int) (times : Bool) (F : Job → Int) (G : Job → Job) (hl : q.1.length ≤ 9223372036854775807)
    (hdo : times = true → ∀ (l : List Job) (i : Nat), i < l.length → mayJ (elt tJob l i) = true → ACall E 50 [.eptr tJob 0 i 0] [.arr tJob l true] (fun r h' => r = .ret (.int .i64 (F (elt tJob l i))) ∧ h' = [.arr tJob (l.set i (G (elt tJob l i))) true])) :
    ACall E 44 [queueV q, .int .i64 id, .int .i64 token, .bool times, .fn (.func 50) [] []] [] (fun r h' => r = .ret (.tup [queueV (changeN q id times (lF token F) (lG token G)).1, .int .i64 (changeN q id times (lF token F) (lG token G)).2]) ∧ h' = []) := by
  refine ACall.body envOK func44 rfl rfl rfl ?_
  conv => whnf
  refine ACall.use [1, 2] (c51d q id token times (lF token F) (lG token G) hl (fun ht => c59d token times F G hdo ht)) rfl (by repeat' (first | exact trivial | exact rfl | exact .inl rfl | refine And.intro ?_ ?_)) (by repeat' (first | exact trivial | exact rfl | exact .inl rfl | refine And.intro ?_ ?_)) ?_
  conv => whnf
  refine ⟨[], _, _, ?_, rfl, rfl⟩
  repeat' (first | exact trivial | exact rfl | exact .inl rfl | (exact .inr rfl) | refine And.intro ?_ ?_)

set_option maxRecDepth 100000 in
theorem c59m (token : Int) (point : Int) (times : Bool) (F : Job → Int) (G : Job → Job)
    (hdo : times = true → ∀ (l : List Job) (i : Nat), i < l.length → mayJ (elt tJob l i) = true → ACall E 46 [.eptr tJob 1 i 0, .ptr 0 0] [.var [.int .i64 point], .arr tJob l true] (fun r h' => r = .ret (.int .i64 (F (elt tJob l i))) ∧ h' = [.var [.int .i64 point], .arr tJob (l.set i (G (elt tJob l i))) true]))
    (ht : times = true) (l : List Job) (i : Nat) (hi : i < l.length) (hm : mayJ (elt tJob l i) = true) :
    ACall E 59 [.eptr tJob 3 i 0, .ptr 0 0, .ptr 1 0] [.var [.int .i64 token], .var [.fn (.func 46) [] [.ptr 2 0]], .var [.int .i64 point], .arr tJob l true] (fun r h' => r = .ret (.int .i64 (lF token F (elt tJob l i))) ∧ h' = [.var [.int .i64 token], .var [.fn (.func 46) [] [.ptr 2 0]], .var [.int .i64 point], .arr tJob (l.set i (lG token G (elt tJob l i))) true]) := by
  obtain ⟨j, hj⟩ : ∃ j : Job, elt tJob l i = j := ⟨_, rfl⟩
  rw [hj]
  refine ACall.body envOK func59 rfl rfl rfl ?_
  conv => whnf
  refine And.intro hi ?_
  rw [hj]
  conv => whnf
  first | refine aIf_dec (fun h1 => ?_) (fun h1 => ?_) | refine aIf_beq (fun h1 => ?_) (fun h1 => ?_) | refine aIf_bne (fun h1 => ?_) (fun h1 => ?_) | refine aIf_not (fun h1 => ?_) (fun h1 => ?_) | refine aIf_mk (fun h1 => ?_) (fun h1 => ?_)
  · rw [show lF token F j = 15 by simp [lF, h1], show lG token G j = j by simp [lG, h1], ← hj, set_self hi]
    conv => whnf
    refine ⟨[.old 0, .old 1, .old 2, .old 3], _, _, ?_, rfl, rfl⟩
    repeat' (first | exact trivial | exact rfl | exact .inl rfl | (exact .inr rfl) | refine And.intro ?_ ?_)
  · conv => whnf
    refine And.intro hi ?_
    rw [hj]
    conv => whnf
    first | refine aIf_dec (fun h2 => ?_) (fun h2 => ?_) | refine aIf_beq (fun h2 => ?_) (fun h2 => ?_) | refine aIf_bne (fun h2 => ?_) (fun h2 => ?_) | refine aIf_not (fun h2 => ?_) (fun h2 => ?_) | refine aIf_mk (fun h2 => ?_) (fun h2 => ?_)
    · rw [show lF token F j = 16 by simp [lF, h1, h2], show lG token G j = j by simp [lG, h1, h2], ← hj, set_self hi]
      conv => whnf
      refine ⟨[.old 0, .old 1, .old 2, .old 3], _, _, ?_, rfl, rfl⟩
      repeat' (first | exact trivial | exact rfl | exact .inl rfl | (exact .inr rfl) | refine And.intro ?_ ?_)
    · rw [show lF token F j = F j by simp [lF, h1, h2], show lG token G j = G j by simp [lG, h1, h2], ← hj]
      conv => whnf
      refine ACall.use [2, 3] (hdo ht l i hi hm) rfl (by repeat' (first | exact trivial | exact rfl | exact .inl rfl | refine And.intro ?_ ?_)) (by repeat' (first | exact trivial | exact rfl | exact .inl rfl | refine And.intro ?_ ?_)) ?_
      conv => whnf
      refine ⟨[.old 0, .old 1, .old 2, .old 3], _, _, ?_, rfl, rfl⟩
      repeat' (first | exact trivial | exact rfl | exact .inl rfl | (exact .inr rfl) | refine And.intro ?_ ?_)

set_option maxRecDepth 100000 in
theorem c51m (q : Queue) (id token : Int) (point : Int) (times : Bool) (F : Job → Int) (G : Job → Job) (hl : q.1.length ≤ 9223372036854775807)
    (hdo : times = true → ∀ (l : List Job) (i : Nat), i < l.length → mayJ (elt tJob l i) = true → ACall E 59 [.eptr tJob 3 i 0, .ptr 0 0, .ptr 1 0] [.var [.int .i64 token], .var [.fn (.func 46) [] [.ptr 2 0]], .var [.int .i64 point], .arr tJob l true] (fun r h' => r = .ret (.int .i64 (F (elt tJob l i))) ∧ h' = [.var [.int .i64 token], .var [.fn (.func 46) [] [.ptr 2 0]], .var [.int .i64 point], .arr tJob (l.set i (G (elt tJob l i))) true])) :
    ACall E 51 [queueV q, .int .i64 id, .bool times, .fn (.func 59) [] [.ptr 0 0, .ptr 1 0]] [.var [.int .i64 token], .var [.fn (.func 46) [] [.ptr 2 0]], .var [.int .i64 point]] (fun r h' => r = .ret (.tup [queueV (changeN q id times F G).1, .int .i64 (changeN q id times F G).2]) ∧ h' = [.var [.int .i64 token], .var [.fn (.func 46) [] [.ptr 2 0]], .var [.int .i64 point]]) := by
  refine ACall.body envOK func51 rfl rfl rfl ?_
  conv => whnf
  refine ACall.use0 (c13 q hl) rfl ?_
  conv => whnf
  first | refine aIf_dec (fun h1 => ?_) (fun h1 => ?_) | refine aIf_beq (fun h1 => ?_) (fun h1 => ?_) | refine aIf_bne (fun h1 => ?_) (fun h1 => ?_) | refine aIf_not (fun h1 => ?_) (fun h1 => ?_) | refine aIf_mk (fun h1 => ?_) (fun h1 => ?_)
  · rw [show changeN q id times F G = (([], 0, 0), 1) from by (first | (simp [changeN, *]; done) | (simp [changeN, *] <;> omega) | (simp_all [changeN]; done) | (simp_all [changeN] <;> omega))]
    conv => whnf
    refine ⟨[.old 0, .old 1, .old 2], _, _, ?_, rfl, rfl⟩
    repeat' (first | exact trivial | exact rfl | exact .inl rfl | (exact .inr rfl) | refine And.intro ?_ ?_)
  · conv => whnf
    first | refine aIf_dec (fun h2 => ?_) (fun h2 => ?_) | refine aIf_beq (fun h2 => ?_) (fun h2 => ?_) | refine aIf_bne (fun h2 => ?_) (fun h2 => ?_) | refine aIf_not (fun h2 => ?_) (fun h2 => ?_) | refine aIf_mk (fun h2 => ?_) (fun h2 => ?_)
    · rw [show changeN q id times F G = (([], 0, 0), 1) from by (first | (simp [changeN, *]; done) | (simp [changeN, *] <;> omega) | (simp_all [changeN]; done) | (simp_all [changeN] <;> omega))]
      conv => whnf
      refine ⟨[.old 0, .old 1, .old 2], _, _, ?_, rfl, rfl⟩
      repeat' (first | exact trivial | exact rfl | exact .inl rfl | (exact .inr rfl) | refine And.intro ?_ ?_)
    · obtain ⟨g1, g2, g3, g4⟩ := goodQ_iff h1
      conv => whnf
      refine ACall.use [4] (c47i id q.1 false hl) rfl (by repeat' (first | exact trivial | exact rfl | exact .inl rfl | refine And.intro ?_ ?_)) (by repeat' (first | exact trivial | exact rfl | exact .inl rfl | refine And.intro ?_ ?_)) ?_
      conv => whnf
      first | refine aIf_dec (fun h3 => ?_) (fun h3 => ?_) | refine aIf_beq (fun h3 => ?_) (fun h3 => ?_) | refine aIf_bne (fun h3 => ?_) (fun h3 => ?_) | refine aIf_not (fun h3 => ?_) (fun h3 => ?_) | refine aIf_mk (fun h3 => ?_) (fun h3 => ?_)
      · rw [show changeN q id times F G = (([], 0, 0), 9) from by (first | (simp [changeN, *]; done) | (simp [changeN, *] <;> omega) | (simp_all [changeN]; done) | (simp_all [changeN] <;> omega))]
        conv => whnf
        refine ⟨[.old 0, .old 1, .old 2], _, _, ?_, rfl, rfl⟩
        repeat' (first | exact trivial | exact rfl | exact .inl rfl | (exact .inr rfl) | refine And.intro ?_ ?_)
      · have h3' : ¬ idxOf (isId id) q.1 < 0 := h3
        obtain ⟨i, hi, hil, _, _⟩ := idxOf_lt (p := isId id) (l := q.1) (by omega)
        have hn : changeN q id times F G = if F (elt tJob q.1 i) ≠ 0 then (([], 0, 0), F (elt tJob q.1 i)) else ((q.1.set i (G (elt tJob q.1 i)), q.2.1, q.2.2), 0) := by
          rw [changeN, if_neg (by rw [h1]; simpa using h2), if_neg h3', hi]
          rfl
        rw [hn, hi]
        conv => whnf
        refine ACall.use [] (c39 q.1 (by omega)) rfl trivial (by repeat' (first | exact trivial | exact rfl | exact .inl rfl | refine And.intro ?_ ?_)) ?_
        conv => whnf
        refine And.intro (by omega) (And.intro (by omega) ?_)
        conv => whnf
        refine ACall.use [0, 1, 2, 6] (hdo (by simpa using h2) q.1 i hil (goodQ_may h1 hil)) rfl (by repeat' (first | exact trivial | exact rfl | exact .inl rfl | refine And.intro ?_ ?_)) (by repeat' (first | exact trivial | exact rfl | exact .inl rfl | refine And.intro ?_ ?_)) ?_
        conv => whnf
        first | refine aIf_dec (fun h5 => ?_) (fun h5 => ?_) | refine aIf_beq (fun h5 => ?_) (fun h5 => ?_) | refine aIf_bne (fun h5 => ?_) (fun h5 => ?_) | refine aIf_not (fun h5 => ?_) (fun h5 => ?_) | refine aIf_mk (fun h5 => ?_) (fun h5 => ?_)
        · rw [if_pos h5]
          conv => whnf
          refine ⟨[.old 0, .old 1, .old 2], _, _, ?_, rfl, rfl⟩
          repeat' (first | exact trivial | exact rfl | exact .inl rfl | (exact .inr rfl) | refine And.intro ?_ ?_)
        · rw [if_neg (by simpa using h5)]
          conv => whnf
          refine ⟨[.old 0, .old 1, .old 2], _, _, ?_, rfl, rfl⟩
          repeat' (first | exact trivial | exact rfl | exact .inl rfl | (exact .inr rfl) | refine And.intro ?_ ?_)

set_option maxRecDepth 100000 in
theorem c44m (q : Queue) (id token : Int) (point : Int) (times : Bool) (F : Job → Int) (G : Job → Job) (hl : q.1.length ≤ 9223372036854775807)
    (hdo : times = true → ∀ (l : List Job) (i : Nat), i < l.length → mayJ (elt tJob l i) = true → ACall E 46 [.eptr tJob 1 i 0, .ptr 0 0] [.var [.int .i64 point], .arr tJob l true] (fun r h' => r = .ret (.int .i64 (F (elt tJob l i))) ∧ h' = [.var [.int .i64 point], .arr tJob (l.set i (G (elt tJob l i))) true])) :
    ACall E 44 [queueV q, .int .i64 id, .int .i64 token, .bool times, .fn (.func 46) [] [.ptr 0 0]] [.var [.int .i64 point]] (fun r h' => r = .ret (.tup [queueV (changeN q id times (lF token F) (lG token G)).1, .int .i64 (changeN q id times (lF token F) (lG token G)).2]) ∧ h' = [.var [.int .i64 point]]) := by
  refine ACall.body envOK func44 rfl rfl rfl ?_
  conv => whnf
  refine ACall.use [2, 3, 0] (c51m q id token point times (lF token F) (lG token G) hl (fun ht => c59m token point times F G hdo ht)) rfl (by repeat' (first | exact trivial | exact rfl | exact .inl rfl | refine And.intro ?_ ?_)) (by repeat' (first | exact trivial | exact rfl | exact .inl rfl | refine And.intro ?_ ?_)) ?_
  conv => whnf
  refine ⟨[.old 0], _, _, ?_, rfl, rfl⟩
  repeat' (first | exact trivial | exact rfl | exact .inl rfl | (exact .inr rfl) | refine And.intro ?_ ?_)

set_option maxRecDepth 100000 in
theorem c59r (token : Int) (now span : Int) (times : Bool) (F : Job → Int) (G : Job → Job)
    (hdo : times = true → ∀ (l : List Job) (i : Nat), i < l.length → mayJ (elt tJob l i) = true → ACall E 45 [.eptr tJob 2 i 0, .ptr 0 0, .ptr 1 0] [.var [.int .i64 now], .var [.int .i64 span], .arr tJob l true] (fun r h' => r = .ret (.int .i64 (F (elt tJob l i))) ∧ h' = [.var [.int .i64 now], .var [.int .i64 span], .arr tJob (l.set i (G (elt tJob l i))) true]))
    (ht : times = true) (l : List Job) (i : Nat) (hi : i < l.length) (hm : mayJ (elt tJob l i) = true) :
    ACall E 59 [.eptr tJob 4 i 0, .ptr 0 0, .ptr 1 0] [.var [.int .i64 token], .var [.fn (.func 45) [] [.ptr 2 0, .ptr 3 0]], .var [.int .i64 now], .var [.int .i64 span], .arr tJob l true] (fun r h' => r = .ret (.int .i64 (lF token F (elt tJob l i))) ∧ h' = [.var [.int .i64 token], .var [.fn (.func 45) [] [.ptr 2 0, .ptr 3 0]], .var [.int .i64 now], .var [.int .i64 span], .arr tJob (l.set i (lG token G (elt tJob l i))) true]) := by
  obtain ⟨j, hj⟩ : ∃ j : Job, elt tJob l i = j := ⟨_, rfl⟩
  rw [hj]
  refine ACall.body envOK func59 rfl rfl rfl ?_
  conv => whnf
  refine And.intro hi ?_
  rw [hj]
  conv => whnf
  first | refine aIf_dec (fun h1 => ?_) (fun h1 => ?_) | refine aIf_beq (fun h1 => ?_) (fun h1 => ?_) | refine aIf_bne (fun h1 => ?_) (fun h1 => ?_) | refine aIf_not (fun h1 => ?_) (fun h1 => ?_) | refine aIf_mk (fun h1 => ?_) (fun h1 => ?_)
  · rw [show lF token F j = 15 by simp [lF, h1], show lG token G j = j by simp [lG, h1], ← hj, set_self hi]
    conv => whnf
    refine ⟨[.old 0, .old 1, .old 2, .old 3, .old 4], _, _, ?_, rfl, rfl⟩
    repeat' (first | exact trivial | exact rfl | exact .inl rfl | (exact .inr rfl) | refine And.intro ?_ ?_)
  · conv => whnf
    refine And.intro hi ?_
    rw [hj]
    conv => whnf
    first | refine aIf_dec (fun h2 => ?_) (fun h2 => ?_) | refine aIf_beq (fun h2 => ?_) (fun h2 => ?_) | refine aIf_bne (fun h2 => ?_) (fun h2 => ?_) | refine aIf_not (fun h2 => ?_) (fun h2 => ?_) | refine aIf_mk (fun h2 => ?_) (fun h2 => ?_)
    · rw [show lF token F j = 16 by simp [lF, h1, h2], show lG token G j = j by simp [lG, h1, h2], ← hj, set_self hi]
      conv => whnf
      refine ⟨[.old 0, .old 1, .old 2, .old 3, .old 4], _, _, ?_, rfl, rfl⟩
      repeat' (first | exact trivial | exact rfl | exact .inl rfl | (exact .inr rfl) | refine And.intro ?_ ?_)
    · rw [show lF token F j = F j by simp [lF, h1, h2], show lG token G j = G j by simp [lG, h1, h2], ← hj]
      conv => whnf
      refine ACall.use [2, 3, 4] (hdo ht l i hi hm) rfl (by repeat' (first | exact trivial | exact rfl | exact .inl rfl | refine And.intro ?_ ?_)) (by repeat' (first | exact trivial | exact rfl | exact .inl rfl | refine And.intro ?_ ?_)) ?_
      conv => whnf
      refine ⟨[.old 0, .old 1, .old 2, .old 3, .old 4], _, _, ?_, rfl, rfl⟩
      repeat' (first | exact trivial | exact rfl | exact .inl rfl | (exact .inr rfl) | refine And.intro ?_ ?_)

set_option maxRecDepth 100000 in
theorem c51r (q : Queue) (id token : Int) (now span : Int) (times : Bool) (F : Job → Int) (G : Job → Job) (hl : q.1.length ≤ 9223372036854775807)
    (hdo : times = true → ∀ (l : List Job) (i : Nat), i < l.length → mayJ (elt tJob l i) = true → ACall E 59 [.eptr tJob 4 i 0, .ptr 0 0, .ptr 1 0] [.var [.int .i64 token], .var [.fn (.func 45) [] [.ptr 2 0, .ptr 3 0]], .var [.int .i64 now], .var [.int .i64 span], .arr tJob l true] (fun r h' => r = .ret (.int .i64 (F (elt tJob l i))) ∧ h' = [.var [.int .i64 token], .var [.fn (.func 45) [] [.ptr 2 0, .ptr 3 0]], .var [.int .i64 now], .var [.int .i64 span], .arr tJob (l.set i (G (elt tJob l i))) true])) :
    ACall E 51 [queueV q, .int .i64 id, .bool times, .fn (.func 59) [] [.ptr 0 0, .ptr 1 0]] [.var [.int .i64 token], .var [.fn (.func 45) [] [.ptr 2 0, .ptr 3 0]], .var [.int .i64 now], .var [.int .i64 span]] (fun r h' => r = .ret (.tup [queueV (changeN q id times F G).1, .int .i64 (changeN q id times F G).2]) ∧ h' = [.var [.int .i64 token], .var [.fn (.func 45) [] [.ptr 2 0, .ptr 3 0]], .var [.int .i64 now], .var [.int .i64 span]]) := by
  refine ACall.body envOK func51 rfl rfl rfl ?_
  conv => whnf
  refine ACall.use0 (c13 q hl) rfl ?_
  conv => whnf
  first | refine aIf_dec (fun h1 => ?_) (fun h1 => ?_) | refine aIf_beq (fun h1 => ?_) (fun h1 => ?_) | refine aIf_bne (fun h1 => ?_) (fun h1 => ?_) | refine aIf_not (fun h1 => ?_) (fun h1 => ?_) | refine aIf_mk (fun h1 => ?_) (fun h1 => ?_)
  · rw [show changeN q id times F G = (([], 0, 0), 1) from by (first | (simp [changeN, *]; done) | (simp [changeN, *] <;> omega) | (simp_all [changeN]; done) | (simp_all [changeN] <;> omega))]
    conv => whnf
    refine ⟨[.old 0, .old 1, .old 2, .old 3], _, _, ?_, rfl, rfl⟩
    repeat' (first | exact trivial | exact rfl | exact .inl rfl | (exact .inr rfl) | refine And.intro ?_ ?_)
  · conv => whnf
    first | refine aIf_dec (fun h2 => ?_) (fun h2 => ?_) | refine aIf_beq (fun h2 => ?_) (fun h2 => ?_) | refine aIf_bne (fun h2 => ?_) (fun h2 => ?_) | refine aIf_not (fun h2 => ?_) (fun h2 => ?_) | refine aIf_mk (fun h2 => ?_) (fun h2 => ?_)
    · rw [show changeN q id times F G = (([], 0, 0), 1) from by (first | (simp [changeN, *]; done) | (simp [changeN, *] <;> omega) | (simp_all [changeN]; done) | (simp_all [changeN] <;> omega))]
      conv => whnf
      refine ⟨[.old 0, .old 1, .old 2, .old 3], _, _, ?_, rfl, rfl⟩
      repeat' (first | exact trivial | exact rfl | exact .inl rfl | (exact .inr rfl) | refine And.intro ?_ ?_)
    · obtain ⟨g1, g2, g3, g4⟩ := goodQ_iff h1
      conv => whnf
      refine ACall.use [5] (c47i id q.1 false hl) rfl (by repeat' (first | exact trivial | exact rfl | exact .inl rfl | refine And.intro ?_ ?_)) (by repeat' (first | exact trivial | exact rfl | exact .inl rfl | refine And.intro ?_ ?_)) ?_
      conv => whnf
      first | refine aIf_dec (fun h3 => ?_) (fun h3 => ?_) | refine aIf_beq (fun h3 => ?_) (fun h3 => ?_) | refine aIf_bne (fun h3 => ?_) (fun h3 => ?_) | refine aIf_not (fun h3 => ?_) (fun h3 => ?_) | refine aIf_mk (fun h3 => ?_) (fun h3 => ?_)
      · rw [show changeN q id times F G = (([], 0, 0), 9) from by (first | (simp [changeN, *]; done) | (simp [changeN, *] <;> omega) | (simp_all [changeN]; done) | (simp_all [changeN] <;> omega))]
        conv => whnf
        refine ⟨[.old 0, .old 1, .old 2, .old 3], _, _, ?_, rfl, rfl⟩
        repeat' (first | exact trivial | exact rfl | exact .inl rfl | (exact .inr rfl) | refine And.intro ?_ ?_)
      · have h3' : ¬ idxOf (isId id) q.1 < 0 := h3
        obtain ⟨i, hi, hil, _, _⟩ := idxOf_lt (p := isId id) (l := q.1) (by omega)
        have hn : changeN q id times F G = if F (elt tJob q.1 i) ≠ 0 then (([], 0, 0), F (elt tJob q.1 i)) else ((q.1.set i (G (elt tJob q.1 i)), q.2.1, q.2.2), 0) := by
          rw [changeN, if_neg (by rw [h1]; simpa using h2), if_neg h3', hi]
          rfl
        rw [hn, hi]
        conv => whnf
        refine ACall.use [] (c39 q.1 (by omega)) rfl trivial (by repeat' (first | exact trivial | exact rfl | exact .inl rfl | refine And.intro ?_ ?_)) ?_
        conv => whnf
        refine And.intro (by omega) (And.intro (by omega) ?_)
        conv => whnf
        refine ACall.use [0, 1, 2, 3, 7] (hdo (by simpa using h2) q.1 i hil (goodQ_may h1 hil)) rfl (by repeat' (first | exact trivial | exact rfl | exact .inl rfl | refine And.intro ?_ ?_)) (by repeat' (first | exact trivial | exact rfl | exact .inl rfl | refine And.intro ?_ ?_)) ?_
        conv => whnf
        first | refine aIf_dec (fun h5 => ?_) (fun h5 => ?_) | refine aIf_beq (fun h5 => ?_) (fun h5 => ?_) | refine aIf_bne (fun h5 => ?_) (fun h5 => ?_) | refine aIf_not (fun h5 => ?_) (fun h5 => ?_) | refine aIf_mk (fun h5 => ?_) (fun h5 => ?_)
        · rw [if_pos h5]
          conv => whnf
          refine ⟨[.old 0, .old 1, .old 2, .old 3], _, _, ?_, rfl, rfl⟩
          repeat' (first | exact trivial | exact rfl | exact .inl rfl | (exact .inr rfl) | refine And.intro ?_ ?_)
        · rw [if_neg (by simpa using h5)]
          conv => whnf
          refine ⟨[.old 0, .old 1, .old 2, .old 3], _, _, ?_, rfl, rfl⟩
          repeat' (first | exact trivial | exact rfl | exact .inl rfl | (exact .inr rfl) | refine And.intro ?_ ?_)

set_option maxRecDepth 100000 in
theorem c44r (q : Queue) (id token : Int) (now span : Int) (times : Bool) (F : Job → Int) (G : Job → Job) (hl : q.1.length ≤ 9223372036854775807)
    (hdo : times = true → ∀ (l : List Job) (i : Nat), i < l.length → mayJ (elt tJob l i) = true → ACall E 45 [.eptr tJob 2 i 0, .ptr 0 0, .ptr 1 0] [.var [.int .i64 now], .var [.int .i64 span], .arr tJob l true] (fun r h' => r = .ret (.int .i64 (F (elt tJob l i))) ∧ h' = [.var [.int .i64 now], .var [.int .i64 span], .arr tJob (l.set i (G (elt tJob l i))) true])) :
    ACall E 44 [queueV q, .int .i64 id, .int .i64 token, .bool times, .fn (.func 45) [] [.ptr 0 0, .ptr 1 0]] [.var [.int .i64 now], .var [.int .i64 span]] (fun r h' => r = .ret (.tup [queueV (changeN q id times (lF token F) (lG token G)).1, .int .i64 (changeN q id times (lF token F) (lG token G)).2]) ∧ h' = [.var [.int .i64 now], .var [.int .i64 span]]) := by
  refine ACall.body envOK func44 rfl rfl rfl ?_
  conv => whnf
  refine ACall.use [3, 4, 0, 1] (c51r q id token now span times (lF token F) (lG token G) hl (fun ht => c59r token now span times F G hdo ht)) rfl (by repeat' (first | exact trivial | exact rfl | exact .inl rfl | refine And.intro ?_ ?_)) (by repeat' (first | exact trivial | exact rfl | exact .inl rfl | refine And.intro ?_ ?_)) ?_
  conv => whnf
  refine ⟨[.old 0, .old 1], _, _, ?_, rfl, rfl⟩
  repeat' (first | exact trivial | exact rfl | exact .inl rfl | (exact .inr rfl) | refine And.intro ?_ ?_)

set_option maxRecDepth 100000 in
theorem c59f (token : Int) (ever : Bool) (now : Int) (times : Bool) (F : Job → Int) (G : Job → Job)
    (hdo : times = true → ∀ (l : List Job) (i : Nat), i < l.length → mayJ (elt tJob l i) = true → ACall E 53 [.eptr tJob 2 i 0, .ptr 0 0, .ptr 1 0] [.var [.bool ever], .var [.int .i64 now], .arr tJob l true] (fun r h' => r = .ret (.int .i64 (F (elt tJob l i))) ∧ h' = [.var [.bool ever], .var [.int .i64 now], .arr tJob (l.set i (G (elt tJob l i))) true]))
    (ht : times = true) (l : List Job) (i : Nat) (hi : i < l.length) (hm : mayJ (elt tJob l i) = true) :
    ACall E 59 [.eptr tJob 4 i 0, .ptr 0 0, .ptr 1 0] [.var [.int .i64 token], .var [.fn (.func 53) [] [.ptr 2 0, .ptr 3 0]], .var [.bool ever], .var [.int .i64 now], .arr tJob l true] (fun r h' => r = .ret (.int .i64 (lF token F (elt tJob l i))) ∧ h' = [.var [.int .i64 token], .var [.fn (.func 53) [] [.ptr 2 0, .ptr 3 0]], .var [.bool ever], .var [.int .i64 now], .arr tJob (l.set i (lG token G (elt tJob l i))) true]) := by
  obtain ⟨j, hj⟩ : ∃ j : Job, elt tJob l i = j := ⟨_, rfl⟩
  rw [hj]
  refine ACall.body envOK func59 rfl rfl rfl ?_
  conv => whnf
  refine And.intro hi ?_
  rw [hj]
  conv => whnf
  first | refine aIf_dec (fun h1 => ?_) (fun h1 => ?_) | refine aIf_beq (fun h1 => ?_) (fun h1 => ?_) | refine aIf_bne (fun h1 => ?_) (fun h1 => ?_) | refine aIf_not (fun h1 => ?_) (fun h1 => ?_) | refine aIf_mk (fun h1 => ?_) (fun h1 => ?_)
  · rw [show lF token F j = 15 by simp [lF, h1], show lG token G j = j by simp [lG, h1], ← hj, set_self hi]
    conv => whnf
    refine ⟨[.old 0, .old 1, .old 2, .old 3, .old 4], _, _, ?_, rfl, rfl⟩
    repeat' (first | exact trivial | exact rfl | exact .inl rfl | (exact .inr rfl) | refine And.intro ?_ ?_)
  · conv => whnf
    refine And.intro hi ?_
    rw [hj]
    conv => whnf
    first | refine aIf_dec (fun h2 => ?_) (fun h2 => ?_) | refine aIf_beq (fun h2 => ?_) (fun h2 => ?_) | refine aIf_bne (fun h2 => ?_) (fun h2 => ?_) | refine aIf_not (fun h2 => ?_) (fun h2 => ?_) | refine aIf_mk (fun h2 => ?_) (fun h2 => ?_)
    · rw [show lF token F j = 16 by simp [lF, h1, h2], show lG token G j = j by simp [lG, h1, h2], ← hj, set_self hi]
      conv => whnf
      refine ⟨[.old 0, .old 1, .old 2, .old 3, .old 4], _, _, ?_, rfl, rfl⟩
      repeat' (first | exact trivial | exact rfl | exact .inl rfl | (exact .inr rfl) | refine And.intro ?_ ?_)
    · rw [show lF token F j = F j by simp [lF, h1, h2], show lG token G j = G j by simp [lG, h1, h2], ← hj]
      conv => whnf
      refine ACall.use [2, 3, 4] (hdo ht l i hi hm) rfl (by repeat' (first | exact trivial | exact rfl | exact .inl rfl | refine And.intro ?_ ?_)) (by repeat' (first | exact trivial | exact rfl | exact .inl rfl | refine And.intro ?_ ?_)) ?_
      conv => whnf
      refine ⟨[.old 0, .old 1, .old 2, .old 3, .old 4], _, _, ?_, rfl, rfl⟩
      repeat' (first | exact trivial | exact rfl | exact .inl rfl | (exact .inr rfl) | refine And.intro ?_ ?_)

set_option maxRecDepth 100000 in
theorem c51f (q : Queue) (id token : Int) (ever : Bool) (now : Int) (times : Bool) (F : Job → Int) (G : Job → Job) (hl : q.1.length ≤ 9223372036854775807)
    (hdo : times = true → ∀ (l : List Job) (i : Nat), i < l.length → mayJ (elt tJob l i) = true → ACall E 59 [.eptr tJob 4 i 0, .ptr 0 0, .ptr 1 0] [.var [.int .i64 token], .var [.fn (.func 53) [] [.ptr 2 0, .ptr 3 0]], .var [.bool ever], .var [.int .i64 now], .arr tJob l true] (fun r h' => r = .ret (.int .i64 (F (elt tJob l i))) ∧ h' = [.var [.int .i64 token], .var [.fn (.func 53) [] [.ptr 2 0, .ptr 3 0]], .var [.bool ever], .var [.int .i64 now], .arr tJob (l.set i (G (elt tJob l i))) true])) :
    ACall E 51 [queueV q, .int .i64 id, .bool times, .fn (.func 59) [] [.ptr 0 0, .ptr 1 0]] [.var [.int .i64 token], .var [.fn (.func 53) [] [.ptr 2 0, .ptr 3 0]], .var [.bool ever], .var [.int .i64 now]] (fun r h' => r = .ret (.tup [queueV (changeN q id times F G).1, .int .i64 (changeN q id times F G).2]) ∧ h' = [.var [.int .i64 token], .var [.fn (.func 53) [] [.ptr 2 0, .ptr 3 0]], .var [.bool ever], .var [.int .i64 now]]) := by
  refine ACall.body envOK func51 rfl rfl rfl ?_
  conv => whnf
  refine ACall.use0 (c13 q hl) rfl ?_
  conv => whnf
  first | refine aIf_dec (fun h1 => ?_) (fun h1 => ?_) | refine aIf_beq (fun h1 => ?_) (fun h1 => ?_) | refine aIf_bne (fun h1 => ?_) (fun h1 => ?_) | refine aIf_not (fun h1 => ?_) (fun h1 => ?_) | refine aIf_mk (fun h1 => ?_) (fun h1 => ?_)
  · rw [show changeN q id times F G = (([], 0, 0), 1) from by (first | (simp [changeN, *]; done) | (simp [changeN, *] <;> omega) | (simp_all [changeN]; done) | (simp_all [changeN] <;> omega))]
    conv => whnf
    refine ⟨[.old 0, .old 1, .old 2, .old 3], _, _, ?_, rfl, rfl⟩
    repeat' (first | exact trivial | exact rfl | exact .inl rfl | (exact .inr rfl) | refine And.intro ?_ ?_)
  · conv => whnf
    first | refine aIf_dec (fun h2 => ?_) (fun h2 => ?_) | refine aIf_beq (fun h2 => ?_) (fun h2 => ?_) | refine aIf_bne (fun h2 => ?_) (fun h2 => ?_) | refine aIf_not (fun h2 => ?_) (fun h2 => ?_) | refine aIf_mk (fun h2 => ?_) (fun h2 => ?_)
    · rw [show changeN q id times F G = (([], 0, 0), 1) from by (first | (simp [changeN, *]; done) | (simp [changeN, *] <;> omega) | (simp_all [changeN]; done) | (simp_all [changeN] <;> omega))]
      conv => whnf
      refine ⟨[.old 0, .old 1, .old 2, .old 3], _, _, ?_, rfl, rfl⟩
      repeat' (first | exact trivial | exact rfl | exact .inl rfl | (exact .inr rfl) | refine And.intro ?_ ?_)
    · obtain ⟨g1, g2, g3, g4⟩ := goodQ_iff h1
      conv => whnf
      refine ACall.use [5] (c47i id q.1 false hl) rfl (by repeat' (first | exact trivial | exact rfl | exact .inl rfl | refine And.intro ?_ ?_)) (by repeat' (first | exact trivial | exact rfl | exact .inl rfl | refine And.intro ?_ ?_)) ?_
      conv => whnf
      first | refine aIf_dec (fun h3 => ?_) (fun h3 => ?_) | refine aIf_beq (fun h3 => ?_) (fun h3 => ?_) | refine aIf_bne (fun h3 => ?_) (fun h3 => ?_) | refine aIf_not (fun h3 => ?_) (fun h3 => ?_) | refine aIf_mk (fun h3 => ?_) (fun h3 => ?_)
      · rw [show changeN q id times F G = (([], 0, 0), 9) from by (first | (simp [changeN, *]; done) | (simp [changeN, *] <;> omega) | (simp_all [changeN]; done) | (simp_all [changeN] <;> omega))]
        conv => whnf
        refine ⟨[.old 0, .old 1, .old 2, .old 3], _, _, ?_, rfl, rfl⟩
        repeat' (first | exact trivial | exact rfl | exact .inl rfl | (exact .inr rfl) | refine And.intro ?_ ?_)
      · have h3' : ¬ idxOf (isId id) q.1 < 0 := h3
        obtain ⟨i, hi, hil, _, _⟩ := idxOf_lt (p := isId id) (l := q.1) (by omega)
        have hn : changeN q id times F G = if F (elt tJob q.1 i) ≠ 0 then (([], 0, 0), F (elt tJob q.1 i)) else ((q.1.set i (G (elt tJob q.1 i)), q.2.1, q.2.2), 0) := by
          rw [changeN, if_neg (by rw [h1]; simpa using h2), if_neg h3', hi]
          rfl
        rw [hn, hi]
        conv => whnf
        refine ACall.use [] (c39 q.1 (by omega)) rfl trivial (by repeat' (first | exact trivial | exact rfl | exact .inl rfl | refine And.intro ?_ ?_)) ?_
        conv => whnf
        refine And.intro (by omega) (And.intro (by omega) ?_)
        conv => whnf
        refine ACall.use [0, 1, 2, 3, 7] (hdo (by simpa using h2) q.1 i hil (goodQ_may h1 hil)) rfl (by repeat' (first | exact trivial | exact rfl | exact .inl rfl | refine And.intro ?_ ?_)) (by repeat' (first | exact trivial | exact rfl | exact .inl rfl | refine And.intro ?_ ?_)) ?_
        conv => whnf
        first | refine aIf_dec (fun h5 => ?_) (fun h5 => ?_) | refine aIf_beq (fun h5 => ?_) (fun h5 => ?_) | refine aIf_bne (fun h5 => ?_) (fun h5 => ?_) | refine aIf_not (fun h5 => ?_) (fun h5 => ?_) | refine aIf_mk (fun h5 => ?_) (fun h5 => ?_)
        · rw [if_pos h5]
          conv => whnf
          refine ⟨[.old 0, .old 1, .old 2, .old 3], _, _, ?_, rfl, rfl⟩
          repeat' (first | exact trivial | exact rfl | exact .inl rfl | (exact .inr rfl) | refine And.intro ?_ ?_)
        · rw [if_neg (by simpa using h5)]
          conv => whnf
          refine ⟨[.old 0, .old 1, .old 2, .old 3], _, _, ?_, rfl, rfl⟩
          repeat' (first | exact trivial | exact rfl | exact .inl rfl | (exact .inr rfl) | refine And.intro ?_ ?_)

set_option maxRecDepth 100000 in
theorem c44f (q : Queue) (id token : Int) (ever : Bool) (now : Int) (times : Bool) (F : Job → Int) (G : Job → Job) (hl : q.1.length ≤ 9223372036854775807)
    (hdo : times = true → ∀ (l : List Job) (i : Nat), i < l.length → mayJ (elt tJob l i) = true → ACall E 53 [.eptr tJob 2 i 0, .ptr 0 0, .ptr 1 0] [.var [.bool ever], .var [.int .i64 now], .arr tJob l true] (fun r h' => r = .ret (.int .i64 (F (elt tJob l i))) ∧ h' = [.var [.bool ever], .var [.int .i64 now], .arr tJob (l.set i (G (elt tJob l i))) true])) :
    ACall E 44 [queueV q, .int .i64 id, .int .i64 token, .bool times, .fn (.func 53) [] [.ptr 0 0, .ptr 1 0]] [.var [.bool ever], .var [.int .i64 now]] (fun r h' => r = .ret (.tup [queueV (changeN q id times (lF token F) (lG token G)).1, .int .i64 (changeN q id times (lF token F) (lG token G)).2]) ∧ h' = [.var [.bool ever], .var [.int .i64 now]]) := by
  refine ACall.body envOK func44 rfl rfl rfl ?_
  conv => whnf
  refine ACall.use [3, 4, 0, 1] (c51f q id token ever  now times (lF token F) (lG token G) hl (fun ht => c59f token ever  now times F G hdo ht)) rfl (by repeat' (first | exact trivial | exact rfl | exact .inl rfl | refine And.intro ?_ ?_)) (by repeat' (first | exact trivial | exact rfl | exact .inl rfl | refine And.intro ?_ ?_)) ?_
  conv => whnf
  refine ⟨[.old 0, .old 1], _, _, ?_, rfl, rfl⟩
  repeat' (first | exact trivial | exact rfl | exact .inl rfl | (exact .inr rfl) | refine And.intro ?_ ?_)

end Go.Proofs.Try
