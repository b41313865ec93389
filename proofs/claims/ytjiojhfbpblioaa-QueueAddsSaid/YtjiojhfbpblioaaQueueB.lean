import Derived.Test.YtjiojhfbpblioaaQueueA
namespace Go.Proofs.Try
open Go.AM

set_option maxRecDepth 100000 in
theorem c47h (key : Str) (id : Int) (l : List Job) (f : Bool) (hl : l.length ≤ 9223372036854775807) : ACall E 47 [.sl tJob l f, .fn (.func 58) [] [.ptr 0 0, .ptr 1 0]] [.var [.str key], .var [.int .i64 id]] (fun r h' => r = .ret (.int .i64 (idxOf (hold key id) l)) ∧ h' = [.var [.str key], .var [.int .i64 id]]) := by
  refine ACall.body envOK func47 rfl rfl rfl ?_
  conv => whnf
  refine ⟨Nat, ⟨fun i => i ≤ l.length ∧ ∀ j (_ : j < i) (hj : j < l.length), (hold key id) l[j] = false, fun i => ([(0, .sl tJob l f), (1, .fn (.func 58) [] [.ptr 0 0, .ptr 1 0]), (7, .int .i64 (l.length : Int)), (8, .int .i64 (i : Int))], [.var [.str key], .var [.int .i64 id]]), fun i => l.length - i⟩, 0, [], [.old 0, .old 1], ?_, ?_, fun i hi => ?_⟩
  · exact ⟨Nat.zero_le _, fun j hj => absurd hj (Nat.not_lt_zero _)⟩
  · repeat' (first | exact trivial | exact rfl | exact .inl rfl | (exact .inr rfl) | refine And.intro ?_ ?_)
  · obtain ⟨hi1, hi2⟩ : i ≤ l.length ∧ ∀ j (_ : j < i) (hj : j < l.length), (hold key id) l[j] = false := hi
    conv => whnf
    first | refine aIf_dec (fun h => ?_) (fun h => ?_) | refine aIf_beq (fun h => ?_) (fun h => ?_) | refine aIf_bne (fun h => ?_) (fun h => ?_) | refine aIf_not (fun h => ?_) (fun h => ?_) | refine aIf_mk (fun h => ?_) (fun h => ?_)
    · have hlt : i < l.length := by omega
      conv => whnf
      refine And.intro (by omega) ?_
      conv => whnf
      refine And.intro (by omega) ?_
      conv => whnf
      have e1 : ((i : Int)).toNat = i := by omega
      rw [e1]
      refine ACall.det (c58 key id (elt tJob l i)) ?_
      conv => whnf
      refine aIf_mk (fun hb => ?_) (fun hb => ?_)
      · conv => whnf
        refine ⟨[.old 0, .old 1], _, _, ?_, rfl, rfl⟩
        have e := idxOf_at (p := (hold key id)) hlt (fun j hj => hi2 j hj _) (by rw [← elt_eq (t := tJob) hlt]; exact hb)
        rw [e]
        repeat' (first | exact trivial | exact rfl | exact .inl rfl | (exact .inr rfl) | refine And.intro ?_ ?_)
      · conv => whnf
        refine ⟨i + 1, [], [.old 0, .old 1], ⟨?_, ?_⟩, ?_, ?_⟩
        · omega
        · intro j hj hjl
          rcases Nat.lt_or_ge j i with h1 | h1
          · exact hi2 j h1 hjl
          · have : j = i := by omega
            subst this
            rw [← elt_eq (t := tJob) hlt]
            exact hb
        · show l.length - (i + 1) < l.length - i
          omega
        · repeat' (first | exact trivial | exact rfl | exact .inl rfl | (exact .inr rfl) | refine And.intro ?_ ?_)
          exact i64_at rfl (by omega)
    · conv => whnf
      refine ⟨[.old 0, .old 1], _, _, ?_, rfl, rfl⟩
      rw [idxOf_none (p := (hold key id)) (fun x hx => by obtain ⟨j, hj, rfl⟩ := List.getElem_of_mem hx; exact hi2 j (by omega) hj)]
      repeat' (first | exact trivial | exact rfl | exact .inl rfl | (exact .inr rfl) | refine And.intro ?_ ?_)
set_option maxRecDepth 100000 in
theorem c38h (key : Str) (id : Int) (l : List Job) (f : Bool) (hl : l.length ≤ 9223372036854775807) : ACall E 38 [.sl tJob l f, .fn (.func 58) [] [.ptr 0 0, .ptr 1 0]] [.var [.str key], .var [.int .i64 id]] (fun r h' => r = .ret (.bool (l.any (hold key id))) ∧ h' = [.var [.str key], .var [.int .i64 id]]) := by
  refine ACall.body envOK func38 rfl rfl rfl ?_
  conv => whnf
  refine ACall.det (c47h key id l f hl) ?_
  conv => whnf
  refine ⟨[.old 0, .old 1], _, _, ?_, rfl, rfl⟩
  repeat' (first | exact trivial | exact rfl | exact .inl rfl | (exact .inr rfl) | refine And.intro ?_ ?_)
  conv => whnf
  exact idxOf_ge
set_option maxRecDepth 100000 in
theorem c47r (now : Int) (l : List Job) (f : Bool) (hl : l.length ≤ 9223372036854775807) : ACall E 47 [.sl tJob l f, .fn (.func 35) [] [.ptr 0 0]] [.var [.int .i64 now]] (fun r h' => r = .ret (.int .i64 (idxOf (rdy now) l)) ∧ h' = [.var [.int .i64 now]]) := by
  refine ACall.body envOK func47 rfl rfl rfl ?_
  conv => whnf
  refine ⟨Nat, ⟨fun i => i ≤ l.length ∧ ∀ j (_ : j < i) (hj : j < l.length), (rdy now) l[j] = false, fun i => ([(0, .sl tJob l f), (1, .fn (.func 35) [] [.ptr 0 0]), (7, .int .i64 (l.length : Int)), (8, .int .i64 (i : Int))], [.var [.int .i64 now]]), fun i => l.length - i⟩, 0, [], [.old 0], ?_, ?_, fun i hi => ?_⟩
  · exact ⟨Nat.zero_le _, fun j hj => absurd hj (Nat.not_lt_zero _)⟩
  · repeat' (first | exact trivial | exact rfl | exact .inl rfl | (exact .inr rfl) | refine And.intro ?_ ?_)
  · obtain ⟨hi1, hi2⟩ : i ≤ l.length ∧ ∀ j (_ : j < i) (hj : j < l.length), (rdy now) l[j] = false := hi
    conv => whnf
    first | refine aIf_dec (fun h => ?_) (fun h => ?_) | refine aIf_beq (fun h => ?_) (fun h => ?_) | refine aIf_bne (fun h => ?_) (fun h => ?_) | refine aIf_not (fun h => ?_) (fun h => ?_) | refine aIf_mk (fun h => ?_) (fun h => ?_)
    · have hlt : i < l.length := by omega
      conv => whnf
      refine And.intro (by omega) ?_
      conv => whnf
      refine And.intro (by omega) ?_
      conv => whnf
      have e1 : ((i : Int)).toNat = i := by omega
      rw [e1]
      refine ACall.det (c35 now (elt tJob l i)) ?_
      conv => whnf
      refine aIf_mk (fun hb => ?_) (fun hb => ?_)
      · conv => whnf
        refine ⟨[.old 0], _, _, ?_, rfl, rfl⟩
        have e := idxOf_at (p := (rdy now)) hlt (fun j hj => hi2 j hj _) (by rw [← elt_eq (t := tJob) hlt]; exact hb)
        rw [e]
        repeat' (first | exact trivial | exact rfl | exact .inl rfl | (exact .inr rfl) | refine And.intro ?_ ?_)
      · conv => whnf
        refine ⟨i + 1, [], [.old 0], ⟨?_, ?_⟩, ?_, ?_⟩
        · omega
        · intro j hj hjl
          rcases Nat.lt_or_ge j i with h1 | h1
          · exact hi2 j h1 hjl
          · have : j = i := by omega
            subst this
            rw [← elt_eq (t := tJob) hlt]
            exact hb
        · show l.length - (i + 1) < l.length - i
          omega
        · repeat' (first | exact trivial | exact rfl | exact .inl rfl | (exact .inr rfl) | refine And.intro ?_ ?_)
          exact i64_at rfl (by omega)
    · conv => whnf
      refine ⟨[.old 0], _, _, ?_, rfl, rfl⟩
      rw [idxOf_none (p := (rdy now)) (fun x hx => by obtain ⟨j, hj, rfl⟩ := List.getElem_of_mem hx; exact hi2 j (by omega) hj)]
      repeat' (first | exact trivial | exact rfl | exact .inl rfl | (exact .inr rfl) | refine And.intro ?_ ?_)
set_option maxRecDepth 100000 in
theorem c38r (now : Int) (l : List Job) (f : Bool) (hl : l.length ≤ 9223372036854775807) : ACall E 38 [.sl tJob l f, .fn (.func 35) [] [.ptr 0 0]] [.var [.int .i64 now]] (fun r h' => r = .ret (.bool (l.any (rdy now))) ∧ h' = [.var [.int .i64 now]]) := by
  refine ACall.body envOK func38 rfl rfl rfl ?_
  conv => whnf
  refine ACall.det (c47r now l f hl) ?_
  conv => whnf
  refine ⟨[.old 0], _, _, ?_, rfl, rfl⟩
  repeat' (first | exact trivial | exact rfl | exact .inl rfl | (exact .inr rfl) | refine And.intro ?_ ?_)
  conv => whnf
  exact idxOf_ge
set_option maxRecDepth 100000 in
theorem c47e (l : List Job) (f : Bool) (hl : l.length ≤ 9223372036854775807) : ACall E 47 [.sl tJob l f, .fn (.func 48) [] []] [] (fun r h' => r = .ret (.int .i64 (idxOf ended l)) ∧ h' = []) := by
  refine ACall.body envOK func47 rfl rfl rfl ?_
  conv => whnf
  refine ⟨Nat, ⟨fun i => i ≤ l.length ∧ ∀ j (_ : j < i) (hj : j < l.length), ended l[j] = false, fun i => ([(0, .sl tJob l f), (1, .fn (.func 48) [] []), (7, .int .i64 (l.length : Int)), (8, .int .i64 (i : Int))], []), fun i => l.length - i⟩, 0, [], [], ?_, ?_, fun i hi => ?_⟩
  · exact ⟨Nat.zero_le _, fun j hj => absurd hj (Nat.not_lt_zero _)⟩
  · repeat' (first | exact trivial | exact rfl | exact .inl rfl | (exact .inr rfl) | refine And.intro ?_ ?_)
  · obtain ⟨hi1, hi2⟩ : i ≤ l.length ∧ ∀ j (_ : j < i) (hj : j < l.length), ended l[j] = false := hi
    conv => whnf
    first | refine aIf_dec (fun h => ?_) (fun h => ?_) | refine aIf_beq (fun h => ?_) (fun h => ?_) | refine aIf_bne (fun h => ?_) (fun h => ?_) | refine aIf_not (fun h => ?_) (fun h => ?_) | refine aIf_mk (fun h => ?_) (fun h => ?_)
    · have hlt : i < l.length := by omega
      conv => whnf
      refine And.intro (by omega) ?_
      conv => whnf
      refine And.intro (by omega) ?_
      conv => whnf
      have e1 : ((i : Int)).toNat = i := by omega
      rw [e1]
      refine ACall.det (c48 (elt tJob l i)) ?_
      conv => whnf
      refine aIf_mk (fun hb => ?_) (fun hb => ?_)
      · conv => whnf
        refine ⟨[], _, _, ?_, rfl, rfl⟩
        have e := idxOf_at (p := ended) hlt (fun j hj => hi2 j hj _) (by rw [← elt_eq (t := tJob) hlt]; exact hb)
        rw [e]
        repeat' (first | exact trivial | exact rfl | exact .inl rfl | (exact .inr rfl) | refine And.intro ?_ ?_)
      · conv => whnf
        refine ⟨i + 1, [], [], ⟨?_, ?_⟩, ?_, ?_⟩
        · omega
        · intro j hj hjl
          rcases Nat.lt_or_ge j i with h1 | h1
          · exact hi2 j h1 hjl
          · have : j = i := by omega
            subst this
            rw [← elt_eq (t := tJob) hlt]
            exact hb
        · show l.length - (i + 1) < l.length - i
          omega
        · repeat' (first | exact trivial | exact rfl | exact .inl rfl | (exact .inr rfl) | refine And.intro ?_ ?_)
          exact i64_at rfl (by omega)
    · conv => whnf
      refine ⟨[], _, _, ?_, rfl, rfl⟩
      rw [idxOf_none (p := ended) (fun x hx => by obtain ⟨j, hj, rfl⟩ := List.getElem_of_mem hx; exact hi2 j (by omega) hj)]
      repeat' (first | exact trivial | exact rfl | exact .inl rfl | (exact .inr rfl) | refine And.intro ?_ ?_)
def isId (id : Int) (j : Job) : Bool := j.1 == id
set_option maxRecDepth 100000 in
theorem c60 (id : Int) (j : Job) : ACall E 60 [jobV j, .ptr 0 0] [.var [.int .i64 id]] (fun r h' => r = .ret (.bool (isId id j)) ∧ h' = [.var [.int .i64 id]]) := by
  refine ACall.body envOK func60 rfl rfl rfl ?_
  conv => whnf
  all_goals (try conv => whnf)
  all_goals (refine ⟨[.old 0], _, _, ?_, rfl, rfl⟩)
  all_goals (repeat' (first | exact trivial | exact rfl | exact .inl rfl | (exact .inr rfl) | refine And.intro ?_ ?_))
  all_goals (conv => whnf)
  all_goals (first | exact trivial | omega | (simp_all [ isId]; done) | (simp [ isId, *] <;> omega) | (simp_all [ isId] <;> omega))
set_option maxRecDepth 100000 in
theorem c47i (id : Int) (l : List Job) (f : Bool) (hl : l.length ≤ 9223372036854775807) : ACall E 47 [.sl tJob l f, .fn (.func 60) [] [.ptr 0 0]] [.var [.int .i64 id]] (fun r h' => r = .ret (.int .i64 (idxOf (isId id) l)) ∧ h' = [.var [.int .i64 id]]) := by
  refine ACall.body envOK func47 rfl rfl rfl ?_
  conv => whnf
  refine ⟨Nat, ⟨fun i => i ≤ l.length ∧ ∀ j (_ : j < i) (hj : j < l.length), (isId id) l[j] = false, fun i => ([(0, .sl tJob l f), (1, .fn (.func 60) [] [.ptr 0 0]), (7, .int .i64 (l.length : Int)), (8, .int .i64 (i : Int))], [.var [.int .i64 id]]), fun i => l.length - i⟩, 0, [], [.old 0], ?_, ?_, fun i hi => ?_⟩
  · exact ⟨Nat.zero_le _, fun j hj => absurd hj (Nat.not_lt_zero _)⟩
  · repeat' (first | exact trivial | exact rfl | exact .inl rfl | (exact .inr rfl) | refine And.intro ?_ ?_)
  · obtain ⟨hi1, hi2⟩ : i ≤ l.length ∧ ∀ j (_ : j < i) (hj : j < l.length), (isId id) l[j] = false := hi
    conv => whnf
    first | refine aIf_dec (fun h => ?_) (fun h => ?_) | refine aIf_beq (fun h => ?_) (fun h => ?_) | refine aIf_bne (fun h => ?_) (fun h => ?_) | refine aIf_not (fun h => ?_) (fun h => ?_) | refine aIf_mk (fun h => ?_) (fun h => ?_)
    · have hlt : i < l.length := by omega
      conv => whnf
      refine And.intro (by omega) ?_
      conv => whnf
      refine And.intro (by omega) ?_
      conv => whnf
      have e1 : ((i : Int)).toNat = i := by omega
      rw [e1]
      refine ACall.det (c60 id (elt tJob l i)) ?_
      conv => whnf
      refine aIf_mk (fun hb => ?_) (fun hb => ?_)
      · conv => whnf
        refine ⟨[.old 0], _, _, ?_, rfl, rfl⟩
        have e := idxOf_at (p := (isId id)) hlt (fun j hj => hi2 j hj _) (by rw [← elt_eq (t := tJob) hlt]; exact hb)
        rw [e]
        repeat' (first | exact trivial | exact rfl | exact .inl rfl | (exact .inr rfl) | refine And.intro ?_ ?_)
      · conv => whnf
        refine ⟨i + 1, [], [.old 0], ⟨?_, ?_⟩, ?_, ?_⟩
        · omega
        · intro j hj hjl
          rcases Nat.lt_or_ge j i with h1 | h1
          · exact hi2 j h1 hjl
          · have : j = i := by omega
            subst this
            rw [← elt_eq (t := tJob) hlt]
            exact hb
        · show l.length - (i + 1) < l.length - i
          omega
        · repeat' (first | exact trivial | exact rfl | exact .inl rfl | (exact .inr rfl) | refine And.intro ?_ ?_)
          exact i64_at rfl (by omega)
    · conv => whnf
      refine ⟨[.old 0], _, _, ?_, rfl, rfl⟩
      rw [idxOf_none (p := (isId id)) (fun x hx => by obtain ⟨j, hj, rfl⟩ := List.getElem_of_mem hx; exact hi2 j (by omega) hj)]
      repeat' (first | exact trivial | exact rfl | exact .inl rfl | (exact .inr rfl) | refine And.intro ?_ ?_)

set_option maxRecDepth 100000 in
theorem c42 (q : Queue) (key : Str) (id : Int) (hl : q.1.length ≤ 9223372036854775807) : ACall E 42 [queueV q, .str key, .int .i64 id] [] (fun r h' => r = .ret (.bool (q.1.any (hold key id))) ∧ h' = []) := by
  refine ACall.body envOK func42 rfl rfl rfl ?_
  conv => whnf
  refine ACall.use [1, 2] (c38h key id q.1 false hl) rfl (by repeat' (first | exact trivial | exact rfl | exact .inl rfl | refine And.intro ?_ ?_)) (by repeat' (first | exact trivial | exact rfl | exact .inl rfl | refine And.intro ?_ ?_)) ?_
  conv => whnf
  refine ⟨[], _, _, ?_, rfl, rfl⟩
  repeat' (first | exact trivial | exact rfl | exact .inl rfl | (exact .inr rfl) | refine And.intro ?_ ?_)

def mayJ (j : Job) : Bool :=
  decide (j.1 ≥ 1) && !([j.1, j.2.2.2.2.2.1, j.2.2.2.2.2.2.1, j.2.2.2.2.2.2.2].any out) && decide ((j.2.1.length : Int) ≤ 200) && decide ((j.2.2.1.length : Int) ≤ 200) && decide (j.2.2.2.1 ≥ 1) && decide (j.2.2.2.1 ≤ 5) && decide (j.2.2.2.2.1 ≥ 0) && decide (j.2.2.2.2.1 ≤ 10)
set_option maxRecDepth 100000 in
theorem c41 (j : Job) : ACall E 41 [jobV j] [] (fun r h' => r = .ret (.bool (mayJ j)) ∧ h' = []) := by
  refine ACall.body envOK func41 rfl rfl rfl ?_
  conv => whnf
  first | refine aIf_dec (fun h1 => ?_) (fun h1 => ?_) | refine aIf_beq (fun h1 => ?_) (fun h1 => ?_) | refine aIf_bne (fun h1 => ?_) (fun h1 => ?_) | refine aIf_not (fun h1 => ?_) (fun h1 => ?_) | refine aIf_mk (fun h1 => ?_) (fun h1 => ?_)
  · conv => whnf
    refine ACall.use [] (c37 [j.1, j.2.2.2.2.2.1, j.2.2.2.2.2.2.1, j.2.2.2.2.2.2.2] true (by simp)) rfl trivial (by repeat' (first | exact trivial | exact rfl | exact .inl rfl | refine And.intro ?_ ?_)) ?_
    conv => whnf
    refine aIf_mk (fun h2 => ?_) (fun h2 => ?_)
    · repeat' ((conv => whnf); refine aIf_dec (fun h => ?_) (fun h => ?_))
      all_goals (try conv => whnf)
      all_goals (refine ⟨[], _, _, ?_, rfl, rfl⟩)
      all_goals (repeat' (first | exact trivial | exact rfl | exact .inl rfl | (exact .inr rfl) | refine And.intro ?_ ?_))
      all_goals (conv => whnf)
      all_goals (first | exact trivial | omega | (simp_all [ mayJ]; done) | (simp [ mayJ, *] <;> omega) | (simp_all [ mayJ] <;> omega))
    · repeat' ((conv => whnf); first | refine And.intro (by omega) ?_ | refine aIf_dec (fun h => ?_) (fun h => ?_) | refine aIf_beq (fun h => ?_) (fun h => ?_) | refine aIf_bne (fun h => ?_) (fun h => ?_) | refine aIf_not (fun h => ?_) (fun h => ?_))
      all_goals (try conv => whnf)
      all_goals (refine ⟨[], _, _, ?_, rfl, rfl⟩)
      all_goals (repeat' (first | exact trivial | exact rfl | exact .inl rfl | (exact .inr rfl) | refine And.intro ?_ ?_))
      all_goals (conv => whnf)
      all_goals (first | exact trivial | omega | (simp_all [ mayJ]; done) | (simp [ mayJ, *] <;> omega) | (simp_all [ mayJ] <;> omega))
  · repeat' ((conv => whnf); first | refine And.intro (by omega) ?_ | refine aIf_dec (fun h => ?_) (fun h => ?_) | refine aIf_beq (fun h => ?_) (fun h => ?_) | refine aIf_bne (fun h => ?_) (fun h => ?_) | refine aIf_not (fun h => ?_) (fun h => ?_))
    all_goals (try conv => whnf)
    all_goals (refine ⟨[], _, _, ?_, rfl, rfl⟩)
    all_goals (repeat' (first | exact trivial | exact rfl | exact .inl rfl | (exact .inr rfl) | refine And.intro ?_ ?_))
    all_goals (conv => whnf)
    all_goals (first | exact trivial | omega | (simp_all [ mayJ]; done) | (simp [ mayJ, *] <;> omega) | (simp_all [ mayJ] <;> omega))

def rightFrom (q : Queue) : Int → List Job → Bool
  | _, [] => true
  | last, j :: r => mayJ j && !decide (j.1 ≤ last) && !decide (j.1 > q.2.1) && !decide (j.2.2.2.2.2.1 > q.2.2) && !(opn j && q.1.any (hold j.2.1 j.1)) && rightFrom q j.1 r
theorem rightFrom_drop {q : Queue} {last : Int} {l : List Job} {i : Nat} (hi : i < l.length) : rightFrom q last (l.drop i) =
    (mayJ (elt tJob l i) && !decide ((elt tJob l i).1 ≤ last) && !decide ((elt tJob l i).1 > q.2.1) && !decide ((elt tJob l i).2.2.2.2.2.1 > q.2.2) && !(opn (elt tJob l i) && q.1.any (hold (elt tJob l i).2.1 (elt tJob l i).1)) && rightFrom q (elt tJob l i).1 (l.drop (i + 1))) := by
  rw [List.drop_eq_getElem_cons hi, rightFrom, eltJ hi]
def goodQ (q : Queue) : Bool := rightFrom q 0 q.1 && decide ((q.1.length : Int) ≤ 64) && !([q.2.1, q.2.2].any out)

set_option maxRecDepth 100000 in
theorem c13 (q : Queue) (hl : q.1.length ≤ 9223372036854775807) : ACall E 13 [queueV q] [] (fun r h' => r = .ret (.bool (goodQ q)) ∧ h' = []) := by
  refine ACall.body envOK func13 rfl rfl rfl ?_
  conv => whnf
  refine ⟨Nat × Int, ⟨fun x => x.1 ≤ q.1.length ∧ rightFrom q 0 q.1 = rightFrom q x.2 (q.1.drop x.1), fun x => ([(1, .ptr 0 0), (3, .int .i64 x.2), (7, .sl tJob q.1 false), (8, .int .i64 (q.1.length : Int)), (9, .int .i64 (x.1 : Int))],
    [.var [.sl tJob q.1 false, .int .i64 q.2.1, .int .i64 q.2.2]]), fun x => q.1.length - x.1⟩, (0, 0), [], [.old 0], ⟨Nat.zero_le _, rfl⟩, ?_, fun x hx => ?_⟩
  · repeat' (first | exact trivial | exact rfl | exact .inl rfl | (exact .inr rfl) | refine And.intro ?_ ?_)
  · obtain ⟨hx1, hx2⟩ : x.1 ≤ q.1.length ∧ rightFrom q 0 q.1 = rightFrom q x.2 (q.1.drop x.1) := hx
    conv => whnf
    first | refine aIf_dec (fun h => ?_) (fun h => ?_) | refine aIf_beq (fun h => ?_) (fun h => ?_) | refine aIf_bne (fun h => ?_) (fun h => ?_) | refine aIf_not (fun h => ?_) (fun h => ?_) | refine aIf_mk (fun h => ?_) (fun h => ?_)
    · conv => whnf
      repeat' (refine And.intro ?_ ?_; (first | omega | exact rfl | exact And.intro (by omega) (by omega) | exact Or.inr Nat.zero_lt_one))
      conv => whnf
      have e1 : ((x.1 : Int)).toNat = x.1 := by omega
      rw [e1]
      rw [rightFrom_drop (show x.1 < q.1.length by omega)] at hx2
      obtain ⟨j, hj⟩ : ∃ j : Job, elt tJob q.1 x.1 = j := ⟨_, rfl⟩
      rw [hj] at hx2 ⊢
      conv => whnf
      refine ACall.use0 (c41 j) rfl ?_
      repeat' ((conv => whnf); first | refine aIf_not (fun h => ?_) (fun h => ?_) | refine aIf_dec (fun h => ?_) (fun h => ?_) | refine ACall.use0 (c36 j) rfl ?_ | refine ACall.use0 (c42 q j.2.1 j.1 hl) rfl ?_ | refine aIf_mk (fun h => ?_) (fun h => ?_))
      all_goals (conv => whnf)
      all_goals (first
        | (refine ⟨[], _, _, ?_, rfl, rfl⟩
           repeat' (first | exact trivial | exact rfl | exact .inl rfl | refine And.intro ?_ ?_)
           conv => whnf
           unfold goodQ
           rw [hx2]
           first | (simp only [*, decide_true, Bool.not_true, Bool.and_false, Bool.false_and]; done) | (simp [*]; done) | (simp [decide_eq_true h, *]; done))
        | (refine ⟨(x.1 + 1, j.1), [], [.old 0], ⟨?_, ?_⟩, ?_, ?_⟩
           · show x.1 + 1 ≤ q.1.length
             omega
           · show rightFrom q 0 q.1 = rightFrom q j.1 (q.1.drop (x.1 + 1))
             rw [hx2]
             first | (simp [*]; done) | (simp [*]; omega) | (simp_all; done) | (simp_all; omega)
           · show q.1.length - (x.1 + 1) < q.1.length - x.1
             omega
           · repeat' (first | exact trivial | exact rfl | exact .inl rfl | refine And.intro ?_ ?_)
             exact i64_at rfl (by omega)))
    · have hr : rightFrom q 0 q.1 = true := by
        rw [hx2, List.drop_eq_nil_of_le (by omega)]
        rfl
      conv => whnf
      first | refine aIf_dec (fun h2 => ?_) (fun h2 => ?_) | refine aIf_beq (fun h2 => ?_) (fun h2 => ?_) | refine aIf_bne (fun h2 => ?_) (fun h2 => ?_) | refine aIf_not (fun h2 => ?_) (fun h2 => ?_) | refine aIf_mk (fun h2 => ?_) (fun h2 => ?_)
      · conv => whnf
        refine ACall.use [] (c37 [q.2.1, q.2.2] true (by simp)) rfl trivial (by repeat' (first | exact trivial | exact rfl | exact .inl rfl | refine And.intro ?_ ?_)) ?_
        conv => whnf
        refine ⟨[], _, _, ?_, rfl, rfl⟩
        repeat' (first | exact trivial | exact rfl | exact .inl rfl | (exact .inr rfl) | refine And.intro ?_ ?_)
        conv => whnf
        unfold goodQ
        rw [hr]
        simp [h2]
        done
      · conv => whnf
        refine ⟨[], _, _, ?_, rfl, rfl⟩
        repeat' (first | exact trivial | exact rfl | exact .inl rfl | (exact .inr rfl) | refine And.intro ?_ ?_)
        conv => whnf
        unfold goodQ
        rw [hr]
        simp [h2]
end Go.Proofs.Try
