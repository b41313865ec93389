import Derived.Test.YtjiojhfbpblioaaQueueB
namespace Go.Proofs.Try
open Go.AM

set_option maxRecDepth 100000 in
theorem c15 (j : Job) : ACall E 15 [jobV j] [] (fun r h' => r = .ret (.bool (opn j)) ∧ h' = []) := by
  refine ACall.body envOK func15 rfl rfl rfl ?_
  conv => whnf
  first | refine aIf_dec (fun h => ?_) (fun h => ?_) | refine aIf_beq (fun h => ?_) (fun h => ?_) | refine aIf_bne (fun h => ?_) (fun h => ?_) | refine aIf_not (fun h => ?_) (fun h => ?_) | refine aIf_mk (fun h => ?_) (fun h => ?_)
  · all_goals (try conv => whnf)
    all_goals (refine ⟨[], _, _, ?_, rfl, rfl⟩)
    all_goals (repeat' (first | exact trivial | exact rfl | exact .inl rfl | (exact .inr rfl) | refine And.intro ?_ ?_))
    all_goals (conv => whnf)
    all_goals (first | exact trivial | omega | (simp_all [ opn]; done) | (simp [ opn]; omega) | (rw [Bool.eq_iff_iff]; simp [ opn]; omega) | (simp [ opn, *] <;> omega) | (simp_all [ opn] <;> omega))
  · all_goals (try conv => whnf)
    all_goals (refine ⟨[], _, _, ?_, rfl, rfl⟩)
    all_goals (repeat' (first | exact trivial | exact rfl | exact .inl rfl | (exact .inr rfl) | refine And.intro ?_ ?_))
    all_goals (conv => whnf)
    all_goals (first | exact trivial | omega | (simp_all [ opn]; done) | (simp [ opn]; omega) | (rw [Bool.eq_iff_iff]; simp [ opn]; omega) | (simp [ opn, *] <;> omega) | (simp_all [ opn] <;> omega))
set_option maxRecDepth 100000 in
theorem c43 (n : Int) : ACall E 43 [.int .i64 n] [] (fun r h' => r = .ret (.bool (!out n)) ∧ h' = []) := by
  refine ACall.body envOK func43 rfl rfl rfl ?_
  conv => whnf
  repeat' ((conv => whnf); first | refine And.intro (by omega) ?_ | refine aIf_dec (fun h => ?_) (fun h => ?_) | refine aIf_beq (fun h => ?_) (fun h => ?_) | refine aIf_bne (fun h => ?_) (fun h => ?_) | refine aIf_not (fun h => ?_) (fun h => ?_))
  all_goals (try conv => whnf)
  all_goals (refine ⟨[], _, _, ?_, rfl, rfl⟩)
  all_goals (repeat' (first | exact trivial | exact rfl | exact .inl rfl | (exact .inr rfl) | refine And.intro ?_ ?_))
  all_goals (conv => whnf)
  all_goals (first | exact trivial | omega | (simp_all [ out]; done) | (simp [ out]; omega) | (rw [Bool.eq_iff_iff]; simp [ out]; omega) | (simp [ out, *] <;> omega) | (simp_all [ out] <;> omega))

set_option maxRecDepth 100000 in
theorem c30 (q : Queue) (key : Str) (id : Int) (hl : q.1.length ≤ 9223372036854775807) : ACall E 30 [queueV q, .str key, .int .i64 id] [] (fun r h' => r = .ret (.bool (q.1.any (hold key id))) ∧ h' = []) := by
  refine ACall.body envOK func30 rfl rfl rfl ?_
  conv => whnf
  refine ⟨Nat, ⟨fun i => i ≤ q.1.length ∧ ∀ j (_ : j < i) (hj : j < q.1.length), hold key id q.1[j] = false, fun i => ([(1, .str key), (2, .int .i64 id), (10, .sl tJob q.1 false), (11, .int .i64 (q.1.length : Int)), (12, .int .i64 (i : Int))], []), fun i => q.1.length - i⟩, 0, [], [], ?_, ?_, fun i hi => ?_⟩
  · exact ⟨Nat.zero_le _, fun j hj => absurd hj (Nat.not_lt_zero _)⟩
  · repeat' (first | exact trivial | exact rfl | exact .inl rfl | (exact .inr rfl) | refine And.intro ?_ ?_)
  · obtain ⟨hi1, hi2⟩ : i ≤ q.1.length ∧ ∀ j (_ : j < i) (hj : j < q.1.length), hold key id q.1[j] = false := hi
    conv => whnf
    first | refine aIf_dec (fun h => ?_) (fun h => ?_) | refine aIf_beq (fun h => ?_) (fun h => ?_) | refine aIf_bne (fun h => ?_) (fun h => ?_) | refine aIf_not (fun h => ?_) (fun h => ?_) | refine aIf_mk (fun h => ?_) (fun h => ?_)
    · have hlt : i < q.1.length := by omega
      conv => whnf
      repeat' (refine And.intro ?_ ?_; (first | omega | exact rfl | exact And.intro (by omega) (by omega) | exact Or.inr Nat.zero_lt_one))
      conv => whnf
      have e1 : ((i : Int)).toNat = i := by omega
      rw [e1]
      obtain ⟨j, hj⟩ : ∃ j : Job, elt tJob q.1 i = j := ⟨_, rfl⟩
      rw [hj]
      conv => whnf
      refine ACall.use0 (c15 j) rfl ?_
      conv => whnf
      have hjl : q.1[i] = j := by rw [← eltJ hlt]; exact hj
      have yes : hold key id j = true → q.1.any (hold key id) = true := fun hh => List.any_eq_true.2 ⟨j, by rw [← hjl]; exact List.getElem_mem hlt, hh⟩
      have no : hold key id j = false → ∀ k (_ : k < i + 1) (hk : k < q.1.length), hold key id q.1[k] = false := by
        intro hh k hk hkl
        rcases Nat.lt_or_ge k i with h1 | h1
        · exact hi2 k h1 hkl
        · have : k = i := by omega
          subst this
          rw [hjl]; exact hh
      repeat' ((conv => whnf); first | refine aIf_not (fun h => ?_) (fun h => ?_) | refine aIf_dec (fun h => ?_) (fun h => ?_) | refine aIf_bne (fun h => ?_) (fun h => ?_) | refine aIf_mk (fun h => ?_) (fun h => ?_))
      all_goals (conv => whnf)
      all_goals (first
        | (refine ⟨[], _, _, ?_, rfl, rfl⟩
           repeat' (first | exact trivial | exact rfl | exact .inl rfl | refine And.intro ?_ ?_)
           conv => whnf
           rw [yes (by simp only [hold, *]; simp_all)])
        | (refine ⟨i + 1, [], [], ⟨?_, ?_⟩, ?_, ?_⟩
           · omega
           · exact no (by simp only [hold]; simp_all)
           · show q.1.length - (i + 1) < q.1.length - i
             omega
           · repeat' (first | exact trivial | exact rfl | exact .inl rfl | refine And.intro ?_ ?_)
             exact i64_at rfl (by omega)))
    · conv => whnf
      refine ⟨[], _, _, ?_, rfl, rfl⟩
      repeat' (first | exact trivial | exact rfl | exact .inl rfl | (exact .inr rfl) | refine And.intro ?_ ?_)
      conv => whnf
      refine List.any_eq_false.2 fun x hx => ?_
      obtain ⟨j, hj, rfl⟩ := List.getElem_of_mem hx
      simp [hi2 j (by omega) hj]

def refOk (q : Queue) (last : Int) (j : Job) : Bool := !decide (j.1 ≤ last) && !decide (j.1 > q.2.1) && !decide (j.2.2.2.1 < 1) && !decide (j.2.2.2.1 > 5) && !decide (j.2.2.2.2.1 < 0) && !decide (j.2.2.2.2.1 > 10) &&
  !decide ((j.2.1.length : Int) > 200) && !decide ((j.2.2.1.length : Int) > 200) && !out j.2.2.2.2.2.1 && !decide (j.2.2.2.2.2.1 > q.2.2) && !out j.2.2.2.2.2.2.1 && !out j.2.2.2.2.2.2.2 && !(opn j && q.1.any (hold j.2.1 j.1))
def refFrom (q : Queue) : Int → List Job → Bool
  | _, [] => true
  | last, j :: r => refOk q last j && refFrom q j.1 r
theorem refFrom_drop {q : Queue} {last : Int} {l : List Job} {i : Nat} (hi : i < l.length) : refFrom q last (l.drop i) = (refOk q last (elt tJob l i) && refFrom q (elt tJob l i).1 (l.drop (i + 1))) := by
  rw [List.drop_eq_getElem_cons hi, refFrom, eltJ hi]
def refQ (q : Queue) : Bool := refFrom q 0 q.1 && decide ((q.1.length : Int) ≤ 64) && !out q.2.1 && !out q.2.2
theorem refFrom_eq {q : Queue} (ho : out q.2.1 = false) : ∀ (l : List Job) (last : Int), 0 ≤ last → refFrom q last l = rightFrom q last l
  | [], _, _ => rfl
  | j :: r, last, h0 => by
    simp only [refFrom, rightFrom]
    by_cases h : j.1 ≤ last
    · simp [refOk, h]
    · rw [refFrom_eq ho r j.1 (by omega)]
      congr 1
      simp only [out, Bool.or_eq_false_iff, decide_eq_false_iff_not] at ho
      rw [Bool.eq_iff_iff]
      simp only [refOk, mayJ, List.any_cons, List.any_nil, Bool.or_false, Bool.and_eq_true, Bool.not_eq_true', decide_eq_true_eq, decide_eq_false_iff_not, Bool.or_eq_false_iff, out]
      constructor
      · intro hh
        refine ⟨?_, hh.2⟩
        omega
      · intro hh
        refine ⟨?_, hh.2⟩
        omega
theorem refQ_eq (q : Queue) : refQ q = goodQ q := by
  unfold refQ goodQ
  cases ho : out q.2.1 with
  | true => simp [ho]
  | false =>
    rw [refFrom_eq ho _ _ (Int.le_refl _)]
    simp [ho, Bool.and_assoc]

set_option maxRecDepth 100000 in
theorem c14 (q : Queue) (hl : q.1.length ≤ 9223372036854775807) : ACall E 14 [queueV q] [] (fun r h' => r = .ret (.bool (goodQ q)) ∧ h' = []) := by
  rw [← refQ_eq]
  refine ACall.body envOK func14 rfl rfl rfl ?_
  conv => whnf
  refine ⟨Nat × Int, ⟨fun x => x.1 ≤ q.1.length ∧ refFrom q 0 q.1 = refFrom q x.2 (q.1.drop x.1), fun x => ([(1, .ptr 0 0), (3, .int .i64 x.2), (7, .sl tJob q.1 false), (8, .int .i64 (q.1.length : Int)), (9, .int .i64 (x.1 : Int))],
    [.var [.sl tJob q.1 false, .int .i64 q.2.1, .int .i64 q.2.2]]), fun x => q.1.length - x.1⟩, (0, 0), [], [.old 0], ⟨Nat.zero_le _, rfl⟩, ?_, fun x hx => ?_⟩
  · repeat' (first | exact trivial | exact rfl | exact .inl rfl | (exact .inr rfl) | refine And.intro ?_ ?_)
  · obtain ⟨hx1, hx2⟩ : x.1 ≤ q.1.length ∧ refFrom q 0 q.1 = refFrom q x.2 (q.1.drop x.1) := hx
    conv => whnf
    first | refine aIf_dec (fun h => ?_) (fun h => ?_) | refine aIf_beq (fun h => ?_) (fun h => ?_) | refine aIf_bne (fun h => ?_) (fun h => ?_) | refine aIf_not (fun h => ?_) (fun h => ?_) | refine aIf_mk (fun h => ?_) (fun h => ?_)
    · conv => whnf
      repeat' (refine And.intro ?_ ?_; (first | omega | exact rfl | exact And.intro (by omega) (by omega) | exact Or.inr Nat.zero_lt_one))
      conv => whnf
      have e1 : ((x.1 : Int)).toNat = x.1 := by omega
      rw [e1]
      rw [refFrom_drop (show x.1 < q.1.length by omega)] at hx2
      obtain ⟨j, hj⟩ : ∃ j : Job, elt tJob q.1 x.1 = j := ⟨_, rfl⟩
      rw [hj] at hx2 ⊢
      repeat' ((conv => whnf); first | refine aIf_not (fun h => ?_) (fun h => ?_) | refine aIf_dec (fun h => ?_) (fun h => ?_) | refine ACall.use0 (c43 _) rfl ?_ | refine ACall.use0 (c15 j) rfl ?_ | refine ACall.use0 (c30 q j.2.1 j.1 hl) rfl ?_ | refine aIf_mk (fun h => ?_) (fun h => ?_))
      all_goals (conv => whnf)
      all_goals (first
        | (refine ⟨[], _, _, ?_, rfl, rfl⟩
           repeat' (first | exact trivial | exact rfl | exact .inl rfl | refine And.intro ?_ ?_)
           conv => whnf
           unfold refQ
           rw [hx2]
           unfold refOk
           first | (simp only [*, decide_true, Bool.not_true, Bool.and_false, Bool.false_and]; done) | (simp [*]; done) | (simp_all; done) | (simp [decide_eq_true h, *]; done))
        | (refine ⟨(x.1 + 1, j.1), [], [.old 0], ⟨?_, ?_⟩, ?_, ?_⟩
           · show x.1 + 1 ≤ q.1.length
             omega
           · show refFrom q 0 q.1 = refFrom q j.1 (q.1.drop (x.1 + 1))
             rw [hx2]
             unfold refOk
             first | (simp [*]; done) | (simp [*]; omega) | (simp_all; done) | (simp_all; omega)
           · show q.1.length - (x.1 + 1) < q.1.length - x.1
             omega
           · repeat' (first | exact trivial | exact rfl | exact .inl rfl | refine And.intro ?_ ?_)
             exact i64_at rfl (by omega)))
    · have hr : refFrom q 0 q.1 = true := by
        rw [hx2, List.drop_eq_nil_of_le (by omega)]
        rfl
      repeat' ((conv => whnf); first | refine aIf_not (fun h => ?_) (fun h => ?_) | refine aIf_dec (fun h => ?_) (fun h => ?_) | refine ACall.use0 (c43 _) rfl ?_ | refine aIf_mk (fun h => ?_) (fun h => ?_))
      all_goals (conv => whnf)
      all_goals (refine ⟨[], _, _, ?_, rfl, rfl⟩)
      all_goals (repeat' (first | exact trivial | exact rfl | exact .inl rfl | refine And.intro ?_ ?_))
      all_goals (conv => whnf)
      all_goals (unfold refQ; rw [hr])
      all_goals (simp [*])
end Go.Proofs.Try
