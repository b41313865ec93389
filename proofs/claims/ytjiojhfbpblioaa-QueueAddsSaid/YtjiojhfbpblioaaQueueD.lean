import Derived.Test.YtjiojhfbpblioaaQueueDel2
namespace Go.Proofs.Try
open Go.AM

set_option maxRecDepth 100000 in
theorem c39 (l : List Job) (hl : l.length ≤ 1099511627776) : ACall E 39 [.sl tJob l false] [] (fun r h' => r = .ret (.own tJob 0 false) ∧ h' = [.arr tJob l true]) := by
  refine ACall.bodyR envOK func39 rfl rfl rfl ?_
  conv => whnf
  intro b hb
  conv => whnf
  refine aIf_mk (fun h => ?_) (fun h => ?_)
  · have e : l = [] := List.eq_nil_of_length_eq_zero (hb (by simpa using h))
    subst e
    conv => whnf
    refine ⟨[.emp tJob], _, _, ?_, rfl, rfl⟩
    repeat' (first | exact trivial | exact rfl | exact .inl rfl | (exact .inr rfl) | refine And.intro ?_ ?_)
  · conv => whnf
    refine And.intro (show sumOk (0 + l.length) 80 from ⟨by omega, by omega⟩) ?_
    conv => whnf
    refine ⟨[.old 1], _, _, ?_, rfl, rfl⟩
    repeat' (first | exact trivial | exact rfl | exact .inl rfl | (exact .inr rfl) | refine And.intro ?_ ?_)

set_option maxRecDepth 100000 in
theorem c18 (q : Queue) (id : Int) (hl : q.1.length ≤ 9223372036854775807) : ACall E 18 [queueV q, .int .i64 id] [] (fun r h' => r = .ret (.int .i64 (idxOf (isId id) q.1)) ∧ h' = []) := by
  refine ACall.body envOK func18 rfl rfl rfl ?_
  conv => whnf
  refine ⟨Nat, ⟨fun i => i ≤ q.1.length ∧ ∀ j (_ : j < i) (hj : j < q.1.length), isId id q.1[j] = false, fun i => ([(1, .int .i64 id), (8, .sl tJob q.1 false), (9, .int .i64 (q.1.length : Int)), (10, .int .i64 (i : Int))], []), fun i => q.1.length - i⟩, 0, [], [], ?_, ?_, fun i hi => ?_⟩
  · exact ⟨Nat.zero_le _, fun j hj => absurd hj (Nat.not_lt_zero _)⟩
  · repeat' (first | exact trivial | exact rfl | exact .inl rfl | (exact .inr rfl) | refine And.intro ?_ ?_)
  · obtain ⟨hi1, hi2⟩ : i ≤ q.1.length ∧ ∀ j (_ : j < i) (hj : j < q.1.length), isId id q.1[j] = false := hi
    conv => whnf
    first | refine aIf_dec (fun h => ?_) (fun h => ?_) | refine aIf_beq (fun h => ?_) (fun h => ?_) | refine aIf_bne (fun h => ?_) (fun h => ?_) | refine aIf_not (fun h => ?_) (fun h => ?_) | refine aIf_mk (fun h => ?_) (fun h => ?_)
    · have hlt : i < q.1.length := by omega
      conv => whnf
      repeat' (refine And.intro ?_ ?_; (first | omega | exact rfl | exact And.intro (by omega) (by omega) | exact Or.inr Nat.zero_lt_one))
      conv => whnf
      have e1 : ((i : Int)).toNat = i := by omega
      rw [e1]
      obtain ⟨j, hj⟩ : ∃ j : Job, elt tJob q.1 i = j := ⟨_, rfl⟩
      rw [hj]
      have hjl : q.1[i] = j := by rw [← eltJ hlt]; exact hj
      conv => whnf
      first | refine aIf_dec (fun hb => ?_) (fun hb => ?_) | refine aIf_beq (fun hb => ?_) (fun hb => ?_) | refine aIf_bne (fun hb => ?_) (fun hb => ?_) | refine aIf_not (fun hb => ?_) (fun hb => ?_) | refine aIf_mk (fun hb => ?_) (fun hb => ?_)
      · conv => whnf
        refine ⟨[], _, _, ?_, rfl, rfl⟩
        have e := idxOf_at (p := isId id) hlt (fun j hj => hi2 j hj _) (by rw [hjl]; simp [isId, hb])
        rw [e]
        repeat' (first | exact trivial | exact rfl | exact .inl rfl | (exact .inr rfl) | refine And.intro ?_ ?_)
      · conv => whnf
        refine ⟨i + 1, [], [], ⟨?_, ?_⟩, ?_, ?_⟩
        · omega
        · intro k hk hkl
          rcases Nat.lt_or_ge k i with h1 | h1
          · exact hi2 k h1 hkl
          · have : k = i := by omega
            subst this
            rw [hjl]; simp [isId, hb]
        · show q.1.length - (i + 1) < q.1.length - i
          omega
        · repeat' (first | exact trivial | exact rfl | exact .inl rfl | (exact .inr rfl) | refine And.intro ?_ ?_)
          exact i64_at rfl (by omega)
    · conv => whnf
      refine ⟨[], _, _, ?_, rfl, rfl⟩
      rw [idxOf_none (p := isId id) (fun x hx => by obtain ⟨j, hj, rfl⟩ := List.getElem_of_mem hx; exact hi2 j (by omega) hj)]
      repeat' (first | exact trivial | exact rfl | exact .inl rfl | (exact .inr rfl) | refine And.intro ?_ ?_)

theorem take_min {α : Type} {l : List α} {k : Nat} : List.take (min (l.length : Int) (k : Int)).toNat l = l.take k := by
  rcases Nat.le_total l.length k with h | h
  · rw [List.take_of_length_le h, List.take_of_length_le (by omega)]
  · congr 1; omega
def cutJ (m : Job) : Job := (m.1, m.2.1.take 205, m.2.2.1.take 205, m.2.2.2)
def fewQ (q : Queue) : Queue := ((q.1.take 66).map cutJ, q.2.1, q.2.2)
def cutAt (L : List Job) (i : Nat) : List Job := (L.take i).map cutJ ++ L.drop i
theorem cutAt_len {L : List Job} {i : Nat} : (cutAt L i).length = L.length := by simp [cutAt]; omega
theorem cutAt_elt {L : List Job} {i : Nat} (hi : i < L.length) : elt tJob (cutAt L i) i = elt tJob L i := by
  rw [eltJ hi, eltJ (show i < (cutAt L i).length by rw [cutAt_len]; exact hi)]
  simp only [cutAt]
  rw [List.getElem_append_right (by simp; omega)]
  simp [Nat.min_eq_left (Nat.le_of_lt hi)]
theorem cutAt_set {L : List Job} {i : Nat} (hi : i < L.length) : (cutAt L i).set i (cutJ (elt tJob L i)) = cutAt L (i + 1) := by
  have e : L.drop i = elt tJob L i :: L.drop (i + 1) := by rw [List.drop_eq_getElem_cons hi, eltJ hi]
  have e2 : L.take (i + 1) = L.take i ++ [elt tJob L i] := by rw [eltJ hi, List.take_succ_eq_append_getElem hi]
  have e3 : ((L.take i).map cutJ).length = i := by simp; omega
  simp only [cutAt]
  rw [e, e2, List.set_append_right _ _ (by omega), e3, Nat.sub_self, List.set_cons_zero]
  simp
theorem cutAt_end {L : List Job} {i : Nat} (hi : L.length ≤ i) : cutAt L i = L.map cutJ := by
  simp [cutAt, List.take_of_length_le hi, List.drop_of_length_le hi]
theorem fewQ_ok (q : Queue) : (fewQ q).1.length ≤ 66 := by simp [fewQ]; omega

set_option maxRecDepth 100000 in
theorem c10 (n : Queue) : ACall E 10 [queueV n] [] (fun r h' => r = .ret (queueV (fewQ n)) ∧ h' = []) := by
  refine ACall.body envOK func10 rfl rfl rfl ?_
  conv => whnf
  repeat' (refine And.intro ?_ ?_; (first | omega | exact rfl | exact And.intro (by omega) (by omega) | exact Or.inr Nat.zero_lt_one))
  conv => whnf
  have e1 : (List.drop (Int.toNat 0) (List.take (min (↑n.fst.length) (66 : Int)).toNat n.fst)) = n.1.take 66 := by
    show List.take (min (↑n.fst.length) (66 : Int)).toNat n.fst = _
    exact take_min (k := 66)
  rw [e1]
  conv => whnf
  have hl34 : (n.1.take 66).length ≤ 66 := by simp; omega
  refine And.intro (show sumOk (0 + (n.1.take 66).length) 80 from ⟨by omega, by omega⟩) ?_
  conv => whnf
  refine ⟨Nat, ⟨fun i => i ≤ (n.1.take 66).length, fun i => ([(1, .ptr 0 0), (2, .ptr 1 0), (16, .own tJob 2 false), (17, .int .i64 ((n.1.take 66).length : Int)), (18, .int .i64 (i : Int))],
    [.var [.own tJob 2 false, .int .i64 n.2.1, .int .i64 n.2.2], .var [.sl tJob [] true, .int .i64 0, .int .i64 0], .arr tJob (cutAt (n.1.take 66) i) true]), fun i => (n.1.take 66).length - i⟩, 0, [], [.old 0, .old 1, .old 3], ?_, ?_, fun i hi => ?_⟩
  · exact Nat.zero_le _
  · repeat' (first | exact trivial | exact rfl | exact .inl rfl | (exact .inr rfl) | refine And.intro ?_ ?_)
  · replace hi : i ≤ (n.1.take 66).length := hi
    have hr : (cutAt (n.1.take 66) i).length = (n.1.take 66).length := cutAt_len
    conv => whnf
    first | refine aIf_dec (fun h => ?_) (fun h => ?_) | refine aIf_beq (fun h => ?_) (fun h => ?_) | refine aIf_bne (fun h => ?_) (fun h => ?_) | refine aIf_not (fun h => ?_) (fun h => ?_) | refine aIf_mk (fun h => ?_) (fun h => ?_)
    · conv => whnf
      repeat' (refine And.intro ?_ ?_; (first | omega | exact rfl | exact And.intro (by omega) (by omega) | exact Or.inr Nat.zero_lt_one))
      conv => whnf
      have e1 : ((i : Int)).toNat = i := by omega
      rw [e1, cutAt_elt (by omega)]
      obtain ⟨j, hj⟩ : ∃ j : Job, elt tJob (n.1.take 66) i = j := ⟨_, rfl⟩
      rw [hj]
      conv => whnf
      have hlt : i < (cutAt (n.1.take 66) i).length := by omega
      refine And.intro hlt ?_
      conv => whnf
      repeat' (refine And.intro ?_ ?_; (first | omega | exact rfl | exact And.intro (by omega) (by omega) | exact Or.inr Nat.zero_lt_one))
      conv => whnf
      have e5 : List.drop (Int.toNat 0) (List.take (min (j.2.1.length : Int) 205).toNat j.2.1) = j.2.1.take 205 := take_min (k := 205)
      have e6 : List.drop (Int.toNat 0) (List.take (min (j.2.2.1.length : Int) 205).toNat j.2.2.1) = j.2.2.1.take 205 := take_min (k := 205)
      rw [e5]
      conv => whnf
      repeat' (refine And.intro ?_ ?_; (first | omega | exact rfl | exact And.intro (by omega) (by omega) | exact Or.inr Nat.zero_lt_one))
      conv => whnf
      rw [e6]
      conv => whnf
      repeat' (refine And.intro ?_ ?_; (first | omega | exact rfl | exact And.intro (by omega) (by omega) | exact Or.inr Nat.zero_lt_one))
      conv => whnf
      refine And.intro (show ((i : Int)).toNat < (cutAt (n.1.take 66) i).length by rw [e1]; exact hlt) ?_
      conv => whnf
      refine ⟨i + 1, [], [.old 0, .old 1, .old 2], (show i + 1 ≤ (n.1.take 66).length by omega), (show (n.1.take 66).length - (i + 1) < (n.1.take 66).length - i by omega), ?_⟩
      repeat' (first | exact trivial | exact rfl | exact .inl rfl | (exact .inr rfl) | refine And.intro ?_ ?_)
      · refine congrArg (fun l => AB.arr tJob l true) ?_
        show (cutAt (n.1.take 66) i).set ((i : Int)).toNat (cutJ j) = _
        rw [e1, ← hj]
        exact cutAt_set (by omega)
      · exact i64_at rfl (by omega)
    · conv => whnf
      rw [cutAt_end (by omega)]
      refine ⟨[], _, _, ?_, rfl, rfl⟩
      repeat' (first | exact trivial | exact rfl | exact .inl rfl | (exact .inr rfl) | refine And.intro ?_ ?_)
end Go.Proofs.Try
