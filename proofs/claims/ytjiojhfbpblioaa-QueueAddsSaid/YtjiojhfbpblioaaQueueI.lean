import Derived.Test.YtjiojhfbpblioaaQueueH
namespace Go.Proofs.Try
open Go.AM

/-- The first i as f makes them. -/
def mapAt (f : Job → Job) (L : List Job) (i : Nat) : List Job := (L.take i).map f ++ L.drop i
theorem mapAt_len {f : Job → Job} {L : List Job} {i : Nat} : (mapAt f L i).length = L.length := by simp [mapAt]; omega
theorem mapAt_elt {f : Job → Job} {L : List Job} {i : Nat} (hi : i < L.length) : elt tJob (mapAt f L i) i = elt tJob L i := by
  rw [eltJ hi, eltJ (show i < (mapAt f L i).length by rw [mapAt_len]; exact hi)]
  simp only [mapAt]
  rw [List.getElem_append_right (by simp; omega)]
  simp [Nat.min_eq_left (Nat.le_of_lt hi)]
theorem mapAt_put {f : Job → Job} {L : List Job} {i : Nat} {x : Job} (hi : i < L.length) : (mapAt f L i).set i x = (L.take i).map f ++ x :: L.drop (i + 1) := by
  have e : L.drop i = elt tJob L i :: L.drop (i + 1) := by rw [List.drop_eq_getElem_cons hi, eltJ hi]
  have e3 : ((L.take i).map f).length = i := by simp; omega
  simp only [mapAt]
  rw [e, List.set_append_right _ _ (by omega), e3, Nat.sub_self, List.set_cons_zero]
theorem mapAt_set {f : Job → Job} {L : List Job} {i : Nat} (hi : i < L.length) : (mapAt f L i).set i (f (elt tJob L i)) = mapAt f L (i + 1) := by
  rw [mapAt_put hi]
  have e2 : L.take (i + 1) = L.take i ++ [elt tJob L i] := by rw [eltJ hi, List.take_succ_eq_append_getElem hi]
  simp only [mapAt, e2]
  simp
theorem mapAt_same {f : Job → Job} {L : List Job} {i : Nat} (hi : i < L.length) (hf : f (elt tJob L i) = elt tJob L i) : mapAt f L (i + 1) = mapAt f L i := by
  rw [← mapAt_set hi, hf, ← mapAt_elt (f := f) hi]
  exact set_self (by rw [mapAt_len]; exact hi)
theorem mapAt_end {f : Job → Job} {L : List Job} {i : Nat} (hi : L.length ≤ i) : mapAt f L i = L.map f := by
  simp [mapAt, List.take_of_length_le hi, List.drop_of_length_le hi]

def deadJ (now : Int) (j : Job) : Job := if rdy now j = true ∧ j.2.2.2.2.1 = 10 then stG 5 j else j
def leaseJ (tok now span : Int) (j : Job) : Job := (j.1, j.2.1, j.2.2.1, 2, j.2.2.2.2.1 + 1, tok + 1, min (now + span) 1099511627776, j.2.2.2.2.2.2.2)
def leaseL (tok now span : Int) : List Job → List Job × Option Job
  | [] => ([], none)
  | j :: r => if rdy now j = true ∧ j.2.2.2.2.1 ≠ 10 then (leaseJ tok now span j :: r, some (leaseJ tok now span j)) else (deadJ now j :: (leaseL tok now span r).1, (leaseL tok now span r).2)
theorem leaseL_drop {tok now span : Int} {l : List Job} {i : Nat} (hi : i < l.length) : leaseL tok now span (l.drop i) =
    if rdy now (elt tJob l i) = true ∧ (elt tJob l i).2.2.2.2.1 ≠ (10 : Int) then (leaseJ tok now span (elt tJob l i) :: l.drop (i + 1), some (leaseJ tok now span (elt tJob l i)))
    else (deadJ now (elt tJob l i) :: (leaseL tok now span (l.drop (i + 1))).1, (leaseL tok now span (l.drop (i + 1))).2) := by
  rw [List.drop_eq_getElem_cons hi, leaseL, eltJ hi]
abbrev job0 : Job := (0, [], [], 0, 0, 0, 0, 0)
def leaseN (q : Queue) (now span : Int) : Queue × Job × Int :=
  if goodQ q = false ∨ [now, span].any out = true then (([], 0, 0), job0, 1)
  else if q.1.any (rdy now) = false then (([], 0, 0), job0, 9)
  else if q.2.2 = 1099511627776 then (([], 0, 0), job0, 13)
  else match (leaseL q.2.2 now span q.1).2 with
    | some j => (((leaseL q.2.2 now span q.1).1, q.2.1, q.2.2 + 1), j, 0)
    | none => (((leaseL q.2.2 now span q.1).1, q.2.1, q.2.2), job0, 0)

set_option maxRecDepth 100000 in
set_option maxHeartbeats 4000000 in
theorem c11 (q : Queue) (now span : Int) (hl : q.1.length ≤ 9223372036854775807) : ACall E 11 [queueV q, .int .i64 now, .int .i64 span] []
    (fun r h' => r = .ret (.tup [queueV (leaseN q now span).1, jobV (leaseN q now span).2.1, .int .i64 (leaseN q now span).2.2]) ∧ h' = []) := by
  refine ACall.body envOK func11 rfl rfl rfl ?_
  conv => whnf
  refine ACall.use0 (c13 q hl) rfl ?_
  conv => whnf
  first | refine aIf_dec (fun h1 => ?_) (fun h1 => ?_) | refine aIf_beq (fun h1 => ?_) (fun h1 => ?_) | refine aIf_bne (fun h1 => ?_) (fun h1 => ?_) | refine aIf_not (fun h1 => ?_) (fun h1 => ?_) | refine aIf_mk (fun h1 => ?_) (fun h1 => ?_)
  · rw [show leaseN q now span = (([], 0, 0), job0, 1) from by (first | (simp [leaseN, *]; done) | (simp [leaseN, *] <;> omega) | (simp_all [leaseN]; done) | (simp_all [leaseN] <;> omega))]
    conv => whnf
    refine ⟨[], _, _, ?_, rfl, rfl⟩
    repeat' (first | exact trivial | exact rfl | exact .inl rfl | (exact .inr rfl) | refine And.intro ?_ ?_)
  · conv => whnf
    refine ACall.use [] (c37 [now, span] true (by simp)) rfl trivial (by repeat' (first | exact trivial | exact rfl | exact .inl rfl | (exact .inr rfl) | refine And.intro ?_ ?_)) ?_
    conv => whnf
    first | refine aIf_dec (fun h2 => ?_) (fun h2 => ?_) | refine aIf_beq (fun h2 => ?_) (fun h2 => ?_) | refine aIf_bne (fun h2 => ?_) (fun h2 => ?_) | refine aIf_not (fun h2 => ?_) (fun h2 => ?_) | refine aIf_mk (fun h2 => ?_) (fun h2 => ?_)
    · have h2' : [now, span].any out = true := by generalize [now, span].any out = b at h2; cases b <;> simp_all
      rw [show leaseN q now span = (([], 0, 0), job0, 1) by simp [leaseN, h2']]
      conv => whnf
      refine ⟨[], _, _, ?_, rfl, rfl⟩
      repeat' (first | exact trivial | exact rfl | exact .inl rfl | (exact .inr rfl) | refine And.intro ?_ ?_)
    · have h2' : [now, span].any out = false := by generalize [now, span].any out = b at h2; cases b <;> simp_all
      have h2o := h2'
      simp only [List.any_cons, List.any_nil, Bool.or_false, Bool.or_eq_false_iff] at h2o
      obtain ⟨n1, n2⟩ := inT_of h2o.1
      obtain ⟨n3, n4⟩ := inT_of h2o.2
      obtain ⟨g1, g2, g3, g4, g5⟩ := goodQ_iff h1
      conv => whnf
      refine ACall.use [1] (c38r now q.1 false hl) rfl (by repeat' (first | exact trivial | exact rfl | exact .inl rfl | refine And.intro ?_ ?_)) (by repeat' (first | exact trivial | exact rfl | exact .inl rfl | refine And.intro ?_ ?_)) ?_
      conv => whnf
      first | refine aIf_dec (fun h3 => ?_) (fun h3 => ?_) | refine aIf_beq (fun h3 => ?_) (fun h3 => ?_) | refine aIf_bne (fun h3 => ?_) (fun h3 => ?_) | refine aIf_not (fun h3 => ?_) (fun h3 => ?_) | refine aIf_mk (fun h3 => ?_) (fun h3 => ?_)
      · rw [show leaseN q now span = (([], 0, 0), job0, 9) by simp [leaseN, h1, h2', h3]]
        conv => whnf
        refine ⟨[], _, _, ?_, rfl, rfl⟩
        repeat' (first | exact trivial | exact rfl | exact .inl rfl | (exact .inr rfl) | refine And.intro ?_ ?_)
      · conv => whnf
        first | refine aIf_dec (fun h4 => ?_) (fun h4 => ?_) | refine aIf_beq (fun h4 => ?_) (fun h4 => ?_) | refine aIf_bne (fun h4 => ?_) (fun h4 => ?_) | refine aIf_not (fun h4 => ?_) (fun h4 => ?_) | refine aIf_mk (fun h4 => ?_) (fun h4 => ?_)
        · rw [show leaseN q now span = (([], 0, 0), job0, 13) by simp [leaseN, h1, h2', h3, h4]]
          conv => whnf
          refine ⟨[], _, _, ?_, rfl, rfl⟩
          repeat' (first | exact trivial | exact rfl | exact .inl rfl | (exact .inr rfl) | refine And.intro ?_ ?_)
        · conv => whnf
          refine ACall.use [] (c39 q.1 (by omega)) rfl trivial (by repeat' (first | exact trivial | exact rfl | exact .inl rfl | refine And.intro ?_ ?_)) ?_
          conv => whnf
          have hN : leaseN q now span = match (leaseL q.2.2 now span q.1).2 with
              | some j => (((leaseL q.2.2 now span q.1).1, q.2.1, q.2.2 + 1), j, 0)
              | none => (((leaseL q.2.2 now span q.1).1, q.2.1, q.2.2), job0, 0) := by
            rw [leaseN, if_neg (by rw [h1, h2']; simp), if_neg (by rw [h3]; simp), if_neg h4]
          refine ⟨Nat, ⟨fun i => i ≤ q.1.length ∧ leaseL q.2.2 now span q.1 = ((q.1.take i).map (deadJ now) ++ (leaseL q.2.2 now span (q.1.drop i)).1, (leaseL q.2.2 now span (q.1.drop i)).2),
            fun i => ([(2, .int .i64 span), (3, .ptr 0 0), (4, .ptr 1 0), (6, .ptr 2 0), (7, .ptr 3 0), (9, .fn (.func 35) [] [.ptr 1 0]), (45, .own tJob 4 false), (46, .int .i64 (q.1.length : Int)), (47, .int .i64 (i : Int))],
              [.var [.own tJob 4 false, .int .i64 q.2.1, .int .i64 q.2.2], .var [.int .i64 now], .var [.sl tJob [] true, .int .i64 0, .int .i64 0], .var [.int .i64 0, .str [], .str [], .int .i64 0, .int .i64 0, .int .i64 0, .int .i64 0, .int .i64 0],
                .arr tJob (mapAt (deadJ now) q.1 i) true]), fun i => q.1.length - i⟩, 0, [], [.old 0, .old 1, .old 2, .old 3, .old 5], ⟨Nat.zero_le _, by simp⟩, ?_, fun i hi => ?_⟩
          · repeat' (first | exact trivial | exact rfl | exact .inl rfl | (exact .inr rfl) | refine And.intro ?_ ?_)
          · obtain ⟨hi1, hi2⟩ : i ≤ q.1.length ∧ leaseL q.2.2 now span q.1 = ((q.1.take i).map (deadJ now) ++ (leaseL q.2.2 now span (q.1.drop i)).1, (leaseL q.2.2 now span (q.1.drop i)).2) := hi
            have hm : (mapAt (deadJ now) q.1 i).length = q.1.length := mapAt_len
            conv => whnf
            first | refine aIf_dec (fun h5 => ?_) (fun h5 => ?_) | refine aIf_beq (fun h5 => ?_) (fun h5 => ?_) | refine aIf_bne (fun h5 => ?_) (fun h5 => ?_) | refine aIf_not (fun h5 => ?_) (fun h5 => ?_) | refine aIf_mk (fun h5 => ?_) (fun h5 => ?_)
            · have hlt : i < q.1.length := by omega
              have hlt2 : i < (mapAt (deadJ now) q.1 i).length := by omega
              have e1 : ((i : Int)).toNat = i := by omega
              obtain ⟨j, hj⟩ : ∃ j : Job, elt tJob q.1 i = j := ⟨_, rfl⟩
              have hj2 : elt tJob (mapAt (deadJ now) q.1 i) i = j := by rw [mapAt_elt hlt]; exact hj
              obtain ⟨k1, _, _, _, _, _, _, _, _, k10, k11⟩ := mayJ_iff (by rw [← hj]; exact goodQ_may h1 hlt : mayJ j = true)
              rw [leaseL_drop hlt, hj] at hi2
              conv => whnf
              refine And.intro (by omega) (And.intro (by omega) ?_)
              conv => whnf
              rw [e1]
              refine And.intro hlt2 ?_
              rw [hj2]
              conv => whnf
              refine ACall.use [1] (c35 now j) rfl (by repeat' (first | exact trivial | exact rfl | exact .inl rfl | refine And.intro ?_ ?_)) (by repeat' (first | exact trivial | exact rfl | exact .inl rfl | refine And.intro ?_ ?_)) ?_
              conv => whnf
              have et : q.1.take (i + 1) = q.1.take i ++ [j] := by rw [← hj, eltJ hlt, List.take_succ_eq_append_getElem hlt]
              have hstep : ¬ (rdy now j = true ∧ j.2.2.2.2.1 ≠ (10 : Int)) → leaseL q.2.2 now span q.1 = ((q.1.take (i + 1)).map (deadJ now) ++ (leaseL q.2.2 now span (q.1.drop (i + 1))).1, (leaseL q.2.2 now span (q.1.drop (i + 1))).2) := by
                intro hn
                rw [hi2, if_neg hn, et]
                simp
              first | refine aIf_dec (fun h6 => ?_) (fun h6 => ?_) | refine aIf_beq (fun h6 => ?_) (fun h6 => ?_) | refine aIf_bne (fun h6 => ?_) (fun h6 => ?_) | refine aIf_not (fun h6 => ?_) (fun h6 => ?_) | refine aIf_mk (fun h6 => ?_) (fun h6 => ?_)
              · have hd : deadJ now j = j := by simp [deadJ, h6]
                conv => whnf
                refine ⟨i + 1, [], [.old 0, .old 1, .old 2, .old 3, .old 4], ⟨(show i + 1 ≤ q.1.length by omega), hstep (by rw [h6]; simp)⟩, (show q.1.length - (i + 1) < q.1.length - i by omega), ?_⟩
                repeat' (first | exact trivial | exact rfl | exact .inl rfl | (exact .inr rfl) | refine And.intro ?_ ?_)
                · exact congrArg (fun l => AB.arr tJob l true) (mapAt_same hlt (by rw [hj]; exact hd)).symm
                · exact i64_at rfl (by omega)
              · conv => whnf
                refine And.intro hlt2 ?_
                rw [hj2]
                conv => whnf
                first | refine aIf_dec (fun h7 => ?_) (fun h7 => ?_) | refine aIf_beq (fun h7 => ?_) (fun h7 => ?_) | refine aIf_bne (fun h7 => ?_) (fun h7 => ?_) | refine aIf_not (fun h7 => ?_) (fun h7 => ?_) | refine aIf_mk (fun h7 => ?_) (fun h7 => ?_)
                · have hd : deadJ now j = stG 5 j := by
                    have h7' : j.2.2.2.2.1 = 10 := h7
                    simp [deadJ, h6, h7']
                  conv => whnf
                  refine And.intro hlt2 ?_
                  rw [hj2]
                  conv => whnf
                  refine ⟨i + 1, [], [.old 0, .old 1, .old 2, .old 3, .old 4], ⟨(show i + 1 ≤ q.1.length by omega), hstep (fun hh => hh.2 h7)⟩, (show q.1.length - (i + 1) < q.1.length - i by omega), ?_⟩
                  repeat' (first | exact trivial | exact rfl | exact .inl rfl | (exact .inr rfl) | refine And.intro ?_ ?_)
                  · refine congrArg (fun l => AB.arr tJob l true) ?_
                    show (mapAt (deadJ now) q.1 i).set i (stG 5 j) = _
                    rw [← hd, ← hj]
                    exact mapAt_set hlt
                  · exact i64_at rfl (by omega)
                · have h7' : ¬ j.2.2.2.2.1 = 10 := h7
                  have w1 : IntKind.i64.wrap (q.2.2 + 1) = q.2.2 + 1 := i64_at rfl (by omega)
                  have w2 : IntKind.i64.wrap (j.2.2.2.2.1 + 1) = j.2.2.2.2.1 + 1 := i64_at rfl (by omega)
                  rw [if_pos ⟨h6, h7'⟩] at hi2
                  conv => whnf
                  rw [w1]
                  conv => whnf
                  refine And.intro hlt2 ?_
                  rw [hj2]
                  conv => whnf
                  rw [w2]
                  refine ⟨_, _, _, ICall.use0 (c40 now span (by omega)) rfl, ?_⟩
                  conv => whnf
                  refine And.intro hlt2 ?_
                  rw [hj2]
                  conv => whnf
                  obtain ⟨L1, hL1⟩ : ∃ m : List Job, ((mapAt (deadJ now) q.1 i)).set i (j.1, j.2.1, j.2.2.1, 2, j.2.2.2.2.1, j.2.2.2.2.2.1, j.2.2.2.2.2.2.1, j.2.2.2.2.2.2.2) = m := ⟨_, rfl⟩
                  have hx1 : i < (L1).length := by rw [← hL1, List.length_set]; exact hlt2
                  have hy1 : elt tJob L1 i = (j.1, j.2.1, j.2.2.1, 2, j.2.2.2.2.1, j.2.2.2.2.2.1, j.2.2.2.2.2.2.1, j.2.2.2.2.2.2.2) := by rw [← hL1]; exact elt_set hlt2
                  rw [hL1]
                  refine And.intro hx1 ?_
                  rw [hy1]
                  conv => whnf
                  obtain ⟨L2, hL2⟩ : ∃ m : List Job, (L1).set i (j.1, j.2.1, j.2.2.1, 2, j.2.2.2.2.1, q.2.2 + 1, j.2.2.2.2.2.2.1, j.2.2.2.2.2.2.2) = m := ⟨_, rfl⟩
                  have hx2 : i < (L2).length := by rw [← hL2, List.length_set]; exact hx1
                  have hy2 : elt tJob L2 i = (j.1, j.2.1, j.2.2.1, 2, j.2.2.2.2.1, q.2.2 + 1, j.2.2.2.2.2.2.1, j.2.2.2.2.2.2.2) := by rw [← hL2]; exact elt_set hx1
                  rw [hL2]
                  refine And.intro hx2 ?_
                  rw [hy2]
                  conv => whnf
                  obtain ⟨L3, hL3⟩ : ∃ m : List Job, (L2).set i (j.1, j.2.1, j.2.2.1, 2, j.2.2.2.2.1 + 1, q.2.2 + 1, j.2.2.2.2.2.2.1, j.2.2.2.2.2.2.2) = m := ⟨_, rfl⟩
                  have hx3 : i < (L3).length := by rw [← hL3, List.length_set]; exact hx2
                  have hy3 : elt tJob L3 i = (j.1, j.2.1, j.2.2.1, 2, j.2.2.2.2.1 + 1, q.2.2 + 1, j.2.2.2.2.2.2.1, j.2.2.2.2.2.2.2) := by rw [← hL3]; exact elt_set hx2
                  rw [hL3]
                  refine And.intro hx3 ?_
                  rw [hy3]
                  conv => whnf
                  obtain ⟨L4, hL4⟩ : ∃ m : List Job, (L3).set i (leaseJ q.2.2 now span j) = m := ⟨_, rfl⟩
                  have hx4 : i < (L4).length := by rw [← hL4, List.length_set]; exact hx3
                  have hy4 : elt tJob L4 i = (leaseJ q.2.2 now span j) := by rw [← hL4]; exact elt_set hx3
                  have hL4' : L3.set i (j.1, j.2.1, j.2.2.1, 2, j.2.2.2.2.1 + 1, q.2.2 + 1, min (now + span) 1099511627776, j.2.2.2.2.2.2.2) = L4 := hL4
                  rw [hL4']
                  refine And.intro hx4 ?_
                  rw [hy4]
                  conv => whnf
                  have hL : L4 = (q.1.take i).map (deadJ now) ++ leaseJ q.2.2 now span j :: q.1.drop (i + 1) := by
                    rw [← hL4, ← hL3, ← hL2, ← hL1, List.set_set, List.set_set, List.set_set, mapAt_put hlt]
                  have e2 : leaseL q.2.2 now span q.1 = (L4, some (leaseJ q.2.2 now span j)) := by rw [hi2, hL]
                  rw [hN, e2]
                  conv => whnf
                  refine ⟨[], _, _, ?_, rfl, rfl⟩
                  repeat' (first | exact trivial | exact rfl | exact .inl rfl | (exact .inr rfl) | refine And.intro ?_ ?_)
            · have hle : q.1.length ≤ i := by omega
              have e2 : leaseL q.2.2 now span q.1 = (q.1.map (deadJ now), none) := by
                rw [hi2, List.drop_eq_nil_of_le hle, List.take_of_length_le hle]
                simp [leaseL]
              rw [hN, e2, mapAt_end hle]
              conv => whnf
              refine ⟨[], _, _, ?_, rfl, rfl⟩
              repeat' (first | exact trivial | exact rfl | exact .inl rfl | (exact .inr rfl) | refine And.intro ?_ ?_)
end Go.Proofs.Try
