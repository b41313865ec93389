import Derived.Test.YtjiojhfbpblioaaQueueV
namespace Go.Proofs.Try
open Go.AM

abbrev tV (x : Queue × Job × Int) : AV := .agg [.sl tJob x.1.1 false, .int .i64 x.1.2.1, .int .i64 x.1.2.2, .int .i64 x.2.1.1, .str x.2.1.2.1, .str x.2.1.2.2.1, .int .i64 x.2.1.2.2.2.1, .int .i64 x.2.1.2.2.2.2.1, .int .i64 x.2.1.2.2.2.2.2.1, .int .i64 x.2.1.2.2.2.2.2.2.1, .int .i64 x.2.1.2.2.2.2.2.2.2, .int .i64 x.2.2]
abbrev t0V : List AV := [.sl tJob [] true, .int .i64 0, .int .i64 0, .int .i64 0, .str [], .str [], .int .i64 0, .int .i64 0, .int .i64 0, .int .i64 0, .int .i64 0, .int .i64 0]

def laterW (a b : Int) : Int := if IntKind.i64.wrap (a + b) > 1099511627776 then 1099511627776 else IntKind.i64.wrap (a + b)
theorem laterW_in {a b : Int} (ha : inT a) (hb : inT b) : laterW a b = min (a + b) 1099511627776 := by
  obtain ⟨a1, a2⟩ := ha
  obtain ⟨b1, b2⟩ := hb
  have w : IntKind.i64.wrap (a + b) = a + b := i64_at rfl (by omega)
  rw [laterW, w]
  split <;> omega
set_option maxRecDepth 100000 in
theorem c32g (a b : Int) : ACall E 32 [.int .i64 a, .int .i64 b] [] (fun r h' => r = .ret (.int .i64 (laterW a b)) ∧ h' = []) := by
  refine ACall.body envOK func32 rfl rfl rfl ?_
  conv => whnf
  first | refine aIf_dec (fun h => ?_) (fun h => ?_) | refine aIf_beq (fun h => ?_) (fun h => ?_) | refine aIf_bne (fun h => ?_) (fun h => ?_) | refine aIf_not (fun h => ?_) (fun h => ?_) | refine aIf_mk (fun h => ?_) (fun h => ?_)
  · rw [laterW, if_pos h]
    conv => whnf
    refine ⟨[], _, _, ?_, rfl, rfl⟩
    repeat' (first | exact trivial | exact rfl | exact .inl rfl | (exact .inr rfl) | refine And.intro ?_ ?_)
  · rw [laterW, if_neg h]
    conv => whnf
    refine ⟨[], _, _, ?_, rfl, rfl⟩
    repeat' (first | exact trivial | exact rfl | exact .inl rfl | (exact .inr rfl) | refine And.intro ?_ ?_)
def leaseJu (tok u : Int) (j : Job) : Job := (j.1, j.2.1, j.2.2.1, 2, j.2.2.2.2.1 + 1, tok + 1, u, j.2.2.2.2.2.2.2)
def leaseLu (tok now u : Int) : List Job → List Job × Option Job
  | [] => ([], none)
  | j :: r => if rdy now j = true ∧ j.2.2.2.2.1 ≠ 10 then (leaseJu tok u j :: r, some (leaseJu tok u j)) else (deadJ now j :: (leaseLu tok now u r).1, (leaseLu tok now u r).2)
theorem leaseLu_drop {tok now u : Int} {l : List Job} {i : Nat} (hi : i < l.length) : leaseLu tok now u (l.drop i) =
    if rdy now (elt tJob l i) = true ∧ (elt tJob l i).2.2.2.2.1 ≠ (10 : Int) then (leaseJu tok u (elt tJob l i) :: l.drop (i + 1), some (leaseJu tok u (elt tJob l i)))
    else (deadJ now (elt tJob l i) :: (leaseLu tok now u (l.drop (i + 1))).1, (leaseLu tok now u (l.drop (i + 1))).2) := by
  rw [List.drop_eq_getElem_cons hi, leaseLu, eltJ hi]
theorem leaseLu_eq {tok now span : Int} : ∀ (l : List Job), leaseLu tok now (min (now + span) 1099511627776) l = leaseL tok now span l
  | [] => rfl
  | j :: r => by rw [leaseLu, leaseL, leaseLu_eq r]; rfl
def leaseU (q : Queue) (now u : Int) : Queue × Job × Int :=
  if q.1.any (rdy now) = false then (([], 0, 0), job0, 9)
  else if q.2.2 = 1099511627776 then (([], 0, 0), job0, 13)
  else match (leaseLu q.2.2 now u q.1).2 with
    | some j => (((leaseLu q.2.2 now u q.1).1, q.2.1, q.2.2 + 1), j, 0)
    | none => (((leaseLu q.2.2 now u q.1).1, q.2.1, q.2.2), job0, 0)
theorem leaseU_eq {q : Queue} {now span : Int} (hg : goodQ q = true) (h1 : inT now) (h2 : inT span) : leaseU q now (laterW now span) = leaseN q now span := by
  have ho : [now, span].any out = false := by
    obtain ⟨n1, n2⟩ := h1
    obtain ⟨n3, n4⟩ := h2
    simp only [List.any_cons, List.any_nil, Bool.or_false, Bool.or_eq_false_iff, out, decide_eq_false_iff_not]
    omega
  rw [laterW_in h1 h2, leaseU, leaseN, if_neg (c := goodQ q = false ∨ [now, span].any out = true) (by rw [hg, ho]; simp), leaseLu_eq]
  rfl
set_option maxRecDepth 100000 in
set_option maxHeartbeats 4000000 in
theorem c27 (q : Queue) (now span : Int) (hg : goodQ q = true) : ACall E 27 [queueV q, .int .i64 now, .int .i64 span] [] (fun r h' => r = .ret (tV (leaseU q now (laterW now span))) ∧ h' = []) := by
  obtain ⟨g1, g2, g3, g4⟩ := goodQ_iff hg
  obtain ⟨g5, g6⟩ := g4
  refine ACall.body envOK func27 rfl rfl rfl ?_
  conv => whnf
  refine ⟨Nat × Bool, ⟨fun x => x.1 ≤ q.1.length ∧ (x.2 || (q.1.drop x.1).any (rdy now)) = q.1.any (rdy now), fun x => ([(1, .int .i64 now), (2, .int .i64 span), (3, .ptr 0 0), (6, .ptr 1 0), (7, .bool x.2), (13, .sl tJob q.1 false), (14, .int .i64 (q.1.length : Int)), (15, .int .i64 (x.1 : Int))],
    [.var [.sl tJob q.1 false, .int .i64 q.2.1, .int .i64 q.2.2], .var t0V]), fun x => q.1.length - x.1⟩, (0, false), [], [.old 0, .old 1], ⟨Nat.zero_le _, by simp⟩, ?_, fun x hx => ?_⟩
  · repeat' (first | exact trivial | exact rfl | exact .inl rfl | (exact .inr rfl) | refine And.intro ?_ ?_)
  · obtain ⟨i, sm⟩ := x
    obtain ⟨x1, x2⟩ : i ≤ q.1.length ∧ (sm || (q.1.drop i).any (rdy now)) = q.1.any (rdy now) := hx
    conv => whnf
    first | refine aIf_dec (fun h5 => ?_) (fun h5 => ?_) | refine aIf_beq (fun h5 => ?_) (fun h5 => ?_) | refine aIf_bne (fun h5 => ?_) (fun h5 => ?_) | refine aIf_not (fun h5 => ?_) (fun h5 => ?_) | refine aIf_mk (fun h5 => ?_) (fun h5 => ?_)
    · have hlt : i < q.1.length := by
        have : (i : Int) < (q.1.length : Int) := h5
        omega
      have hi0 : (0 : Int) ≤ (i : Int) := by omega
      have x2' := x2
      rw [List.drop_eq_getElem_cons hlt, List.any_cons, ← eltJ hlt] at x2'
      conv => whnf
      refine And.intro hi0 (And.intro h5 ?_)
      rw [show ((i : Int)).toNat = i from rfl]
      obtain ⟨j, hj⟩ : ∃ j : Job, elt tJob q.1 i = j := ⟨_, rfl⟩
      rw [hj] at x2' ⊢
      conv => whnf
      refine aIf_mk (fun h6 => ?_) (fun h6 => ?_)
      · have h6' : sm = true := h6
        subst h6'
        conv => whnf
        refine ⟨(i + 1, true), [], [.old 0, .old 1], ⟨(show i + 1 ≤ q.1.length by omega), ?_⟩, (show q.1.length - (i + 1) < q.1.length - i by omega), ?_⟩
        · show (true || (q.1.drop (i + 1)).any (rdy now)) = q.1.any (rdy now)
          rw [← x2']
          simp [rdy, *]
        · repeat' (first | exact trivial | exact rfl | exact .inl rfl | (exact .inr rfl) | refine And.intro ?_ ?_)
          exact i64_at rfl (by omega)
      · have h6' : sm = false := h6
        subst h6'
        conv => whnf
        refine ACall.use0 (c15 j) rfl ?_
        conv => whnf
        refine aIf_mk (fun h7 => ?_) (fun h7 => ?_)
        · conv => whnf
          refine ⟨(i + 1, (decide (j.2.2.2.2.2.2.1 ≤ now))), [], [.old 0, .old 1], ⟨(show i + 1 ≤ q.1.length by omega), ?_⟩, (show q.1.length - (i + 1) < q.1.length - i by omega), ?_⟩
          · show ((decide (j.2.2.2.2.2.2.1 ≤ now)) || (q.1.drop (i + 1)).any (rdy now)) = q.1.any (rdy now)
            rw [← x2']
            simp [rdy, *]
          · repeat' (first | exact trivial | exact rfl | exact .inl rfl | (exact .inr rfl) | refine And.intro ?_ ?_)
            exact i64_at rfl (by omega)
        · conv => whnf
          refine ⟨(i + 1, false), [], [.old 0, .old 1], ⟨(show i + 1 ≤ q.1.length by omega), ?_⟩, (show q.1.length - (i + 1) < q.1.length - i by omega), ?_⟩
          · show (false || (q.1.drop (i + 1)).any (rdy now)) = q.1.any (rdy now)
            rw [← x2']
            simp [rdy, *]
          · repeat' (first | exact trivial | exact rfl | exact .inl rfl | (exact .inr rfl) | refine And.intro ?_ ?_)
            exact i64_at rfl (by omega)
    · have hsm : sm = q.1.any (rdy now) := by
        have h5' : ¬ (i : Int) < (q.1.length : Int) := h5
        have x2' := x2
        rw [List.drop_eq_nil_of_le (by omega)] at x2'
        simpa using x2'
      subst hsm
      conv => whnf
      first | refine aIf_dec (fun h3 => ?_) (fun h3 => ?_) | refine aIf_beq (fun h3 => ?_) (fun h3 => ?_) | refine aIf_bne (fun h3 => ?_) (fun h3 => ?_) | refine aIf_not (fun h3 => ?_) (fun h3 => ?_) | refine aIf_mk (fun h3 => ?_) (fun h3 => ?_)
      · have h3' : q.1.any (rdy now) = false := h3
        rw [show leaseU q now (laterW now span) = (([], 0, 0), job0, 9) by simp [leaseU, h3']]
        conv => whnf
        refine ⟨[], _, _, ?_, rfl, rfl⟩
        repeat' (first | exact trivial | exact rfl | exact .inl rfl | (exact .inr rfl) | refine And.intro ?_ ?_)
      · have h3' : q.1.any (rdy now) = true := h3
        conv => whnf
        first | refine aIf_dec (fun h4 => ?_) (fun h4 => ?_) | refine aIf_beq (fun h4 => ?_) (fun h4 => ?_) | refine aIf_bne (fun h4 => ?_) (fun h4 => ?_) | refine aIf_not (fun h4 => ?_) (fun h4 => ?_) | refine aIf_mk (fun h4 => ?_) (fun h4 => ?_)
        · have h4' : q.2.2 = 1099511627776 := h4
          rw [show leaseU q now (laterW now span) = (([], 0, 0), job0, 13) by simp [leaseU, h3', h4']]
          conv => whnf
          refine ⟨[], _, _, ?_, rfl, rfl⟩
          repeat' (first | exact trivial | exact rfl | exact .inl rfl | (exact .inr rfl) | refine And.intro ?_ ?_)
        · have h4' : ¬ q.2.2 = 1099511627776 := h4
          have hN : leaseU q now (laterW now span) = match (leaseLu q.2.2 now (laterW now span) q.1).2 with
              | some j => (((leaseLu q.2.2 now (laterW now span) q.1).1, q.2.1, q.2.2 + 1), j, 0)
              | none => (((leaseLu q.2.2 now (laterW now span) q.1).1, q.2.1, q.2.2), job0, 0) := by
            rw [leaseU, if_neg (by rw [h3']; simp), if_neg h4']
          conv => whnf
          refine ⟨Nat, ⟨fun i => i ≤ q.1.length ∧ leaseLu q.2.2 now (laterW now span) q.1 = ((q.1.take i).map (deadJ now) ++ (leaseLu q.2.2 now (laterW now span) (q.1.drop i)).1, (leaseLu q.2.2 now (laterW now span) (q.1.drop i)).2),
            fun i => ([(1, .int .i64 now), (2, .int .i64 span), (3, .ptr 0 0), (6, .ptr 1 0), (39, .sl tJob q.1 false), (40, .int .i64 (q.1.length : Int)), (41, .int .i64 (i : Int))],
              [.var [.sl tJob (mapAt (deadJ now) q.1 i) false, .int .i64 q.2.1, .int .i64 q.2.2], .var t0V]), fun i => q.1.length - i⟩, 0, [], [.old 0, .old 1], ⟨Nat.zero_le _, by simp⟩, ?_, fun i hi => ?_⟩
          · repeat' (first | exact trivial | exact rfl | exact .inl rfl | (exact .inr rfl) | refine And.intro ?_ ?_)
          · obtain ⟨hi1, hi2⟩ : i ≤ q.1.length ∧ leaseLu q.2.2 now (laterW now span) q.1 = ((q.1.take i).map (deadJ now) ++ (leaseLu q.2.2 now (laterW now span) (q.1.drop i)).1, (leaseLu q.2.2 now (laterW now span) (q.1.drop i)).2) := hi
            have hm : (mapAt (deadJ now) q.1 i).length = q.1.length := mapAt_len
            conv => whnf
            first | refine aIf_dec (fun h5 => ?_) (fun h5 => ?_) | refine aIf_beq (fun h5 => ?_) (fun h5 => ?_) | refine aIf_bne (fun h5 => ?_) (fun h5 => ?_) | refine aIf_not (fun h5 => ?_) (fun h5 => ?_) | refine aIf_mk (fun h5 => ?_) (fun h5 => ?_)
            · have hlt : i < q.1.length := by
                have : (i : Int) < (q.1.length : Int) := h5
                omega
              have hlt2 : i < (mapAt (deadJ now) q.1 i).length := by omega
              have hi0 : (0 : Int) ≤ (i : Int) := by omega
              conv => whnf
              refine And.intro hi0 (And.intro h5 ?_)
              rw [show ((i : Int)).toNat = i from rfl]
              obtain ⟨j, hj⟩ : ∃ j : Job, elt tJob q.1 i = j := ⟨_, rfl⟩
              obtain ⟨k1, _, _, _, _, _, _, _, _, k10, k11⟩ := mayJ_iff (by rw [← hj]; exact goodQ_may hg hlt : mayJ j = true)
              rw [leaseLu_drop hlt, hj] at hi2
              rw [hj]
              have et : q.1.take (i + 1) = q.1.take i ++ [j] := by rw [← hj, eltJ hlt, List.take_succ_eq_append_getElem hlt]
              have hstep : ¬ (rdy now j = true ∧ j.2.2.2.2.1 ≠ (10 : Int)) → leaseLu q.2.2 now (laterW now span) q.1 = ((q.1.take (i + 1)).map (deadJ now) ++ (leaseLu q.2.2 now (laterW now span) (q.1.drop (i + 1))).1, (leaseLu q.2.2 now (laterW now span) (q.1.drop (i + 1))).2) := by
                intro hn
                rw [hi2, if_neg hn, et]
                simp
              conv => whnf
              refine ACall.use0 (c15 j) rfl ?_
              conv => whnf
              first | refine aIf_dec (fun h6 => ?_) (fun h6 => ?_) | refine aIf_beq (fun h6 => ?_) (fun h6 => ?_) | refine aIf_bne (fun h6 => ?_) (fun h6 => ?_) | refine aIf_not (fun h6 => ?_) (fun h6 => ?_) | refine aIf_mk (fun h6 => ?_) (fun h6 => ?_)
              · have hr : rdy now j = false := by simp [rdy, h6]
                conv => whnf
                have hd : deadJ now j = j := by simp [deadJ, hr]
                refine ⟨i + 1, [], [.old 0, .old 1], ⟨(show i + 1 ≤ q.1.length by omega), hstep (by rw [hr]; simp)⟩, (show q.1.length - (i + 1) < q.1.length - i by omega), ?_⟩
                repeat' (first | exact trivial | exact rfl | exact .inl rfl | (exact .inr rfl) | refine And.intro ?_ ?_)
                · exact (mapAt_same (f := deadJ now) hlt (by rw [hj]; exact hd)).symm
                · exact i64_at rfl (by omega)
              · conv => whnf
                first | refine aIf_dec (fun h7 => ?_) (fun h7 => ?_) | refine aIf_beq (fun h7 => ?_) (fun h7 => ?_) | refine aIf_bne (fun h7 => ?_) (fun h7 => ?_) | refine aIf_not (fun h7 => ?_) (fun h7 => ?_) | refine aIf_mk (fun h7 => ?_) (fun h7 => ?_)
                · have hr : rdy now j = false := by
                    have h7' : j.2.2.2.2.2.2.1 > now := h7
                    simp [rdy]
                    omega
                  conv => whnf
                  have hd : deadJ now j = j := by simp [deadJ, hr]
                  refine ⟨i + 1, [], [.old 0, .old 1], ⟨(show i + 1 ≤ q.1.length by omega), hstep (by rw [hr]; simp)⟩, (show q.1.length - (i + 1) < q.1.length - i by omega), ?_⟩
                  repeat' (first | exact trivial | exact rfl | exact .inl rfl | (exact .inr rfl) | refine And.intro ?_ ?_)
                  · exact (mapAt_same (f := deadJ now) hlt (by rw [hj]; exact hd)).symm
                  · exact i64_at rfl (by omega)
                · have hr : rdy now j = true := by
                    have h7' : ¬ j.2.2.2.2.2.2.1 > now := h7
                    have h6' : opn j = true := h6
                    simp [rdy, h6']
                    omega
                  conv => whnf
                  first | refine aIf_dec (fun h8 => ?_) (fun h8 => ?_) | refine aIf_beq (fun h8 => ?_) (fun h8 => ?_) | refine aIf_bne (fun h8 => ?_) (fun h8 => ?_) | refine aIf_not (fun h8 => ?_) (fun h8 => ?_) | refine aIf_mk (fun h8 => ?_) (fun h8 => ?_)
                  · have h8' : j.2.2.2.2.1 = 10 := h8
                    have hd : deadJ now j = stG 5 j := by simp [deadJ, hr, h8']
                    conv => whnf
                    refine ACall.use0 (c29 (mapAt (deadJ now) q.1 i, q.2.1, q.2.2) i (stG 5 j) hlt2 (show (mapAt (deadJ now) q.1 i).length ≤ 1099511627776 by omega)) rfl ?_
                    conv => whnf
                    refine ⟨i + 1, [], [.old 0, .old 1], ⟨(show i + 1 ≤ q.1.length by omega), hstep (fun hh => hh.2 h8')⟩, (show q.1.length - (i + 1) < q.1.length - i by omega), ?_⟩
                    repeat' (first | exact trivial | exact rfl | exact .inl rfl | (exact .inr rfl) | refine And.intro ?_ ?_)
                    · refine Eq.trans ?_ (mapAt_set (f := deadJ now) hlt)
                      rw [hj, hd]
                    · exact i64_at rfl (by omega)
                  · have h8' : ¬ j.2.2.2.2.1 = 10 := h8
                    have w1 : IntKind.i64.wrap (q.2.2 + 1) = q.2.2 + 1 := i64_at rfl (by omega)
                    have w2 : IntKind.i64.wrap (j.2.2.2.2.1 + 1) = j.2.2.2.2.1 + 1 := i64_at rfl (by omega)
                    rw [if_pos ⟨hr, h8'⟩] at hi2
                    conv => whnf
                    rw [w1]
                    conv => whnf
                    rw [w2]
                    conv => whnf
                    refine ACall.use0 (c32g now span) rfl ?_
                    conv => whnf
                    refine ⟨_, _, _, ICall.use0 (c29 (mapAt (deadJ now) q.1 i, q.2.1, q.2.2 + 1) i (leaseJu q.2.2 (laterW now span) j) hlt2 (show (mapAt (deadJ now) q.1 i).length ≤ 1099511627776 by omega)) rfl, ?_⟩
                    have hL : (mapAt (deadJ now) q.1 i).set i (leaseJu q.2.2 (laterW now span) j) = (q.1.take i).map (deadJ now) ++ leaseJu q.2.2 (laterW now span) j :: q.1.drop (i + 1) := mapAt_put hlt
                    have e2 : leaseLu q.2.2 now (laterW now span) q.1 = ((mapAt (deadJ now) q.1 i).set i (leaseJu q.2.2 (laterW now span) j), some (leaseJu q.2.2 (laterW now span) j)) := by rw [hi2, hL]
                    rw [hN, e2]
                    conv => whnf
                    refine ⟨[], _, _, ?_, rfl, rfl⟩
                    repeat' (first | exact trivial | exact rfl | exact .inl rfl | (exact .inr rfl) | refine And.intro ?_ ?_)
            · have hle : q.1.length ≤ i := by
                have h5' : ¬ (i : Int) < (q.1.length : Int) := h5
                omega
              have e2 : leaseLu q.2.2 now (laterW now span) q.1 = (q.1.map (deadJ now), none) := by
                rw [hi2, List.drop_eq_nil_of_le hle, List.take_of_length_le hle]
                simp [leaseLu]
              rw [hN, e2, mapAt_end hle]
              conv => whnf
              refine ⟨[], _, _, ?_, rfl, rfl⟩
              repeat' (first | exact trivial | exact rfl | exact .inl rfl | (exact .inr rfl) | refine And.intro ?_ ?_)
end Go.Proofs.Try
