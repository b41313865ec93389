import Derived.Test.YtjiojhfbpblioaaQueueW
namespace Go.Proofs.Try
open Go.AM

abbrev s7 (K B : Str) (A : Queue × Int × Int) (L : Queue × Job × Int) (S G : Queue × Int) (now span id : Int) (r : Slots) : Slots :=
  (1, .str K) :: (2, .str B) :: (3, .int .i64 now) :: (4, .int .i64 span) :: (5, .int .i64 id) :: (6, .ptr 0 0) :: (13, .ptr 1 0) :: (14, .int .i64 A.2.1) :: (15, .int .i64 A.2.2) :: (16, .ptr 2 0) :: (17, .ptr 3 0) :: (18, .int .i64 L.2.2) :: (19, .ptr 4 0) :: (20, .int .i64 S.2) :: (21, .ptr 5 0) :: (22, .int .i64 G.2) :: (23, .ptr 6 0) :: (24, .int .i64 1) :: (25, .ptr 7 0) :: r
abbrev h7 (Q : Queue) (A : Queue × Int × Int) (L : Queue × Job × Int) (S G : Queue × Int) (r : Heap) : Heap := qc Q :: qc A.1 :: qc L.1 :: jc L.2.1 :: qc S.1 :: qc G.1 :: .var [.sl tJob [] true, .int .i64 0, .int .i64 0] :: r
theorem add_len {q : Queue} {key body : Str} : (addN q key body).1.1.length ≤ q.1.length + 1 := by
  unfold addN
  have : (roomL q.1).length ≤ q.1.length := by
    unfold roomL
    split
    · simp; omega
    · exact Nat.le_refl _
  repeat' split
  all_goals simp
  omega
theorem add_last {q : Queue} {key body : Str} : (addN q key body).2.1 = (addN q key body).1.2.1 := by
  unfold addN
  repeat' split
  all_goals rfl
theorem leaseL_len {tok now span : Int} : ∀ (l : List Job), (leaseL tok now span l).1.length = l.length
  | [] => rfl
  | j :: r => by
    rw [leaseL]
    split
    · simp
    · simp [leaseL_len r]
theorem lease_len {q : Queue} {now span : Int} : (leaseN q now span).1.1.length ≤ q.1.length := by
  unfold leaseN
  repeat' split
  all_goals simp [leaseL_len]
theorem change_at {q : Queue} {id : Int} {F : Job → Int} {G : Job → Job} {i : Nat} (hg : goodQ q = true) (hi : idxOf (isId id) q.1 = i) : changeN q id true F G =
    if F (elt tJob q.1 i) ≠ 0 then (([], 0, 0), F (elt tJob q.1 i)) else ((q.1.set i (G (elt tJob q.1 i)), q.2.1, q.2.2), 0) := by
  rw [changeN, if_neg (by rw [hg]; simp), hi, if_neg (by omega)]
  rfl
theorem change_no {q : Queue} {id : Int} {F : Job → Int} {G : Job → Job} (hg : goodQ q = true) (hi : idxOf (isId id) q.1 < 0) : changeN q id true F G = (([], 0, 0), 9) := by
  rw [changeN, if_neg (by rw [hg]; simp), if_pos hi]
abbrev u7 (id : Int) (L : Queue × Job × Int) (S G : Queue × Int) : Slots :=
  [(5, .int .i64 id), (6, .ptr 0 0), (16, .ptr 1 0), (17, .ptr 2 0), (18, .int .i64 L.2.2), (19, .ptr 3 0), (20, .int .i64 S.2), (21, .ptr 4 0), (22, .int .i64 G.2), (23, .ptr 5 0), (30, .ptr 6 0)]
abbrev v7 (Q : Queue) (L : Queue × Job × Int) (S G : Queue × Int) : Heap := [qc Q, qc L.1, jc L.2.1, qc S.1, qc G.1, .var [.sl tJob [] true, .int .i64 0, .int .i64 0],
  .var [.sl tJob L.1.1 false, .int .i64 L.1.2.1, .int .i64 L.1.2.2, .int .i64 L.2.1.1, .str L.2.1.2.1, .str L.2.1.2.2.1, .int .i64 L.2.1.2.2.2.1, .int .i64 L.2.1.2.2.2.2.1, .int .i64 L.2.1.2.2.2.2.2.1, .int .i64 L.2.1.2.2.2.2.2.2.1, .int .i64 L.2.1.2.2.2.2.2.2.2, .int .i64 L.2.2]]
set_option maxRecDepth 100000 in
set_option maxHeartbeats 8000000 in
theorem c7 (n : Queue) (key body : Str) (now span id : Int) : ACall E 7 [queueV n, .str key, .str body, .int .i64 now, .int .i64 span, .int .i64 id] [] (fun r h' => r = .ret (.bool true) ∧ h' = []) := by
  refine ACall.bodyJ envOK func7 rfl rfl rfl ?_
  conv => whnf
  refine ACall.use0 (c10 n) rfl ?_
  have hQ1 : (fewQ n).1.length ≤ 66 := fewQ_ok n
  generalize fewQ n = Q at hQ1 ⊢
  conv => whnf
  repeat' (refine And.intro ?_ ?_; (first | omega | exact rfl | exact And.intro (by omega) (by omega) | exact Or.inr Nat.zero_lt_one))
  conv => whnf
  generalize List.drop (Int.toNat 0) (List.take (min (key.length : Int) 205).toNat key) = K
  conv => whnf
  repeat' (refine And.intro ?_ ?_; (first | omega | exact rfl | exact And.intro (by omega) (by omega) | exact Or.inr Nat.zero_lt_one))
  conv => whnf
  generalize List.drop (Int.toNat 0) (List.take (min (body.length : Int) 205).toNat body) = B
  conv => whnf
  refine ACall.use0 (c19 Q K B (by omega)) rfl ?_
  conv => whnf
  refine ACall.use0 (c11 Q now span (by omega)) rfl ?_
  conv => whnf
  refine ACall.use0 (c21 Q id (by omega)) rfl ?_
  conv => whnf
  refine ACall.use0 (c24 Q id (by omega)) rfl ?_
  conv => whnf
  obtain ⟨A, hA⟩ : ∃ A, addN Q K B = A := ⟨_, rfl⟩
  obtain ⟨L, hL⟩ : ∃ L, leaseN Q now span = L := ⟨_, rfl⟩
  obtain ⟨S, hS⟩ : ∃ S, stopN Q id = S := ⟨_, rfl⟩
  obtain ⟨G, hG⟩ : ∃ G, againN Q id = G := ⟨_, rfl⟩
  rw [hA, hL, hS, hG]
  refine ⟨Nat, ⟨fun i => i ≤ Q.1.length, fun i => (s7 K B A L S G now span id [(76, .sl tJob Q.1 false), (77, .int .i64 (Q.1.length : Int)), (78, .int .i64 (i : Int))],
    h7 Q A L S G [.var (cntV (Q.1.take i))]), fun i => Q.1.length - i⟩, 0, [], [.old 0, .old 1, .old 2, .old 3, .old 4, .old 5, .old 6, .old 7], Nat.zero_le _, ?_, fun i hi => ?_⟩
  · repeat' (first | exact trivial | exact rfl | exact .inl rfl | (exact .inr rfl) | refine And.intro ?_ ?_)
  · have i1 : i ≤ Q.1.length := hi
    conv => whnf
    first | refine aIf_dec (fun h4 => ?_) (fun h4 => ?_) | refine aIf_beq (fun h4 => ?_) (fun h4 => ?_) | refine aIf_bne (fun h4 => ?_) (fun h4 => ?_) | refine aIf_not (fun h4 => ?_) (fun h4 => ?_) | refine aIf_mk (fun h4 => ?_) (fun h4 => ?_)
    · have hlt : i < Q.1.length := by omega
      conv => whnf
      refine And.intro (by omega) (And.intro (by omega) ?_)
      rw [show ((i : Int)).toNat = i from rfl]
      have b0 := cn_le 0 (Q.1.take i)
      have b1 := cn_le 1 (Q.1.take i)
      have b2 := cn_le 2 (Q.1.take i)
      have b3 := cn_le 3 (Q.1.take i)
      have b4 := cn_le 4 (Q.1.take i)
      have b5 := cn_le 5 (Q.1.take i)
      rw [List.length_take] at b0 b1 b2 b3 b4 b5
      have t0 := cn_take 0 hlt
      have t1 := cn_take 1 hlt
      have t2 := cn_take 2 hlt
      have t3 := cn_take 3 hlt
      have t4 := cn_take 4 hlt
      have t5 := cn_take 5 hlt
      obtain ⟨j, hj⟩ : ∃ j : Job, elt tJob Q.1 i = j := ⟨_, rfl⟩
      rw [hj] at t0 t1 t2 t3 t4 t5 ⊢
      obtain ⟨ja, jb, jc, st, jr⟩ := j
      conv => whnf
      repeat (refine jn_go ?_; conv => whnf)
      first | refine aIf_dec (fun h5 => ?_) (fun h5 => ?_) | refine aIf_beq (fun h5 => ?_) (fun h5 => ?_) | refine aIf_bne (fun h5 => ?_) (fun h5 => ?_) | refine aIf_not (fun h5 => ?_) (fun h5 => ?_) | refine aIf_mk (fun h5 => ?_) (fun h5 => ?_)
      · conv => whnf
        repeat (refine jn_go ?_; conv => whnf)
        first | refine aIf_dec (fun h6 => ?_) (fun h6 => ?_) | refine aIf_beq (fun h6 => ?_) (fun h6 => ?_) | refine aIf_bne (fun h6 => ?_) (fun h6 => ?_) | refine aIf_not (fun h6 => ?_) (fun h6 => ?_) | refine aIf_mk (fun h6 => ?_) (fun h6 => ?_)
        · have hst : st = 1 ∨ st = 2 ∨ st = 3 ∨ st = 4 ∨ st = 5 := by
            have h5' : 0 < st := by omega
            have h6' : st < 6 := by omega
            omega
          rcases hst with rfl | rfl | rfl | rfl | rfl
          all_goals (conv => whnf)
          all_goals (repeat (refine jn_go ?_; conv => whnf))
          all_goals (refine And.intro (by first | decide | (dsimp only; decide)) (And.intro (by first | decide | (dsimp only; decide)) ?_); (conv => whnf); refine And.intro (by first | decide | (dsimp only; decide)) (And.intro (by first | decide | (dsimp only; decide)) ?_); (conv => whnf))
          all_goals (repeat (refine jn_go ?_; conv => whnf))
          all_goals (refine ⟨i + 1, [], [.old 0, .old 1, .old 2, .old 3, .old 4, .old 5, .old 6, .old 7], (show i + 1 ≤ Q.1.length by omega), (show Q.1.length - (i + 1) < Q.1.length - i by omega), ?_⟩)
          all_goals (repeat' (first | exact trivial | exact rfl | exact .inl rfl | (exact .inr rfl) | refine And.intro ?_ ?_))
          all_goals (simp [bk] at t0 t1 t2 t3 t4 t5)
          all_goals (first | omega | exact i64_at (by omega) (by omega))
        · have hb : bk (ja, jb, jc, st, jr) = 0 := by
            have h6' : ¬ st < 6 := h6
            simp [bk, h6']
          conv => whnf
          repeat (refine jn_go ?_; conv => whnf)
          refine And.intro (by first | decide | (dsimp only; decide)) (And.intro (by first | decide | (dsimp only; decide)) ?_)
          conv => whnf
          refine And.intro (by first | decide | (dsimp only; decide)) (And.intro (by first | decide | (dsimp only; decide)) ?_)
          conv => whnf
          repeat (refine jn_go ?_; conv => whnf)
          refine ⟨i + 1, [], [.old 0, .old 1, .old 2, .old 3, .old 4, .old 5, .old 6, .old 7], (show i + 1 ≤ Q.1.length by omega), (show Q.1.length - (i + 1) < Q.1.length - i by omega), ?_⟩
          repeat' (first | exact trivial | exact rfl | exact .inl rfl | (exact .inr rfl) | refine And.intro ?_ ?_)
          all_goals (rw [hb] at t0 t1 t2 t3 t4 t5; simp at t0 t1 t2 t3 t4 t5)
          all_goals (first | omega | exact i64_at (by omega) (by omega))
      · have hb : bk (ja, jb, jc, st, jr) = 0 := by
          have h5' : ¬ 0 < st := h5
          simp [bk, h5']
        conv => whnf
        repeat (refine jn_go ?_; conv => whnf)
        refine And.intro (by first | decide | (dsimp only; decide)) (And.intro (by first | decide | (dsimp only; decide)) ?_)
        conv => whnf
        refine And.intro (by first | decide | (dsimp only; decide)) (And.intro (by first | decide | (dsimp only; decide)) ?_)
        conv => whnf
        repeat (refine jn_go ?_; conv => whnf)
        refine ⟨i + 1, [], [.old 0, .old 1, .old 2, .old 3, .old 4, .old 5, .old 6, .old 7], (show i + 1 ≤ Q.1.length by omega), (show Q.1.length - (i + 1) < Q.1.length - i by omega), ?_⟩
        repeat' (first | exact trivial | exact rfl | exact .inl rfl | (exact .inr rfl) | refine And.intro ?_ ?_)
        all_goals (rw [hb] at t0 t1 t2 t3 t4 t5; simp at t0 t1 t2 t3 t4 t5)
        all_goals (first | omega | exact i64_at (by omega) (by omega))
    · have et : Q.1.take i = Q.1 := List.take_of_length_le (by omega)
      conv => whnf
      refine ⟨_, _, _, ICall.use0 (c13 Q (by omega)) rfl, ?_⟩
      conv => whnf
      refine ⟨_, _, _, ICall.use0 (c14 Q (by omega)) rfl, ?_⟩
      conv => whnf
      refine aIf_mk (fun h => absurd h (by simp)) (fun _ => ?_)
      conv => whnf
      refine ⟨_, _, _, ICall.use0 (c22 Q (by omega)) rfl, ?_⟩
      rw [et]
      conv => whnf
      refine aIf_mk (fun h => absurd h (by simp)) (fun _ => ?_)
      conv => whnf
      refine ⟨_, _, _, ICall.use0 (c12) rfl, ?_⟩
      conv => whnf
      refine aIf_not (fun h => absurd h (by simp)) (fun _ => ?_)
      conv => whnf
      repeat (refine jn_go ?_; conv => whnf)
      refine ACall.use0 (c14 Q (by omega)) rfl ?_
      conv => whnf
      first | refine aIf_dec (fun hg => ?_) (fun hg => ?_) | refine aIf_beq (fun hg => ?_) (fun hg => ?_) | refine aIf_bne (fun hg => ?_) (fun hg => ?_) | refine aIf_not (fun hg => ?_) (fun hg => ?_) | refine aIf_mk (fun hg => ?_) (fun hg => ?_)
      · have hg' : goodQ Q = false := hg
        obtain rfl : A = (([], 0, 0), 0, 1) := by rw [← hA]; simp [addN, hg']
        obtain rfl : L = (([], 0, 0), job0, 1) := by rw [← hL]; simp [leaseN, hg']
        obtain rfl : S = (([], 0, 0), 1) := by rw [← hS]; simp [stopN, changeN, hg']
        obtain rfl : G = (([], 0, 0), 1) := by rw [← hG]; simp [againN, changeN, hg']
        repeat' ((conv => whnf); first | refine aIf_beq (fun _ => ?_) (fun h => absurd rfl h) | refine aIf_mk (fun _ => ?_) (fun h => absurd h (by first | decide | simp | exact (by rw [likeQ_refl]; simp))) | refine ACall.use [] (c25 ([], 0, 0) ([], 0, 0) (by simp)) rfl trivial (by repeat' (first | exact trivial | exact rfl | exact .inl rfl | (exact .inr rfl) | refine And.intro ?_ ?_)) ?_ | refine jn_go ?_)
        conv => whnf
        refine ⟨[], _, _, ?_, rfl, rfl⟩
        repeat' (first | exact trivial | exact rfl | exact .inl rfl | (exact .inr rfl) | refine And.intro ?_ ?_)
        all_goals (try conv => whnf)
        all_goals (rw [likeQ_refl])
        trace_state
      · have hg' : goodQ Q = true := hg
        have lA : A.1.1.length ≤ 9223372036854775807 := by rw [← hA]; have := add_len (q := Q) (key := K) (body := B); omega
        have lL : L.1.1.length ≤ 9223372036854775807 := by rw [← hL]; have := lease_len (q := Q) (now := now) (span := span); omega
        have lS : S.1.1.length ≤ 9223372036854775807 := by rw [← hS]; have : (stopN Q id).1.1.length ≤ Q.1.length := change_len; omega
        have lG : G.1.1.length ≤ 9223372036854775807 := by rw [← hG]; have : (againN Q id).1.1.length ≤ Q.1.length := change_len; omega
        have eA : A.2.1 = A.1.2.1 := by rw [← hA]; exact add_last
        conv => whnf
        refine ACall.use0 (c26 Q K B hg') rfl ?_
        rw [hA]
        conv => whnf
        refine aIf_bne (fun h => absurd rfl h) (fun _ => ?_)
        conv => whnf
        refine ACall.use0 (c25 A.1 A.1 lA) rfl ?_
        rw [likeQ_refl]
        conv => whnf
        refine aIf_mk (fun h => absurd h (by simp)) (fun _ => ?_)
        conv => whnf
        refine aIf_bne (fun h => absurd eA h) (fun _ => ?_)
        conv => whnf
        repeat (refine jn_go ?_; conv => whnf)
        refine ACall.use0 (c27 Q now span hg') rfl ?_
        conv => whnf
        refine ACall.use [] (c28 [now, span] true (by simp)) rfl trivial (by repeat' (first | exact trivial | exact rfl | exact .inl rfl | (exact .inr rfl) | refine And.intro ?_ ?_)) ?_
        conv => whnf
        apply share
        · intro tail
          first | refine aIf_dec (fun h1 => ?_) (fun h1 => ?_) | refine aIf_beq (fun h1 => ?_) (fun h1 => ?_) | refine aIf_bne (fun h1 => ?_) (fun h1 => ?_) | refine aIf_not (fun h1 => ?_) (fun h1 => ?_) | refine aIf_mk (fun h1 => ?_) (fun h1 => ?_)
          · have h1' : [now, span].any out = true := by generalize [now, span].any out = b at h1; cases b <;> simp_all
            have eL : L = (([], 0, 0), job0, 1) := by rw [← hL]; simp [leaseN, h1']
            conv => whnf
            refine jn_at [] [.old 0, .old 2, .old 3, .old 4, .old 5, .old 6, .old 9] (u7 id L S G) (v7 Q L S G) ?_ tail.out
            rw [eL]
            repeat' (first | exact trivial | exact rfl | exact .inl rfl | (exact .inr rfl) | refine And.intro ?_ ?_)
          · have h1' : [now, span].any out = false := by generalize [now, span].any out = b at h1; cases b <;> simp_all
            have h1o := h1'
            simp only [List.any_cons, List.any_nil, Bool.or_false, Bool.or_eq_false_iff] at h1o
            rw [leaseU_eq hg' (inT_of h1o.1) (inT_of h1o.2), hL]
            conv => whnf
            refine jn_at [] [.old 0, .old 2, .old 3, .old 4, .old 5, .old 6, .old 9] (u7 id L S G) (v7 Q L S G) ?_ tail.out
            repeat' (first | exact trivial | exact rfl | exact .inl rfl | (exact .inr rfl) | refine And.intro ?_ ?_)
        · conv => whnf
          refine aIf_bne (fun h => absurd rfl h) (fun _ => ?_)
          conv => whnf
          refine ACall.use0 (c25 L.1 L.1 lL) rfl ?_
          rw [likeQ_refl]
          conv => whnf
          refine aIf_mk (fun h => absurd h (by simp)) (fun _ => ?_)
          conv => whnf
          refine aIf_mk (fun h => absurd h (by simp)) (fun _ => ?_)
          conv => whnf
          repeat (refine jn_go ?_; conv => whnf)
          refine ACall.use0 (c18 Q id (by omega)) rfl ?_
          conv => whnf
          first | refine aIf_dec (fun h5 => ?_) (fun h5 => ?_) | refine aIf_beq (fun h5 => ?_) (fun h5 => ?_) | refine aIf_bne (fun h5 => ?_) (fun h5 => ?_) | refine aIf_not (fun h5 => ?_) (fun h5 => ?_) | refine aIf_mk (fun h5 => ?_) (fun h5 => ?_)
          · have eS : S = (([], 0, 0), 9) := by rw [← hS]; exact change_no hg' h5
            have eG : G = (([], 0, 0), 9) := by rw [← hG]; exact change_no hg' h5
            rw [eS, eG]
            repeat' ((conv => whnf); first | refine aIf_beq (fun _ => ?_) (fun h => absurd rfl h) | refine aIf_mk (fun _ => ?_) (fun h => absurd h (by first | decide | simp | exact (by rw [likeQ_refl]; simp))) | refine ACall.use [] (c25 ([], 0, 0) ([], 0, 0) (by simp)) rfl trivial (by repeat' (first | exact trivial | exact rfl | exact .inl rfl | (exact .inr rfl) | refine And.intro ?_ ?_)) ?_ | refine jn_go ?_)
            conv => whnf
            refine ⟨[], _, _, ?_, rfl, rfl⟩
            repeat' (first | exact trivial | exact rfl | exact .inl rfl | (exact .inr rfl) | refine And.intro ?_ ?_)
            all_goals (try conv => whnf)
            all_goals (rw [likeQ_refl])
          · have h5' : ¬ idxOf (isId id) Q.1 < 0 := h5
            obtain ⟨i, hi, hlt, hx, _⟩ := idxOf_lt (show 0 ≤ idxOf (isId id) Q.1 by omega)
            have eS := change_at (F := stopF) (G := stopG) hg' hi
            have eG := change_at (F := againF Q) (G := againG Q) hg' hi
            rw [show changeN Q id true stopF stopG = S from hS] at eS
            rw [show changeN Q id true (againF Q) (againG Q) = G from hG] at eG
            rw [hi]
            conv => whnf
            repeat (refine jn_go ?_; conv => whnf)
            refine And.intro (by omega) (And.intro (by omega) ?_)
            rw [show ((i : Int)).toNat = i from rfl]
            obtain ⟨x, hxe⟩ : ∃ x : Job, elt tJob Q.1 i = x := ⟨_, rfl⟩
            have hm : mayJ x = true := by rw [← hxe]; exact goodQ_may hg' hlt
            rw [hxe] at eS eG ⊢
            conv => whnf
            refine ACall.use0 (c15 x) rfl ?_
            conv => whnf
            refine aIf_mk (fun h6 => ?_) (fun h6 => ?_)
            · have h6' : opn x = true := h6
              have hst : x.2.2.2.1 = 1 ∨ x.2.2.2.1 = 2 := by simpa [opn] using h6'
              obtain rfl : S = ((Q.1.set i (stG 4 x), Q.2.1, Q.2.2), 0) := by rw [eS, stopF, if_pos h6', if_neg (by simp), stopG, if_pos h6']
              obtain rfl : G = (([], 0, 0), 15) := by rw [eG, againF, if_pos (show x.2.2.2.1 ≠ 4 ∧ x.2.2.2.1 ≠ 5 by omega), if_pos (by decide)]
              conv => whnf
              refine aIf_beq (fun _ => ?_) (fun h => absurd rfl h)
              conv => whnf
              refine ⟨_, _, _, ICall.use0 (c29 Q i (stG 4 x) hlt (by omega)) rfl, ?_⟩
              conv => whnf
              refine ⟨_, _, _, ICall.use0 (c25 (Q.1.set i (stG 4 x), Q.2.1, Q.2.2) (Q.1.set i (stG 4 x), Q.2.1, Q.2.2) (by simp; omega)) rfl, ?_⟩
              rw [likeQ_refl]
              repeat' ((conv => whnf); first | refine aIf_beq (fun _ => ?_) (fun h => absurd rfl h) | refine aIf_mk (fun _ => ?_) (fun h => absurd h (by simp)) | refine ⟨_, _, _, ICall.use [] (c25 ([], 0, 0) ([], 0, 0) (by simp)) rfl trivial (by repeat' (first | exact trivial | exact rfl | exact .inl rfl | (exact .inr rfl) | refine And.intro ?_ ?_)) rfl (fun _ => rfl), ?_⟩ | refine jn_go ?_)
              conv => whnf
              refine ⟨[], _, _, ?_, rfl, rfl⟩
              repeat' (first | exact trivial | exact rfl | exact .inl rfl | (exact .inr rfl) | refine And.intro ?_ ?_)
              all_goals (try conv => whnf)
              all_goals (rw [likeQ_refl])
            · have h6' : opn x = false := h6
              have hst : x.2.2.2.1 = 3 ∨ x.2.2.2.1 = 4 ∨ x.2.2.2.1 = 5 := by
                obtain ⟨_, _, _, _, _, _, _, m1, m2, _, _⟩ := mayJ_iff hm
                simp only [opn, Bool.or_eq_false_iff, beq_eq_false_iff_ne, ne_eq] at h6'
                omega
              obtain rfl : S = (([], 0, 0), 15) := by rw [eS, show stopF x = 15 by rw [stopF, if_neg (by rw [h6']; simp)], if_pos (by decide)]
              conv => whnf
              refine aIf_bne (fun h => absurd rfl h) (fun _ => ?_)
              conv => whnf
              refine ACall.use [] (c25 ([], 0, 0) ([], 0, 0) (by simp)) rfl trivial (by repeat' (first | exact trivial | exact rfl | exact .inl rfl | (exact .inr rfl) | refine And.intro ?_ ?_)) ?_
              conv => whnf
              refine aIf_mk (fun h => absurd h (by rw [likeQ_refl]; simp)) (fun _ => ?_)
              conv => whnf
              repeat (refine jn_go ?_; conv => whnf)
              first | refine aIf_dec (fun h7 => ?_) (fun h7 => ?_) | refine aIf_beq (fun h7 => ?_) (fun h7 => ?_) | refine aIf_bne (fun h7 => ?_) (fun h7 => ?_) | refine aIf_not (fun h7 => ?_) (fun h7 => ?_) | refine aIf_mk (fun h7 => ?_) (fun h7 => ?_)
              · have h7' : x.2.2.2.1 = 3 := h7
                obtain rfl : G = (([], 0, 0), 15) := by rw [eG, againF, if_pos (show x.2.2.2.1 ≠ 4 ∧ x.2.2.2.1 ≠ 5 by omega), if_pos (by decide)]
                repeat' ((conv => whnf); first | refine aIf_beq (fun _ => ?_) (fun h => absurd rfl h) | refine aIf_mk (fun _ => ?_) (fun h => absurd h (by first | decide | simp | exact (by rw [likeQ_refl]; simp))) | refine ACall.use [] (c25 ([], 0, 0) ([], 0, 0) (by simp)) rfl trivial (by repeat' (first | exact trivial | exact rfl | exact .inl rfl | (exact .inr rfl) | refine And.intro ?_ ?_)) ?_ | refine jn_go ?_)
                conv => whnf
                refine ⟨[], _, _, ?_, rfl, rfl⟩
                repeat' (first | exact trivial | exact rfl | exact .inl rfl | (exact .inr rfl) | refine And.intro ?_ ?_)
                all_goals (try conv => whnf)
                all_goals (rw [likeQ_refl])
              · have h7' : ¬ x.2.2.2.1 = 3 := h7
                have h8 : ¬ (x.2.2.2.1 ≠ 4 ∧ x.2.2.2.1 ≠ 5) := by omega
                conv => whnf
                repeat (refine jn_go ?_; conv => whnf)
                refine ACall.use0 (c30 Q x.2.1 x.1 (by omega)) rfl ?_
                conv => whnf
                refine aIf_mk (fun h9 => ?_) (fun h9 => ?_)
                · have h9' : Q.1.any (hold x.2.1 x.1) = true := h9
                  obtain rfl : G = (([], 0, 0), 17) := by rw [eG, againF, if_neg h8, if_pos h9', if_pos (by decide)]
                  repeat' ((conv => whnf); first | refine aIf_beq (fun _ => ?_) (fun h => absurd rfl h) | refine aIf_mk (fun _ => ?_) (fun h => absurd h (by first | decide | simp | exact (by rw [likeQ_refl]; simp))) | refine ACall.use [] (c25 ([], 0, 0) ([], 0, 0) (by simp)) rfl trivial (by repeat' (first | exact trivial | exact rfl | exact .inl rfl | (exact .inr rfl) | refine And.intro ?_ ?_)) ?_ | refine jn_go ?_)
                  conv => whnf
                  refine ⟨[], _, _, ?_, rfl, rfl⟩
                  repeat' (first | exact trivial | exact rfl | exact .inl rfl | (exact .inr rfl) | refine And.intro ?_ ?_)
                  all_goals (try conv => whnf)
                  all_goals (rw [likeQ_refl])
                · have h9' : Q.1.any (hold x.2.1 x.1) = false := h9
                  have hF : againF Q x = 0 := by rw [againF, if_neg h8, if_neg (by rw [h9']; simp)]
                  obtain rfl : G = ((Q.1.set i (x.1, x.2.1, x.2.2.1, 1, 0, 0, 0, 0), Q.2.1, Q.2.2), 0) := by rw [eG, hF, if_neg (by simp), againG, if_pos hF]
                  conv => whnf
                  repeat (refine jn_go ?_; conv => whnf)
                  refine aIf_beq (fun _ => ?_) (fun h => absurd rfl h)
                  conv => whnf
                  refine ⟨_, _, _, ICall.use0 (c29 Q i (x.1, x.2.1, x.2.2.1, 1, 0, 0, 0, 0) hlt (by omega)) rfl, ?_⟩
                  conv => whnf
                  refine ⟨_, _, _, ICall.use0 (c25 (Q.1.set i (x.1, x.2.1, x.2.2.1, 1, 0, 0, 0, 0), Q.2.1, Q.2.2) (Q.1.set i (x.1, x.2.1, x.2.2.1, 1, 0, 0, 0, 0), Q.2.1, Q.2.2) (by simp; omega)) rfl, ?_⟩
                  rw [likeQ_refl]
                  conv => whnf
                  refine ⟨[], _, _, ?_, rfl, rfl⟩
                  repeat' (first | exact trivial | exact rfl | exact .inl rfl | (exact .inr rfl) | refine And.intro ?_ ?_)
end Go.Proofs.Try
