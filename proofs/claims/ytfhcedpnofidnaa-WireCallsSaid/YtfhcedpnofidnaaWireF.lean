import Derived.Test.YtfhcedpnofidnaaWireDel2
namespace Go.Proofs.Try
open Go.AM

set_option maxRecDepth 100000 in
theorem c20 (l : List Msg) (a : Nat) (ha : a < l.length) (hl : l.length ≤ 1099511627776) : ACall E 20 [.sl tMsg l false, .int .i64 a] [] (fun r h' => r = .ret (.sl tMsg (l.take a ++ l.drop (a + 1)) false) ∧ h' = []) := by
  refine ACall.body envOK func20 rfl rfl rfl ?_
  conv => whnf
  refine ACall.det (c24 l hl) ?_
  conv => whnf
  have e1 : IntKind.i64.wrap ((a : Int) + 1) = ((a + 1 : Nat) : Int) := i64_at rfl (by omega)
  rw [e1]
  refine ACall.det (c23 l a (a + 1) false (by omega) (by omega)) ?_
  conv => whnf
  refine ⟨[], _, _, ?_, rfl, rfl⟩
  repeat' (first | exact trivial | exact rfl | exact .inl rfl | (exact .inr rfl) | refine And.intro ?_ ?_)

theorem c20' (l : List Msg) (p : Int) (h1 : 0 ≤ p) (h2 : p < l.length) (hl : l.length ≤ 1099511627776) : ACall E 20 [.sl tMsg l false, .int .i64 p] [] (fun r h' => r = .ret (.sl tMsg (l.take p.toNat ++ l.drop (p.toNat + 1)) false) ∧ h' = []) := by
  obtain ⟨a, rfl⟩ := Int.eq_ofNat_of_zero_le h1
  exact c20 l a (by omega) hl
/-- May a message of a place be taken? -/
def thereC (n : Net) (p : Int) : Int := if goodNet n = true then (if 0 ≤ p ∧ p < n.1.length then 0 else 9) else 1

set_option maxRecDepth 100000 in
theorem c19 (n : Net) (p : Int) (hl : okNet n) : ACall E 19 [netV n, .int .i64 p] [] (fun r h' => r = .ret (.int .i64 (thereC n p)) ∧ h' = []) := by
  refine ACall.body envOK func19 rfl rfl rfl ?_
  conv => whnf
  refine ACall.use0 (c12' n hl) rfl ?_
  conv => whnf
  first | refine aIf_dec (fun hg => ?_) (fun hg => ?_) | refine aIf_beq (fun hg => ?_) (fun hg => ?_) | refine aIf_bne (fun hg => ?_) (fun hg => ?_) | refine aIf_not (fun hg => ?_) (fun hg => ?_) | refine aIf_mk (fun hg => ?_) (fun hg => ?_)
  · all_goals (try conv => whnf)
    all_goals (refine ⟨[], _, _, ?_, rfl, rfl⟩)
    all_goals (repeat' (first | exact trivial | exact rfl | exact .inl rfl | (exact .inr rfl) | refine And.intro ?_ ?_))
    all_goals (conv => whnf)
    all_goals (first | exact trivial | omega | (simp_all [ thereC]; done) | (simp [ thereC, *] <;> omega) | (simp_all [ thereC] <;> omega))
  ·
    repeat' ((conv => whnf); first | refine And.intro (by omega) ?_ | refine aIf_dec (fun h => ?_) (fun h => ?_) | refine aIf_beq (fun h => ?_) (fun h => ?_) | refine aIf_bne (fun h => ?_) (fun h => ?_) | refine aIf_not (fun h => ?_) (fun h => ?_))
    all_goals (try conv => whnf)
    all_goals (refine ⟨[], _, _, ?_, rfl, rfl⟩)
    all_goals (repeat' (first | exact trivial | exact rfl | exact .inl rfl | (exact .inr rfl) | refine And.intro ?_ ?_))
    all_goals (conv => whnf)
    all_goals (first | exact trivial | omega | (simp_all [ thereC]; done) | (simp [ thereC, *] <;> omega) | (simp_all [ thereC] <;> omega))
theorem thereC_0 {n : Net} {p : Int} (h : thereC n p = 0) : goodNet n = true ∧ 0 ≤ p ∧ p < n.1.length := by
  unfold thereC at h
  split at h
  · split at h
    · simp_all
    · omega
  · omega
def takeN (n : Net) (p : Int) : Net := if thereC n p = 0 then (n.1.take p.toNat ++ n.1.drop (p.toNat + 1), n.2) else ([], 0, 0)
def takeM (n : Net) (p : Int) : Msg := if thereC n p = 0 then elt tMsg n.1 p.toNat else (0, 0, [], 0)

set_option maxRecDepth 100000 in
theorem c8 (n : Net) (p : Int) (hl : okNet n) : ACall E 8 [netV n, .int .i64 p] [] (fun r h' => r = .ret (.tup [netV (takeN n p), msgV (takeM n p), .int .i64 (thereC n p)]) ∧ h' = []) := by
  refine ACall.body envOK func8 rfl rfl rfl ?_
  conv => whnf
  refine ACall.use0 (c19 n p hl) rfl ?_
  conv => whnf
  first | refine aIf_dec (fun h0 => ?_) (fun h0 => ?_) | refine aIf_beq (fun h0 => ?_) (fun h0 => ?_) | refine aIf_bne (fun h0 => ?_) (fun h0 => ?_) | refine aIf_not (fun h0 => ?_) (fun h0 => ?_) | refine aIf_mk (fun h0 => ?_) (fun h0 => ?_)
  · all_goals (try conv => whnf)
    all_goals (refine ⟨[], _, _, ?_, rfl, rfl⟩)
    all_goals (repeat' (first | exact trivial | exact rfl | exact .inl rfl | (exact .inr rfl) | refine And.intro ?_ ?_))
    all_goals (conv => whnf)
    all_goals (first | exact trivial | omega | (simp_all [ takeN, takeM]; done) | (simp [ takeN, takeM, *] <;> omega) | (simp_all [ takeN, takeM] <;> omega))
  ·
    obtain ⟨hg, h1, h2⟩ := thereC_0 h0
    obtain ⟨g1, g2, g3, g4, g5, g6⟩ := (goodNet_iff n).1 hg
    conv => whnf
    refine And.intro (by omega) (And.intro (by omega) ?_)
    conv => whnf
    refine ACall.use0 (c20' n.1 p h1 h2 (by omega)) rfl ?_
    conv => whnf
    all_goals (try conv => whnf)
    all_goals (refine ⟨[], _, _, ?_, rfl, rfl⟩)
    all_goals (repeat' (first | exact trivial | exact rfl | exact .inl rfl | (exact .inr rfl) | refine And.intro ?_ ?_))
    all_goals (conv => whnf)
    all_goals (first | exact trivial | omega | (simp_all [ takeN, takeM]; done) | (simp [ takeN, takeM, *] <;> omega) | (simp_all [ takeN, takeM] <;> omega))

set_option maxRecDepth 100000 in
theorem c10 (n : Net) (p : Int) (hl : okNet n) : ACall E 10 [netV n, .int .i64 p] [] (fun r h' => r = .ret (.tup [netV (takeN n p), .int .i64 (thereC n p)]) ∧ h' = []) := by
  refine ACall.body envOK func10 rfl rfl rfl ?_
  conv => whnf
  refine ACall.use0 (c8 n p hl) rfl ?_
  conv => whnf
  all_goals (try conv => whnf)
  all_goals (refine ⟨[], _, _, ?_, rfl, rfl⟩)
  all_goals (repeat' (first | exact trivial | exact rfl | exact .inl rfl | (exact .inr rfl) | refine And.intro ?_ ?_))
  all_goals (conv => whnf)
  all_goals (first | exact trivial | omega | (simp_all [ takeN]; done) | (simp [ takeN, *] <;> omega) | (simp_all [ takeN] <;> omega))

def twiceN (n : Net) (p : Int) : Net × Int := if thereC n p = 0 then (if n.1.length = 32 then (([], 0, 0), 13) else ((n.1 ++ [elt tMsg n.1 p.toNat], n.2), 0)) else (([], 0, 0), thereC n p)

set_option maxRecDepth 100000 in
theorem c9 (n : Net) (p : Int) (hl : okNet n) : ACall E 9 [netV n, .int .i64 p] [] (fun r h' => r = .ret (.tup [netV (twiceN n p).1, .int .i64 (twiceN n p).2]) ∧ h' = []) := by
  refine ACall.body envOK func9 rfl rfl rfl ?_
  conv => whnf
  refine ACall.use0 (c19 n p hl) rfl ?_
  conv => whnf
  first | refine aIf_dec (fun h0 => ?_) (fun h0 => ?_) | refine aIf_beq (fun h0 => ?_) (fun h0 => ?_) | refine aIf_bne (fun h0 => ?_) (fun h0 => ?_) | refine aIf_not (fun h0 => ?_) (fun h0 => ?_) | refine aIf_mk (fun h0 => ?_) (fun h0 => ?_)
  · rw [show twiceN n p = (([], 0, 0), thereC n p) from by (first | (simp [twiceN, *]; done) | (simp [twiceN, *] <;> omega) | (simp_all [twiceN]; done) | (simp_all [twiceN] <;> omega))]
    conv => whnf
    refine ⟨[], _, _, ?_, rfl, rfl⟩
    repeat' (first | exact trivial | exact rfl | exact .inl rfl | (exact .inr rfl) | refine And.intro ?_ ?_)
  · obtain ⟨hg, h1, h2⟩ := thereC_0 h0
    obtain ⟨g1, g2, g3, g4, g5, g6⟩ := (goodNet_iff n).1 hg
    conv => whnf
    first | refine aIf_dec (fun h3 => ?_) (fun h3 => ?_) | refine aIf_beq (fun h3 => ?_) (fun h3 => ?_) | refine aIf_bne (fun h3 => ?_) (fun h3 => ?_) | refine aIf_not (fun h3 => ?_) (fun h3 => ?_) | refine aIf_mk (fun h3 => ?_) (fun h3 => ?_)
    · have h4 : n.1.length = 32 := by omega
      rw [show twiceN n p = (([], 0, 0), 13) from by (first | (simp [twiceN, *]; done) | (simp [twiceN, *] <;> omega) | (simp_all [twiceN]; done) | (simp_all [twiceN] <;> omega))]
      conv => whnf
      refine ⟨[], _, _, ?_, rfl, rfl⟩
      repeat' (first | exact trivial | exact rfl | exact .inl rfl | (exact .inr rfl) | refine And.intro ?_ ?_)
    · have h4 : ¬ n.1.length = 32 := by omega
      conv => whnf
      refine ⟨_, _, _, ICall.use0 (c18 n.1 false (by omega)) rfl, ?_⟩
      conv => whnf
      repeat' (refine And.intro ?_ ?_; (first | omega | exact rfl | exact And.intro (by omega) (by omega) | exact Or.inr Nat.zero_lt_one))
      conv => whnf
      refine And.intro (show sumOk (n.1.length + 1) 40 from ⟨by omega, by omega⟩) ?_
      conv => whnf
      repeat' (refine And.intro ?_ ?_; (first | omega | exact rfl | exact And.intro (by omega) (by omega) | exact Or.inr Nat.zero_lt_one))
      conv => whnf
      rw [show twiceN n p = ((n.1 ++ [elt tMsg n.1 p.toNat], n.2), 0) from by (first | (simp [twiceN, *]; done) | (simp [twiceN, *] <;> omega) | (simp_all [twiceN]; done) | (simp_all [twiceN] <;> omega))]
      refine ⟨[], _, _, ?_, rfl, rfl⟩
      repeat' (first | exact trivial | exact rfl | exact .inl rfl | (exact .inr rfl) | refine And.intro ?_ ?_)

/-- What sending comes to. -/
def sendN (n : Net) (to : Int) (body : Str) : Net × Int × Int :=
  if goodNet n = false ∨ to < 0 ∨ to ≥ 64 then (([], 0, 0), 0, 1) else if body.length > 4096 then (([], 0, 0), 0, 2) else if n.1.length = 32 ∨ n.2.1 = 1099511627776 then (([], 0, 0), 0, 13)
  else ((n.1 ++ [(n.2.1 + 1, to, body, n.2.2)], n.2.1 + 1, n.2.2), n.2.1 + 1, 0)

set_option maxRecDepth 100000 in
theorem c7 (n : Net) (to : Int) (body : Str) (hl : okNet n) (hb : body.length ≤ 9223372036854775807) : ACall E 7 [netV n, .int .i64 to, .str body] [] (fun r h' => r = .ret (.tup [netV (sendN n to body).1, .int .i64 (sendN n to body).2.1, .int .i64 (sendN n to body).2.2]) ∧ h' = []) := by
  refine ACall.body envOK func7 rfl rfl rfl ?_
  conv => whnf
  refine ACall.use0 (c12' n hl) rfl ?_
  conv => whnf
  first | refine aIf_dec (fun h1 => ?_) (fun h1 => ?_) | refine aIf_beq (fun h1 => ?_) (fun h1 => ?_) | refine aIf_bne (fun h1 => ?_) (fun h1 => ?_) | refine aIf_not (fun h1 => ?_) (fun h1 => ?_) | refine aIf_mk (fun h1 => ?_) (fun h1 => ?_)
  · conv => whnf
    rw [show sendN n to body = (([], 0, 0), 0, 1) from by (first | (simp [sendN, *]; done) | (simp [sendN, *] <;> omega) | (simp_all [sendN]; done) | (simp_all [sendN] <;> omega))]
    refine ⟨[], _, _, ?_, rfl, rfl⟩
    repeat' (first | exact trivial | exact rfl | exact .inl rfl | (exact .inr rfl) | refine And.intro ?_ ?_)
  · conv => whnf
    first | refine aIf_dec (fun h2 => ?_) (fun h2 => ?_) | refine aIf_beq (fun h2 => ?_) (fun h2 => ?_) | refine aIf_bne (fun h2 => ?_) (fun h2 => ?_) | refine aIf_not (fun h2 => ?_) (fun h2 => ?_) | refine aIf_mk (fun h2 => ?_) (fun h2 => ?_)
    · conv => whnf
      rw [show sendN n to body = (([], 0, 0), 0, 1) from by (first | (simp [sendN, *]; done) | (simp [sendN, *] <;> omega) | (simp_all [sendN]; done) | (simp_all [sendN] <;> omega))]
      refine ⟨[], _, _, ?_, rfl, rfl⟩
      repeat' (first | exact trivial | exact rfl | exact .inl rfl | (exact .inr rfl) | refine And.intro ?_ ?_)
    · conv => whnf
      first | refine aIf_dec (fun h3 => ?_) (fun h3 => ?_) | refine aIf_beq (fun h3 => ?_) (fun h3 => ?_) | refine aIf_bne (fun h3 => ?_) (fun h3 => ?_) | refine aIf_not (fun h3 => ?_) (fun h3 => ?_) | refine aIf_mk (fun h3 => ?_) (fun h3 => ?_)
      · conv => whnf
        rw [show sendN n to body = (([], 0, 0), 0, 1) from by (first | (simp [sendN, *]; done) | (simp [sendN, *] <;> omega) | (simp_all [sendN]; done) | (simp_all [sendN] <;> omega))]
        refine ⟨[], _, _, ?_, rfl, rfl⟩
        repeat' (first | exact trivial | exact rfl | exact .inl rfl | (exact .inr rfl) | refine And.intro ?_ ?_)
      · conv => whnf
        first | refine aIf_dec (fun h4 => ?_) (fun h4 => ?_) | refine aIf_beq (fun h4 => ?_) (fun h4 => ?_) | refine aIf_bne (fun h4 => ?_) (fun h4 => ?_) | refine aIf_not (fun h4 => ?_) (fun h4 => ?_) | refine aIf_mk (fun h4 => ?_) (fun h4 => ?_)
        · conv => whnf
          rw [show sendN n to body = (([], 0, 0), 0, 2) from by (first | (simp [sendN, *]; done) | (simp [sendN, *] <;> omega) | (simp_all [sendN]; done) | (simp_all [sendN] <;> omega))]
          refine ⟨[], _, _, ?_, rfl, rfl⟩
          repeat' (first | exact trivial | exact rfl | exact .inl rfl | (exact .inr rfl) | refine And.intro ?_ ?_)
        · obtain ⟨g1, g2, g3, g4, g5, g6⟩ := (goodNet_iff n).1 h1
          have h4 : ¬ 4096 < body.length := by omega
          conv => whnf
          first | refine aIf_dec (fun h5 => ?_) (fun h5 => ?_) | refine aIf_beq (fun h5 => ?_) (fun h5 => ?_) | refine aIf_bne (fun h5 => ?_) (fun h5 => ?_) | refine aIf_not (fun h5 => ?_) (fun h5 => ?_) | refine aIf_mk (fun h5 => ?_) (fun h5 => ?_)
          · have h5 : n.1.length = 32 := by omega
            rw [show sendN n to body = (([], 0, 0), 0, 13) from by (first | (simp [sendN, *]; done) | (simp [sendN, *] <;> omega) | (simp_all [sendN]; done) | (simp_all [sendN] <;> omega))]
            conv => whnf
            refine ⟨[], _, _, ?_, rfl, rfl⟩
            repeat' (first | exact trivial | exact rfl | exact .inl rfl | (exact .inr rfl) | refine And.intro ?_ ?_)
          · have h5 : ¬ n.1.length = 32 := by omega
            conv => whnf
            first | refine aIf_dec (fun h6 => ?_) (fun h6 => ?_) | refine aIf_beq (fun h6 => ?_) (fun h6 => ?_) | refine aIf_bne (fun h6 => ?_) (fun h6 => ?_) | refine aIf_not (fun h6 => ?_) (fun h6 => ?_) | refine aIf_mk (fun h6 => ?_) (fun h6 => ?_)
            · rw [show sendN n to body = (([], 0, 0), 0, 13) from by (first | (simp [sendN, *]; done) | (simp [sendN, *] <;> omega) | (simp_all [sendN]; done) | (simp_all [sendN] <;> omega))]
              conv => whnf
              refine ⟨[], _, _, ?_, rfl, rfl⟩
              repeat' (first | exact trivial | exact rfl | exact .inl rfl | (exact .inr rfl) | refine And.intro ?_ ?_)
            · conv => whnf
              refine ⟨_, _, _, ICall.use0 (c18 n.1 false (by omega)) rfl, ?_⟩
              have e1 : IntKind.i64.wrap (n.2.1 + 1) = n.2.1 + 1 := i64_at rfl (by omega)
              rw [e1]
              conv => whnf
              repeat' (refine And.intro ?_ ?_; (first | omega | exact rfl | exact And.intro (by omega) (by omega) | exact Or.inr Nat.zero_lt_one))
              conv => whnf
              refine And.intro (show sumOk (n.1.length + 1) 40 from ⟨by omega, by omega⟩) ?_
              conv => whnf
              repeat' (refine And.intro ?_ ?_; (first | omega | exact rfl | exact And.intro (by omega) (by omega) | exact Or.inr Nat.zero_lt_one))
              conv => whnf
              rw [show sendN n to body = ((n.1 ++ [(n.2.1 + 1, to, body, n.2.2)], n.2.1 + 1, n.2.2), n.2.1 + 1, 0) from by (first | (simp [sendN, *]; done) | (simp [sendN, *] <;> omega) | (simp_all [sendN]; done) | (simp_all [sendN] <;> omega))]
              refine ⟨[], _, _, ?_, rfl, rfl⟩
              repeat' (first | exact trivial | exact rfl | exact .inl rfl | (exact .inr rfl) | refine And.intro ?_ ?_)
end Go.Proofs.Try
