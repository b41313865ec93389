import Derived.Test.YtfhcedpnofidnaaWireG
namespace Go.Proofs.Try
open Go.AM

theorem fewN_ok (n : Net) : (fewN n).1.length ≤ 34 := by simp [fewN]; omega
theorem fewN_okNet (n : Net) : okNet (fewN n) := by have := fewN_ok n; unfold okNet; omega
theorem fewN_body (n : Net) : ∀ m ∈ (fewN n).1, m.2.2.1.length ≤ 4100 := by
  intro m hm
  simp only [fewN, List.mem_map] at hm
  obtain ⟨x, _, rfl⟩ := hm
  simp [cutM]; omega

theorem good_later {n : Net} {d : Int} (hg : goodNet n = true) (h0 : 0 ≤ d) (h1 : n.2.2 + d ≤ 1099511627776) : goodNet (n.1, n.2.1, n.2.2 + d) = true := by
  obtain ⟨g1, g2, g3, g4, g5, g6⟩ := (goodNet_iff n).1 hg
  refine (goodNet_iff _).2 ⟨g1, g2, g3, (show 0 ≤ n.2.2 + d by omega), h1, ?_⟩
  rw [List.any_eq_false] at g6 ⊢
  intro m hm hb
  refine g6 m hm ?_
  simp only [badMsg, Bool.or_eq_true, decide_eq_true_eq] at hb ⊢
  omega

theorem passN_good {n : Net} {t : Int} (hg : goodNet n = true) (h0 : 0 ≤ t) : passNet n t = ((n.1, n.2.1, n.2.2 + min t (1099511627776 - n.2.2)), 0) := by
  simp [passNet, hg]; omega

theorem pass_good {n : Net} {t : Int} (hg : goodNet n = true) (h0 : 0 ≤ t) : goodNet (n.1, n.2.1, n.2.2 + min t (1099511627776 - n.2.2)) = true := by
  obtain ⟨g1, g2, g3, g4, g5, g6⟩ := (goodNet_iff n).1 hg
  exact good_later hg (by omega) (by omega)

theorem lateFrom_le {now now' t : Int} (h : now ≤ now') : ∀ (l : List Msg) (i : Nat), (lateFrom now t i l).length ≤ (lateFrom now' t i l).length
  | [], _ => Nat.le_refl _
  | m :: r, i => by
    have ih := lateFrom_le (t := t) h r (i + 1)
    simp only [lateFrom]
    split <;> split <;> simp <;> omega
theorem lateFrom_append {now t : Int} : ∀ (l k : List Msg) (i : Nat), lateFrom now t i (l ++ k) = lateFrom now t i l ++ lateFrom now t (i + l.length) k
  | [], k, i => rfl
  | m :: r, k, i => by
    have ih := lateFrom_append (now := now) (t := t) r k (i + 1)
    simp only [lateFrom, List.cons_append, ih, List.length_cons]
    rw [show i + 1 + r.length = i + (r.length + 1) by omega]
    split <;> simp
theorem lateFrom_lt {now t : Int} : ∀ (l : List Msg) (i : Nat), ∀ x ∈ lateFrom now t i l, x < ((i + l.length : Nat) : Int)
  | [], i => by simp [lateFrom]
  | m :: r, i => by
    intro x hx
    have ih := lateFrom_lt (now := now) (t := t) r (i + 1) x
    simp only [lateFrom] at hx
    simp only [List.length_cons]
    split at hx
    · rcases List.mem_cons.1 hx with rfl | hx
      · omega
      · have := ih hx; omega
    · have := ih hx; omega
theorem lateFrom_len {now t : Int} : ∀ (l : List Msg) (i : Nat), (lateFrom now t i l).length ≤ l.length
  | [], _ => Nat.le_refl _
  | m :: r, i => by
    have ih := lateFrom_len (now := now) (t := t) r (i + 1)
    simp only [lateFrom]
    split <;> simp <;> omega
theorem lateN_good {n : Net} {t : Int} (hg : goodNet n = true) (h0 : 0 ≤ t) : lateNet n t = lateFrom n.2.2 t 0 n.1 := by
  simp [lateNet, hg]; omega

theorem send_ok {n : Net} {to : Int} {body : Str} (h : (sendN n to body).2.2 = 0) : goodNet n = true ∧ 0 ≤ to ∧ to < 64 ∧ body.length ≤ 4096 ∧ n.1.length < 32 ∧ n.2.1 < 1099511627776 ∧
    sendN n to body = ((n.1 ++ [(n.2.1 + 1, to, body, n.2.2)], n.2.1 + 1, n.2.2), n.2.1 + 1, 0) ∧ goodNet (n.1 ++ [(n.2.1 + 1, to, body, n.2.2)], n.2.1 + 1, n.2.2) = true := by
  cases hg : goodNet n with
  | false => simp [sendN, hg] at h
  | true =>
    obtain ⟨g1, g2, g3, g4, g5, g6⟩ := (goodNet_iff n).1 hg
    unfold sendN at h
    by_cases h1 : goodNet n = false ∨ to < 0 ∨ to ≥ 64
    · rw [if_pos h1] at h; simp at h
    · by_cases h2 : body.length > 4096
      · rw [if_neg h1, if_pos h2] at h; simp at h
      · by_cases h3 : n.1.length = 32 ∨ n.2.1 = 1099511627776
        · rw [if_neg h1, if_neg h2, if_pos h3] at h; simp at h
        · refine ⟨rfl, by omega, by omega, by omega, by omega, by omega, by rw [sendN, if_neg h1, if_neg h2, if_neg h3], ?_⟩
          refine (goodNet_iff _).2 ⟨by simp; omega, show 0 ≤ n.2.1 + 1 by omega, show n.2.1 + 1 ≤ 1099511627776 by omega, g4, g5, ?_⟩
          rw [List.any_eq_false] at g6 ⊢
          intro m hm hb
          rcases List.mem_append.1 hm with hm | hm
          · refine g6 m hm ?_
            simp only [badMsg, Bool.or_eq_true, decide_eq_true_eq] at hb ⊢
            omega
          · rw [List.mem_singleton.1 hm] at hb
            simp only [badMsg, Bool.or_eq_true, decide_eq_true_eq] at hb
            omega
theorem eltG {t : Ty} {l : List t.den} {i : Nat} (h : i < l.length) : elt t l i = l[i] := by
  unfold elt
  simp [List.getD, List.getElem?_eq_getElem h]
theorem any_succ {l : List Int} {k : Int} {i : Nat} (h : i < l.length) : (l.take (i + 1)).any (· == k) = ((l.take i).any (· == k) || elt (.int .i64) l i == k) := by
  rw [List.take_succ_eq_append_getElem h, List.any_append, eltG (t := .int .i64) h]
  simp
theorem any_all {l : List Int} {k : Int} {i : Nat} (h : l.length ≤ i) : (l.take i).any (· == k) = l.any (· == k) := by
  rw [List.take_of_length_le h]
theorem tm {a k : Int} (hk : 0 < k) : -k < a.tmod k ∧ a.tmod k < k := by
  have h1 := Int.tmod_lt_of_pos a hk
  have h2 := Int.tmod_lt_of_pos (-a) hk
  rw [Int.neg_tmod] at h2
  omega
def modK (a k : Int) : Int := (a.tmod k + k).tmod k
theorem modK_in {a k : Int} (hk : 0 < k) : 0 ≤ modK a k ∧ modK a k < k := by
  have h := tm (a := a) hk
  unfold modK
  exact ⟨Int.tmod_nonneg _ (by omega), Int.tmod_lt_of_pos _ hk⟩

set_option maxRecDepth 100000 in
theorem c4 (n : Net) (a b : Int) (hl : okNet n) (_ha : -9223372036854775808 ≤ a ∧ a ≤ 9223372036854775807) (_hb : -9223372036854775808 ≤ b ∧ b ≤ 9223372036854775807) :
    ACall E 4 [netV n, .int .i64 a, .int .i64 b] [] (fun r h' => r = .ret (.bool true) ∧ h' = []) := by
  refine ACall.body envOK func4 rfl rfl rfl ?_
  conv => whnf
  refine ACall.use0 (c13 n hl) rfl ?_
  conv => whnf
  generalize hN : fewN n = N
  have hN1 : N.1.length ≤ 34 := hN ▸ fewN_ok n
  have hNo : okNet N := hN ▸ fewN_okNet n
  have a1 := tm (a := a) (k := 1000000) (by omega)
  have b1 := tm (a := b) (k := 1000000) (by omega)
  repeat' (refine And.intro ?_ ?_; (first | omega | exact rfl | exact And.intro (by omega) (by omega) | exact Or.inr Nat.zero_lt_one))
  conv => whnf
  have a2 : IntKind.i64.wrap (a.tmod 1000000 + 1000000) = a.tmod 1000000 + 1000000 := i64_at rfl (by omega)
  have b2 : IntKind.i64.wrap (b.tmod 1000000 + 1000000) = b.tmod 1000000 + 1000000 := i64_at rfl (by omega)
  rw [a2, b2]
  have a3 := modK_in (a := a) (k := 1000000) (by omega)
  have b3 := modK_in (a := b) (k := 1000000) (by omega)
  change 0 ≤ (a.tmod 1000000 + 1000000).tmod 1000000 ∧ (a.tmod 1000000 + 1000000).tmod 1000000 < _ at a3
  change 0 ≤ (b.tmod 1000000 + 1000000).tmod 1000000 ∧ (b.tmod 1000000 + 1000000).tmod 1000000 < _ at b3
  generalize (a.tmod 1000000 + 1000000).tmod 1000000 = A at a3 ⊢
  generalize (b.tmod 1000000 + 1000000).tmod 1000000 = B at b3 ⊢
  refine ACall.use0 (c14 N hNo) rfl ?_
  conv => whnf
  first | refine aIf_dec (fun hg => ?_) (fun hg => ?_) | refine aIf_beq (fun hg => ?_) (fun hg => ?_) | refine aIf_bne (fun hg => ?_) (fun hg => ?_) | refine aIf_not (fun hg => ?_) (fun hg => ?_) | refine aIf_mk (fun hg => ?_) (fun hg => ?_)
  · conv => whnf
    refine ACall.use0 (c11) rfl ?_
    conv => whnf
    refine ⟨[], _, _, ?_, rfl, rfl⟩
    repeat' (first | exact trivial | exact rfl | exact .inl rfl | (exact .inr rfl) | refine And.intro ?_ ?_)
  · obtain ⟨g1, g2, g3, g4, g5, g6⟩ := (goodNet_iff N).1 hg
    conv => whnf
    refine ACall.use0 (c15 N A hNo (by omega)) rfl ?_
    rw [passN_good hg (by omega)]
    have hx := pass_good (t := A) hg (by omega)
    conv => whnf
    refine ACall.use0 (c15 _ B hNo (by omega)) rfl ?_
    rw [passN_good hx (by omega)]
    conv => whnf
    have ab : IntKind.i64.wrap (A + B) = A + B := i64_at rfl (by omega)
    rw [ab]
    refine ACall.use0 (c15 _ (A + B) hNo (by omega)) rfl ?_
    rw [passN_good hg (by omega)]
    conv => whnf
    refine aIf_bne (fun h => absurd rfl h) (fun _ => ?_)
    conv => whnf
    refine aIf_bne (fun h => absurd rfl h) (fun _ => ?_)
    conv => whnf
    refine aIf_bne (fun h => absurd rfl h) (fun _ => ?_)
    conv => whnf
    refine ACall.use0 (c16 _ _ hNo) rfl ?_
    rw [show decide (((N.1, N.2.1, N.2.2 + min A (1099511627776 - N.2.2) + min B (1099511627776 - (N.2.2 + min A (1099511627776 - N.2.2)))) : Net) = (N.1, N.2.1, N.2.2 + min (A + B) (1099511627776 - N.2.2))) = true from decide_eq_true (by congr 2; omega)]
    conv => whnf
    refine aIf_not (fun h => absurd h (by simp)) (fun _ => ?_)
    conv => whnf
    refine ACall.use0 (c11) rfl ?_
    conv => whnf
    refine aIf_not (fun h => absurd h (by simp)) (fun _ => ?_)
    conv => whnf
    refine ⟨_, _, _, ICall.use0 (c17 _ B hNo (by omega)) rfl, ?_⟩
    rw [lateN_good hx (by omega)]
    conv => whnf
    refine ⟨_, _, _, ICall.use0 (c17 _ B hNo (by omega)) rfl, ?_⟩
    rw [lateN_good hg (by omega)]
    conv => whnf
    have hle := lateFrom_le (now := N.2.2) (now' := N.2.2 + min A (1099511627776 - N.2.2)) (t := B) (by omega) N.1 0
    have hle2 := lateFrom_len (now := N.2.2 + min A (1099511627776 - N.2.2)) (t := B) N.1 0
    repeat' (refine And.intro ?_ ?_; (first | omega | exact rfl | exact And.intro (by omega) (by omega) | exact Or.inr Nat.zero_lt_one))
    conv => whnf
    first | refine aIf_dec (fun h1 => ?_) (fun h1 => ?_) | refine aIf_beq (fun h1 => ?_) (fun h1 => ?_) | refine aIf_bne (fun h1 => ?_) (fun h1 => ?_) | refine aIf_not (fun h1 => ?_) (fun h1 => ?_) | refine aIf_mk (fun h1 => ?_) (fun h1 => ?_)
    · exact absurd h1 (by simp only [] at *; omega)
    · conv => whnf
      refine ACall.use [] (c7 N 0 [] hNo (by simp)) rfl trivial (by repeat' (first | exact trivial | exact rfl | exact .inl rfl | (exact .inr rfl) | refine And.intro ?_ ?_)) ?_
      conv => whnf
      first | refine aIf_dec (fun h2 => ?_) (fun h2 => ?_) | refine aIf_beq (fun h2 => ?_) (fun h2 => ?_) | refine aIf_bne (fun h2 => ?_) (fun h2 => ?_) | refine aIf_not (fun h2 => ?_) (fun h2 => ?_) | refine aIf_mk (fun h2 => ?_) (fun h2 => ?_)
      · conv => whnf
        refine ⟨[], _, _, ?_, rfl, rfl⟩
        repeat' (first | exact trivial | exact rfl | exact .inl rfl | (exact .inr rfl) | refine And.intro ?_ ?_)
      · obtain ⟨_, _, _, _, s1, s2, s3, sg⟩ := send_ok h2
        rw [s3]
        generalize hS : ((N.1 ++ [(N.2.1 + 1, 0, [], N.2.2)], N.2.1 + 1, N.2.2) : Net) = S at sg
        have S1 : S.1 = N.1 ++ [(N.2.1 + 1, 0, [], N.2.2)] := by rw [← hS]
        have S2 : S.2.2 = N.2.2 := by rw [← hS]
        have S3 : S.1.length = N.1.length + 1 := by rw [S1]; simp
        have So : okNet S := by unfold okNet; omega
        conv => whnf
        first | refine aIf_dec (fun h3 => ?_) (fun h3 => ?_) | refine aIf_beq (fun h3 => ?_) (fun h3 => ?_) | refine aIf_bne (fun h3 => ?_) (fun h3 => ?_) | refine aIf_not (fun h3 => ?_) (fun h3 => ?_) | refine aIf_mk (fun h3 => ?_) (fun h3 => ?_)
        · conv => whnf
          refine ⟨[], _, _, ?_, rfl, rfl⟩
          repeat' (first | exact trivial | exact rfl | exact .inl rfl | (exact .inr rfl) | refine And.intro ?_ ?_)
        · conv => whnf
          have k1 : IntKind.i64.wrap ((S.1.length : Int) - 1) = (N.1.length : Int) := by rw [S3]; exact i64_at (by omega) (by omega)
          rw [k1]
          refine ACall.use0 (c15 S A So (by omega)) rfl ?_
          rw [passN_good sg (by omega)]
          have hT := pass_good (t := A) sg (by omega)
          have T1 : S.2.2 + min A (1099511627776 - S.2.2) = N.2.2 + A := by rw [S2]; omega
          rw [T1] at hT ⊢
          conv => whnf
          refine ACall.use0 (c17 (S.1, S.2.1, N.2.2 + A) A So (by omega)) rfl ?_
          rw [lateN_good hT (by omega)]
          conv => whnf
          have a4 : IntKind.i64.wrap (A + 1) = A + 1 := i64_at rfl (by omega)
          rw [a4]
          refine ACall.use0 (c17 (S.1, S.2.1, N.2.2 + A) (A + 1) So (by omega)) rfl ?_
          rw [lateN_good hT (by omega)]
          conv => whnf
          generalize hL : lateFrom (S.fst, S.snd.fst, N.snd.snd + A).snd.snd A 0 (S.fst, S.snd.fst, N.snd.snd + A).fst = L
          generalize hM : lateFrom (S.fst, S.snd.fst, N.snd.snd + A).snd.snd (A + 1) 0 (S.fst, S.snd.fst, N.snd.snd + A).fst = M
          have L1 : L.length ≤ S.1.length := by rw [← hL]; exact lateFrom_len _ _
          have M1 : M.length ≤ S.1.length := by rw [← hM]; exact lateFrom_len _ _
          refine ⟨Nat, ⟨fun i => i ≤ L.length, fun i => ([(16, .int .i64 (N.1.length : Int)), (18, .int .i64 0), (20, .sl (.int .i64) M false), (21, .bool ((L.take i).any (· == (N.1.length : Int)))), (22, .f), (120, .sl (.int .i64) L false),
            (121, .int .i64 (L.length : Int)), (122, .int .i64 (i : Int))], []), fun i => L.length - i⟩, 0, [], [], ?_, ?_, fun i hi => ?_⟩
          · exact Nat.zero_le _
          · repeat' (first | exact trivial | exact rfl | exact .inl rfl | (exact .inr rfl) | refine And.intro ?_ ?_)
          · replace hi : i ≤ L.length := hi
            conv => whnf
            first | refine aIf_dec (fun h4 => ?_) (fun h4 => ?_) | refine aIf_beq (fun h4 => ?_) (fun h4 => ?_) | refine aIf_bne (fun h4 => ?_) (fun h4 => ?_) | refine aIf_not (fun h4 => ?_) (fun h4 => ?_) | refine aIf_mk (fun h4 => ?_) (fun h4 => ?_)
            · conv => whnf
              repeat' (refine And.intro ?_ ?_; (first | omega | exact rfl | exact And.intro (by omega) (by omega) | exact Or.inr Nat.zero_lt_one))
              conv => whnf
              have e1 : ((i : Int)).toNat = i := by omega
              rw [e1]
              have hs := any_succ (k := (N.1.length : Int)) (show i < L.length by omega)
              refine aIf_mk (fun h5 => ?_) (fun h5 => ?_)
              · conv => whnf
                refine ⟨i + 1, [], [], (show i + 1 ≤ L.length by omega), (show L.length - (i + 1) < L.length - i by omega), ?_⟩
                repeat' (first | exact trivial | exact rfl | exact .inl rfl | (exact .inr rfl) | refine And.intro ?_ ?_)
                · conv => whnf
                  rw [hs, h5]; rfl
                · exact i64_at rfl (by omega)
              · conv => whnf
                refine ⟨i + 1, [], [], (show i + 1 ≤ L.length by omega), (show L.length - (i + 1) < L.length - i by omega), ?_⟩
                repeat' (first | exact trivial | exact rfl | exact .inl rfl | (exact .inr rfl) | refine And.intro ?_ ?_)
                · conv => whnf
                  rw [hs, h5]; rfl
                · exact i64_at rfl (by omega)
            · conv => whnf
              have hLi : (L.take i).any (· == (N.1.length : Int)) = L.any (· == (N.1.length : Int)) := any_all (by omega)
              refine ⟨Nat, ⟨fun i => i ≤ M.length, fun i => ([(16, .int .i64 (N.1.length : Int)), (18, .int .i64 0), (21, .bool (L.any (· == (N.1.length : Int)))), (22, .bool ((M.take i).any (· == (N.1.length : Int)))), (133, .sl (.int .i64) M false),
                (134, .int .i64 (M.length : Int)), (135, .int .i64 (i : Int))], []), fun i => M.length - i⟩, 0, [], [], ?_, ?_, fun i hi => ?_⟩
              · exact Nat.zero_le _
              · repeat' (first | exact trivial | exact rfl | exact .inl rfl | (exact .inr rfl) | refine And.intro ?_ ?_)
                exact hLi
              · replace hi : i ≤ M.length := hi
                conv => whnf
                first | refine aIf_dec (fun h4 => ?_) (fun h4 => ?_) | refine aIf_beq (fun h4 => ?_) (fun h4 => ?_) | refine aIf_bne (fun h4 => ?_) (fun h4 => ?_) | refine aIf_not (fun h4 => ?_) (fun h4 => ?_) | refine aIf_mk (fun h4 => ?_) (fun h4 => ?_)
                · conv => whnf
                  repeat' (refine And.intro ?_ ?_; (first | omega | exact rfl | exact And.intro (by omega) (by omega) | exact Or.inr Nat.zero_lt_one))
                  conv => whnf
                  have e1 : ((i : Int)).toNat = i := by omega
                  rw [e1]
                  have hs := any_succ (k := (N.1.length : Int)) (show i < M.length by omega)
                  refine aIf_mk (fun h5 => ?_) (fun h5 => ?_)
                  · conv => whnf
                    refine ⟨i + 1, [], [], (show i + 1 ≤ M.length by omega), (show M.length - (i + 1) < M.length - i by omega), ?_⟩
                    repeat' (first | exact trivial | exact rfl | exact .inl rfl | (exact .inr rfl) | refine And.intro ?_ ?_)
                    · conv => whnf
                      rw [hs, h5]; rfl
                    · exact i64_at rfl (by omega)
                  · conv => whnf
                    refine ⟨i + 1, [], [], (show i + 1 ≤ M.length by omega), (show M.length - (i + 1) < M.length - i by omega), ?_⟩
                    repeat' (first | exact trivial | exact rfl | exact .inl rfl | (exact .inr rfl) | refine And.intro ?_ ?_)
                    · conv => whnf
                      rw [hs, h5]; rfl
                    · exact i64_at rfl (by omega)
                · conv => whnf
                  have hMi : (M.take i).any (· == (N.1.length : Int)) = M.any (· == (N.1.length : Int)) := any_all (by omega)
                  have hLt : L.any (· == (N.1.length : Int)) = true := by
                    rw [← hL, S1, lateFrom_append, List.any_append]
                    simp [lateFrom]
                    omega
                  have hMf : M.any (· == (N.1.length : Int)) = false := by
                    rw [← hM, S1, lateFrom_append, List.any_append, Bool.or_eq_false_iff]
                    constructor
                    · rw [List.any_eq_false]
                      intro x hx
                      have := lateFrom_lt _ _ x hx
                      simp
                      omega
                    · simp [lateFrom]
                      omega
                  refine aIf_beq (fun _ => ?_) (fun h => absurd rfl h)
                  conv => whnf
                  refine aIf_mk (fun _ => ?_) (fun h => absurd hLt (by rw [h]; simp))
                  conv => whnf
                  refine ⟨[], _, _, ?_, rfl, rfl⟩
                  repeat' (first | exact trivial | exact rfl | exact .inl rfl | (exact .inr rfl) | refine And.intro ?_ ?_)
                  conv => whnf
                  rw [hMi, hMf]
                  rfl
end Go.Proofs.Try
