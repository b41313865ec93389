import Derived.Test.YtjiojhfbpblioaaQueueN
namespace Go.Proofs.Try
open Go.AM

def J1 (key : Str) (st t tok u : Int) : Job := (1, key, [98], st, t, tok, u, 0)
theorem elt1 {j : Job} : elt tJob [j] 0 = j := eltJ (l := [j]) (i := 0) (by simp)
theorem idx1 {key : Str} {st t tok u : Int} : idxOf (isId 1) [J1 key st t tok u] = 0 := rfl
theorem may1 {key : Str} {st t tok u : Int} (hk : key.length ≤ 200) (h1 : 1 ≤ st ∧ st ≤ 5) (h2 : 0 ≤ t ∧ t ≤ 10) (h3 : inT tok) (h4 : inT u) : mayJ (J1 key st t tok u) = true :=
  mayJ_mk (by simp [J1]) ⟨by simp [J1], by simp [J1]⟩ h3 h4 ⟨by simp [J1], by simp [J1]⟩ hk (by simp [J1]) h1.1 h1.2 h2.1 h2.2
theorem good1 {key : Str} {st t tok tok' u : Int} (hk : key.length ≤ 200) (h1 : 1 ≤ st ∧ st ≤ 5) (h2 : 0 ≤ t ∧ t ≤ 10) (h3 : inT tok) (h4 : inT u) (h5 : tok ≤ tok') (h6 : inT tok') : goodQ ([J1 key st t tok u], 1, tok') = true := by
  refine goodQ_mk ?_ (by simp) ⟨by simp, by simp⟩ h6
  have hm := may1 hk h1 h2 h3 h4
  simp only [rightFrom, hm]
  have e : (J1 key st t tok u).2.2.2.2.2.1 = tok := rfl
  have e1 : (J1 key st t tok u).1 = 1 := rfl
  simp [e, e1, hold]
  omega
theorem lease1 {key : Str} {t u now : Int} (hk : key.length ≤ 200) (h2 : 0 ≤ t ∧ t < 10) (h4 : inT u) (h5 : u ≤ now) (h6 : inT now) : leaseN ([J1 key 1 t t u], 1, t) now 5 = (([J1 key 2 (t + 1) (t + 1) (min (now + 5) 1099511627776)], 1, t + 1), J1 key 2 (t + 1) (t + 1) (min (now + 5) 1099511627776), 0) := by
  have g := good1 (key := key) (st := 1) (t := t) (tok := t) (tok' := t) (u := u) hk (by decide) (by omega) ⟨h2.1, by omega⟩ h4 (Int.le_refl _) ⟨h2.1, by omega⟩
  have hr : rdy now (J1 key 1 t t u) = true := by simp [rdy, opn, J1, h5]
  have ho : [now, 5].any out = false := by simp [inT_out h6]; decide
  have ha : (([J1 key 1 t t u] : List Job)).any (rdy now) = true := by simp [hr]
  have ht : ¬ (J1 key 1 t t u).2.2.2.2.1 = 10 := by show ¬ t = 10; omega
  have hl : leaseL t now 5 [J1 key 1 t t u] = ([leaseJ t now 5 (J1 key 1 t t u)], some (leaseJ t now 5 (J1 key 1 t t u))) := by rw [leaseL, if_pos ⟨hr, ht⟩]
  unfold leaseN
  rw [if_neg (by rw [g, ho]; simp), if_neg (by rw [ha]; simp), if_neg (by show ¬ t = 1099511627776; omega)]
  rw [show leaseL (([J1 key 1 t t u], 1, t) : Queue).2.2 now 5 (([J1 key 1 t t u], 1, t) : Queue).1 = _ from hl]
  rfl
theorem lease1_none {key : Str} {st t u now : Int} (hk : key.length ≤ 200) (h1 : 1 ≤ st ∧ st ≤ 5) (h2 : 0 ≤ t ∧ t ≤ 10) (h4 : inT u) (h6 : inT now) (hr : rdy now (J1 key st t t u) = false) : leaseN ([J1 key st t t u], 1, t) now 5 = (([], 0, 0), job0, 9) := by
  have g := good1 (key := key) (st := st) (t := t) (tok := t) (tok' := t) (u := u) hk h1 h2 ⟨h2.1, by omega⟩ h4 (Int.le_refl _) ⟨h2.1, by omega⟩
  have ho : [now, 5].any out = false := by simp [inT_out h6]; decide
  have ha : (([J1 key st t t u] : List Job)).any (rdy now) = false := by simp [hr]
  unfold leaseN
  rw [if_neg (by rw [g, ho]; simp), if_pos ha]
theorem fail1 {key : Str} {t u now : Int} (hk : key.length ≤ 200) (h2 : 0 ≤ t ∧ t ≤ 10) (h4 : inT u) (h6 : inT now) : failN ([J1 key 2 t t u], 1, t) 1 t now false = (([failG false now (J1 key 2 t t u)], 1, t), 0) := by
  have g := good1 (key := key) (st := 2) (t := t) (tok := t) (tok' := t) (u := u) hk (by decide) h2 ⟨h2.1, by omega⟩ h4 (Int.le_refl _) ⟨h2.1, by omega⟩
  have ho : (!([now].any out)) = true := by simp [inT_out h6]
  have e1 : lF t (fun _ => 0) (J1 key 2 t t u) = 0 := by
    rw [lF, if_neg (by show ¬ ((2 : Int) ≠ 2); simp), if_neg (by show ¬ (t ≠ t); simp)]
  have e2 : lG t (failG false now) (J1 key 2 t t u) = failG false now (J1 key 2 t t u) := lG_of rfl rfl
  unfold failN changeN
  rw [if_neg (by rw [g, ho]; simp), show idxOf (isId 1) ([J1 key 2 t t u], 1, t).1 = 0 from rfl, if_neg (by decide)]
  rw [show elt tJob (([J1 key 2 t t u], 1, t) : Queue).1 (0 : Int).toNat = J1 key 2 t t u from elt1, e1, e2, if_neg (by simp)]
  rfl
theorem again1 {key : Str} {t u : Int} (hk : key.length ≤ 200) (h2 : 0 ≤ t ∧ t ≤ 10) (h4 : inT u) : againN ([J1 key 5 t t u], 1, t) 1 = (([J1 key 1 0 0 0], 1, t), 0) := by
  have g := good1 (key := key) (st := 5) (t := t) (tok := t) (tok' := t) (u := u) hk (by decide) h2 ⟨h2.1, by omega⟩ h4 (Int.le_refl _) ⟨h2.1, by omega⟩
  have e1 : againF ([J1 key 5 t t u], 1, t) (J1 key 5 t t u) = 0 := by
    rw [againF, if_neg (by show ¬ ((5 : Int) ≠ 4 ∧ (5 : Int) ≠ 5); simp), if_neg (by simp [hold, opn, J1])]
  have e2 : againG ([J1 key 5 t t u], 1, t) (J1 key 5 t t u) = J1 key 1 0 0 0 := by rw [againG, if_pos e1]; rfl
  unfold againN changeN
  rw [if_neg (by rw [g]; simp), show idxOf (isId 1) ([J1 key 5 t t u], 1, t).1 = 0 from rfl, if_neg (by decide)]
  rw [show elt tJob (([J1 key 5 t t u], 1, t) : Queue).1 (0 : Int).toNat = J1 key 5 t t u from elt1, e1, e2, if_neg (by simp)]
  rfl
theorem lease1b {key : Str} {tok now : Int} (hk : key.length ≤ 200) (h2 : 0 ≤ tok ∧ tok ≤ 10) (h6 : inT now) : leaseN ([J1 key 1 0 0 0], 1, tok) now 5 = (([J1 key 2 1 (tok + 1) (min (now + 5) 1099511627776)], 1, tok + 1), J1 key 2 1 (tok + 1) (min (now + 5) 1099511627776), 0) := by
  have g := good1 (key := key) (st := 1) (t := 0) (tok := 0) (tok' := tok) (u := 0) hk (by decide) (by decide) ⟨by decide, by decide⟩ ⟨by decide, by decide⟩ h2.1 ⟨h2.1, by omega⟩
  have hr : rdy now (J1 key 1 0 0 0) = true := by have := h6.1; simp [rdy, opn, J1, this]
  have ho : [now, 5].any out = false := by simp [inT_out h6]; decide
  have ha : (([J1 key 1 0 0 0] : List Job)).any (rdy now) = true := by simp [hr]
  have hl : leaseL tok now 5 [J1 key 1 0 0 0] = ([leaseJ tok now 5 (J1 key 1 0 0 0)], some (leaseJ tok now 5 (J1 key 1 0 0 0))) := by rw [leaseL, if_pos ⟨hr, by show ¬ (0 : Int) = 10; decide⟩]
  unfold leaseN
  rw [if_neg (by rw [g, ho]; simp), if_neg (by rw [ha]; simp), if_neg (by show ¬ tok = 1099511627776; omega)]
  rw [show leaseL (([J1 key 1 0 0 0], 1, tok) : Queue).2.2 now 5 (([J1 key 1 0 0 0], 1, tok) : Queue).1 = _ from hl]
  rfl
theorem rdy_late {key : Str} {st t tok u now : Int} (h : now < u) : rdy now (J1 key st t tok u) = false := by
  have : ¬ (J1 key st t tok u).2.2.2.2.2.2.1 ≤ now := by show ¬ u ≤ now; omega
  simp [rdy, this]
theorem rdy_dead {key : Str} {t tok u now : Int} : rdy now (J1 key 5 t tok u) = false := by simp [rdy, opn, J1]
theorem add1 {key : Str} (hk : key.length ≤ 200) : addN ([], 0, 0) key [98] = (([J1 key 1 0 0 0], 1, 0), 1, 0) := by
  unfold addN
  rw [if_neg (by decide), if_neg (by simp; omega), if_neg (by simp), if_neg (by decide)]
  rfl
theorem wait_mono (n : Nat) : waitN n ≤ waitN (n + 1) := by
  have := waitN_in n
  simp only [waitN]
  omega
theorem tm {a k : Int} (hk : 0 < k) : -k < a.tmod k ∧ a.tmod k < k := by
  have h1 := Int.tmod_lt_of_pos a hk
  have h2 := Int.tmod_lt_of_pos (-a) hk
  rw [Int.neg_tmod] at h2
  omega
theorem modK_in {a k : Int} (hk : 0 < k) : 0 ≤ (a.tmod k + k).tmod k ∧ (a.tmod k + k).tmod k < k := by
  have h := tm (a := a) hk
  exact ⟨Int.tmod_nonneg _ (by omega), Int.tmod_lt_of_pos _ hk⟩

def q1 (key : Str) (i : Nat) (u : Int) : Queue := ([J1 key (if i = 10 then 5 else 1) i i u], 1, i)
structure TS where
  i : Nat
  now : Int
  u : Int
  last : Int
def tsInv (x : TS) : Prop := x.i ≤ 10 ∧ 0 ≤ x.now ∧ x.now ≤ 1000000 + 60 * x.i ∧ inT x.u ∧ (x.i < 10 → x.u ≤ x.now) ∧ (x.i < 10 → x.last ≤ waitN x.i)

set_option maxRecDepth 100000 in
set_option maxHeartbeats 8000000 in
theorem c6 (key : Str) (now : Int) : ACall E 6 [.str key, .int .i64 now] [] (fun r h' => r = .ret (.bool true) ∧ h' = []) := by
  refine ACall.bodyJ envOK func6 rfl rfl rfl ?_
  conv => whnf
  repeat' (refine And.intro ?_ ?_; (first | omega | exact rfl | exact And.intro (by omega) (by omega) | exact Or.inr Nat.zero_lt_one))
  conv => whnf
  have e1 : (List.drop (Int.toNat 0) (List.take (min (key.length : Int) 100).toNat key)) = key.take 100 := take_min (k := 100)
  rw [e1]
  have hK : (key.take 100).length ≤ 200 := by simp; omega
  generalize key.take 100 = K at hK ⊢
  conv => whnf
  repeat' (refine And.intro ?_ ?_; (first | omega | exact rfl | exact And.intro (by omega) (by omega) | exact Or.inr Nat.zero_lt_one))
  conv => whnf
  have a1 := tm (a := now) (k := 1000000) (by omega)
  have a2 : IntKind.i64.wrap (now.tmod 1000000 + 1000000) = now.tmod 1000000 + 1000000 := i64_at rfl (by omega)
  rw [a2]
  repeat' (refine And.intro ?_ ?_; (first | omega | exact rfl | exact And.intro (by omega) (by omega) | exact Or.inr Nat.zero_lt_one))
  conv => whnf
  have a3 := modK_in (a := now) (k := 1000000) (by omega)
  generalize (now.tmod 1000000 + 1000000).tmod 1000000 = A at a3 ⊢
  conv => whnf
  refine ACall.use [] (c19 ([], 0, 0) K [98] (by simp)) rfl trivial (by repeat' (first | exact trivial | exact rfl | exact .inl rfl | (exact .inr rfl) | refine And.intro ?_ ?_)) ?_
  rw [add1 hK]
  conv => whnf
  refine ⟨TS, ⟨tsInv, fun x => ([(1, .int .i64 x.now), (4, .f), (5, .ptr 0 0), (6, .int .i64 1), (7, .int .i64 0), (8, .int .i64 x.last), (42, .int .i64 (x.i : Int))], [.var [.sl tJob (q1 K x.i x.u).1 false, .int .i64 1, .int .i64 (x.i : Int)]]), fun x => 10 - x.i⟩, ⟨0, A, 0, 0⟩, [], [.old 0],
    ⟨Nat.zero_le _, a3.1, by show A ≤ 1000000 + 60 * ((0 : Nat) : Int); omega, (show inT 0 from ⟨by decide, by decide⟩), fun _ => a3.1, fun _ => (show (0 : Int) ≤ waitN 0 by decide)⟩, ?_, fun x hx => ?_⟩
  · repeat' (first | exact trivial | exact rfl | exact .inl rfl | (exact .inr rfl) | refine And.intro ?_ ?_)
  · obtain ⟨i, N, u, last⟩ := x
    obtain ⟨x1, x2, x3, x4, x5, x6⟩ := hx
    simp only [] at x1 x2 x3 x4 x5 x6
    conv => whnf
    first | refine aIf_dec (fun h => ?_) (fun h => ?_) | refine aIf_beq (fun h => ?_) (fun h => ?_) | refine aIf_bne (fun h => ?_) (fun h => ?_) | refine aIf_not (fun h => ?_) (fun h => ?_) | refine aIf_mk (fun h => ?_) (fun h => ?_)
    · have hi : i < 10 := by
        have h' : (i : Int) < 10 := h
        omega
      have hq : q1 K i u = ([J1 K 1 i i u], 1, (i : Int)) := by rw [q1, if_neg (by omega)]
      have hN : inT N := ⟨x2, by omega⟩
      have hl := lease1 (t := (i : Int)) hK ⟨by omega, by omega⟩ x4 (x5 hi) hN
      have w1 : IntKind.i64.wrap ((i : Int) + 1) = (i : Int) + 1 := i64_at rfl (by omega)
      rw [← hq] at hl
      conv => whnf
      refine ACall.use0 (c11 (q1 K i u) N 5 (by rw [hq]; simp)) rfl ?_
      rw [hl]
      have hU : inT (min (N + 5) 1099511627776) := ⟨by omega, by omega⟩
      generalize hUe : min (N + 5) (1099511627776 : Int) = U at hU ⊢
      conv => whnf
      refine aIf_bne (fun h => absurd rfl h) (fun _ => ?_)
      conv => whnf
      refine aIf_bne (fun h => absurd rfl h) (fun _ => ?_)
      conv => whnf
      refine aIf_bne (fun h => absurd w1.symm h) (fun _ => ?_)
      conv => whnf
      refine aIf_bne (fun h => absurd w1.symm h) (fun _ => ?_)
      conv => whnf
      refine ACall.use [] (c23 ([J1 K 2 ((i : Int) + 1) ((i : Int) + 1) U], 1, (i : Int) + 1) 1 ((i : Int) + 1) N false (by simp)) rfl trivial (by repeat' (first | exact trivial | exact rfl | exact .inl rfl | (exact .inr rfl) | refine And.intro ?_ ?_)) ?_
      rw [fail1 hK ⟨by omega, by omega⟩ hU hN]
      conv => whnf
      refine aIf_bne (fun h => absurd rfl h) (fun _ => ?_)
      conv => whnf
      refine aIf_bne (fun h => absurd rfl h) (fun _ => ?_)
      conv => whnf
      by_cases h9 : i = 9
      · have hf : failG false N (J1 K 2 ((i : Int) + 1) ((i : Int) + 1) U) = J1 K 5 ((i : Int) + 1) ((i : Int) + 1) U := by
          rw [failG, if_pos (.inr (show (i : Int) + 1 = 10 by omega))]; rfl
        rw [hf]
        have he : elt tJob [J1 K 5 ((i : Int) + 1) ((i : Int) + 1) U] (Int.toNat 0) = J1 K 5 ((i : Int) + 1) ((i : Int) + 1) U := elt1
        refine And.intro (by omega) (And.intro (show (0 : Int) < 1 by decide) ?_)
        rw [he]
        conv => whnf
        repeat (refine jn_go ?_; conv => whnf)
        first | refine aIf_dec (fun h10 => ?_) (fun h10 => ?_) | refine aIf_beq (fun h10 => ?_) (fun h10 => ?_) | refine aIf_bne (fun h10 => ?_) (fun h10 => ?_) | refine aIf_not (fun h10 => ?_) (fun h10 => ?_) | refine aIf_mk (fun h10 => ?_) (fun h10 => ?_)
        · exact absurd h10 (by show ¬ (i : Int) < 9; omega)
        · conv => whnf
          repeat (refine jn_go ?_; conv => whnf)
          refine And.intro (by omega) (And.intro (show (0 : Int) < 1 by decide) ?_)
          rw [he]
          conv => whnf
          repeat (refine jn_go ?_; conv => whnf)
          refine aIf_bne (fun h => absurd rfl h) (fun _ => ?_)
          conv => whnf
          repeat (refine jn_go ?_; conv => whnf)
          refine ⟨⟨i + 1, N, U, last⟩, [], [.old 0], ⟨by show i + 1 ≤ 10; omega, x2, by show N ≤ 1000000 + 60 * ((i + 1 : Nat) : Int); omega, hU, fun h => absurd h (by show ¬ i + 1 < 10; omega), fun h => absurd h (by show ¬ i + 1 < 10; omega)⟩, (show 10 - (i + 1) < 10 - i by omega), ?_⟩
          have hq2 : q1 K (i + 1) U = ([J1 K 5 ((i : Int) + 1) ((i : Int) + 1) U], 1, (i : Int) + 1) := by rw [q1, if_pos (by omega)]; rfl
          repeat' (first | exact trivial | exact rfl | exact .inl rfl | (exact .inr rfl) | refine And.intro ?_ ?_)
          · exact congrArg (fun q : Queue => q.1) hq2.symm
          · exact w1
      · have hw := waitN_in i
        have hf : failG false N (J1 K 2 ((i : Int) + 1) ((i : Int) + 1) U) = J1 K 1 ((i : Int) + 1) ((i : Int) + 1) (N + waitN i) := by
          rw [failG, if_neg (by rintro (h | h); · cases h
                                · have h' : (i : Int) + 1 = 10 := h
                                  omega)]
          have : waitI (J1 K 2 ((i : Int) + 1) ((i : Int) + 1) U).2.2.2.2.1 = waitN i := by
            show waitN (((i : Int) + 1 - 1).toNat) = waitN i
            congr 1; omega
          rw [this, show min (N + waitN i) (1099511627776 : Int) = N + waitN i by omega]
          rfl
        rw [hf]
        have he : elt tJob [J1 K 1 ((i : Int) + 1) ((i : Int) + 1) (N + waitN i)] (Int.toNat 0) = J1 K 1 ((i : Int) + 1) ((i : Int) + 1) (N + waitN i) := elt1
        refine And.intro (by omega) (And.intro (show (0 : Int) < 1 by decide) ?_)
        rw [he]
        have w3 : IntKind.i64.wrap (N + waitN i - N) = waitN i := i64_at (by omega) (by omega)
        conv => whnf
        repeat (refine jn_go ?_; conv => whnf)
        first | refine aIf_dec (fun h10 => ?_) (fun h10 => ?_) | refine aIf_beq (fun h10 => ?_) (fun h10 => ?_) | refine aIf_bne (fun h10 => ?_) (fun h10 => ?_) | refine aIf_not (fun h10 => ?_) (fun h10 => ?_) | refine aIf_mk (fun h10 => ?_) (fun h10 => ?_)
        · conv => whnf
          repeat (refine jn_go ?_; conv => whnf)
          refine And.intro (by omega) (And.intro (show (0 : Int) < 1 by decide) ?_)
          rw [he]
          conv => whnf
          repeat (refine jn_go ?_; conv => whnf)
          refine aIf_bne (fun h => absurd rfl h) (fun _ => ?_)
          conv => whnf
          repeat (refine jn_go ?_; conv => whnf)
          have hx6 := x6 hi
          first | refine aIf_dec (fun h11 => ?_) (fun h11 => ?_) | refine aIf_beq (fun h11 => ?_) (fun h11 => ?_) | refine aIf_bne (fun h11 => ?_) (fun h11 => ?_) | refine aIf_not (fun h11 => ?_) (fun h11 => ?_) | refine aIf_mk (fun h11 => ?_) (fun h11 => ?_)
          · have h11' : IntKind.i64.wrap (N + waitN i - N) < last := h11
            rw [w3] at h11'
            exact absurd hx6 (by omega)
          · conv => whnf
            repeat (refine jn_go ?_; conv => whnf)
            first | refine aIf_dec (fun h12 => ?_) (fun h12 => ?_) | refine aIf_beq (fun h12 => ?_) (fun h12 => ?_) | refine aIf_bne (fun h12 => ?_) (fun h12 => ?_) | refine aIf_not (fun h12 => ?_) (fun h12 => ?_) | refine aIf_mk (fun h12 => ?_) (fun h12 => ?_)
            · have h12' : IntKind.i64.wrap (N + waitN i - N) > 60 := h12
              rw [w3] at h12'
              exact absurd h12' (by omega)
            · conv => whnf
              repeat (refine jn_go ?_; conv => whnf)
              first | refine aIf_dec (fun h13 => ?_) (fun h13 => ?_) | refine aIf_beq (fun h13 => ?_) (fun h13 => ?_) | refine aIf_bne (fun h13 => ?_) (fun h13 => ?_) | refine aIf_not (fun h13 => ?_) (fun h13 => ?_) | refine aIf_mk (fun h13 => ?_) (fun h13 => ?_)
              · conv => whnf
                repeat (refine jn_go ?_; conv => whnf)
                have i0 : i = 0 := by
                  have h13' : (i : Int) = 0 := h13
                  omega
                refine aIf_bne (fun h => absurd (show IntKind.i64.wrap (N + waitN i - N) = 2 by rw [w3, i0]; rfl) h) (fun _ => ?_)
                conv => whnf
                repeat (refine jn_go ?_; conv => whnf)
                have hw1 : IntKind.i64.wrap (N + IntKind.i64.wrap (N + waitN i - N)) = N + waitN i := by rw [w3]; exact i64_at rfl (by omega)
                have hw2 : IntKind.i64.wrap (IntKind.i64.wrap (N + IntKind.i64.wrap (N + waitN i - N)) - 1) = N + waitN i - 1 := by rw [hw1]; exact i64_at rfl (by omega)
                refine ACall.use [] (c11 ([J1 K 1 ((i : Int) + 1) ((i : Int) + 1) (N + waitN i)], 1, (i : Int) + 1) (N + waitN i - 1) 5 (by simp)) rfl trivial (by (repeat' (first | exact trivial | exact rfl | exact .inl rfl | refine And.intro ?_ ?_)); exact hw2) ?_
                rw [lease1_none hK (by decide) ⟨by omega, by omega⟩ ⟨by omega, by omega⟩ ⟨by omega, by omega⟩ (rdy_late (by omega))]
                conv => whnf
                repeat (refine jn_go ?_; conv => whnf)
                refine aIf_bne (fun h => absurd rfl h) (fun _ => ?_)
                conv => whnf
                repeat (refine jn_go ?_; conv => whnf)
                refine ⟨⟨i + 1, N + waitN i, N + waitN i, waitN i⟩, [], [.old 0], ⟨by show i + 1 ≤ 10; omega, by show 0 ≤ N + waitN i; omega, by show N + waitN i ≤ 1000000 + 60 * ((i + 1 : Nat) : Int); omega, ⟨by show 0 ≤ N + waitN i; omega, by show N + waitN i ≤ _; omega⟩, fun _ => Int.le_refl _, fun _ => wait_mono i⟩, (show 10 - (i + 1) < 10 - i by omega), ?_⟩
                have hq2 : q1 K (i + 1) (N + waitN i) = ([J1 K 1 ((i : Int) + 1) ((i : Int) + 1) (N + waitN i)], 1, (i : Int) + 1) := by rw [q1, if_neg (by omega)]; rfl
                repeat' (first | exact trivial | exact rfl | exact .inl rfl | (exact .inr rfl) | refine And.intro ?_ ?_)
                · exact congrArg (fun q : Queue => q.1) hq2.symm
                · exact hw1
                · exact w3
                · exact w1
              · conv => whnf
                repeat (refine jn_go ?_; conv => whnf)
                have hw1 : IntKind.i64.wrap (N + IntKind.i64.wrap (N + waitN i - N)) = N + waitN i := by rw [w3]; exact i64_at rfl (by omega)
                have hw2 : IntKind.i64.wrap (IntKind.i64.wrap (N + IntKind.i64.wrap (N + waitN i - N)) - 1) = N + waitN i - 1 := by rw [hw1]; exact i64_at rfl (by omega)
                refine ACall.use [] (c11 ([J1 K 1 ((i : Int) + 1) ((i : Int) + 1) (N + waitN i)], 1, (i : Int) + 1) (N + waitN i - 1) 5 (by simp)) rfl trivial (by (repeat' (first | exact trivial | exact rfl | exact .inl rfl | refine And.intro ?_ ?_)); exact hw2) ?_
                rw [lease1_none hK (by decide) ⟨by omega, by omega⟩ ⟨by omega, by omega⟩ ⟨by omega, by omega⟩ (rdy_late (by omega))]
                conv => whnf
                repeat (refine jn_go ?_; conv => whnf)
                refine aIf_bne (fun h => absurd rfl h) (fun _ => ?_)
                conv => whnf
                repeat (refine jn_go ?_; conv => whnf)
                refine ⟨⟨i + 1, N + waitN i, N + waitN i, waitN i⟩, [], [.old 0], ⟨by show i + 1 ≤ 10; omega, by show 0 ≤ N + waitN i; omega, by show N + waitN i ≤ 1000000 + 60 * ((i + 1 : Nat) : Int); omega, ⟨by show 0 ≤ N + waitN i; omega, by show N + waitN i ≤ _; omega⟩, fun _ => Int.le_refl _, fun _ => wait_mono i⟩, (show 10 - (i + 1) < 10 - i by omega), ?_⟩
                have hq2 : q1 K (i + 1) (N + waitN i) = ([J1 K 1 ((i : Int) + 1) ((i : Int) + 1) (N + waitN i)], 1, (i : Int) + 1) := by rw [q1, if_neg (by omega)]; rfl
                repeat' (first | exact trivial | exact rfl | exact .inl rfl | (exact .inr rfl) | refine And.intro ?_ ?_)
                · exact congrArg (fun q : Queue => q.1) hq2.symm
                · exact hw1
                · exact w3
                · exact w1
        · exact absurd h10 (by show ¬ ¬ (i : Int) < 9; omega)
    · have hi : i = 10 := by
        have h' : ¬ (i : Int) < 10 := h
        omega
      subst hi
      have hq : q1 K 10 u = ([J1 K 5 10 10 u], 1, 10) := rfl
      have w1 : IntKind.i64.wrap (N + 1000) = N + 1000 := i64_at rfl (by omega)
      conv => whnf
      refine ACall.use [] (c11 ([J1 K 5 10 10 u], 1, 10) (N + 1000) 5 (by simp)) rfl trivial (by (repeat' (first | exact trivial | exact rfl | exact .inl rfl | refine And.intro ?_ ?_)); exact w1) ?_
      rw [lease1_none hK (by decide) (by decide) x4 ⟨by omega, by omega⟩ rdy_dead]
      conv => whnf
      refine ACall.use0 (c24 ([J1 K 5 10 10 u], 1, 10) 1 (by simp)) rfl ?_
      rw [again1 hK (by decide) x4]
      conv => whnf
      refine ACall.use0 (c11 ([J1 K 1 0 0 0], 1, 10) N 5 (by simp)) rfl ?_
      rw [lease1b hK (by decide) ⟨x2, by omega⟩]
      conv => whnf
      refine ACall.use0 (c12) rfl ?_
      conv => whnf
      refine aIf_mk (fun _ => ?_) (fun h => absurd h (by simp))
      repeat' ((conv => whnf); refine aIf_beq (fun _ => ?_) (fun h => absurd rfl h))
      conv => whnf
      refine ⟨[], _, _, ?_, rfl, rfl⟩
      repeat' (first | exact trivial | exact rfl | exact .inl rfl | (exact .inr rfl) | refine And.intro ?_ ?_)
end Go.Proofs.Try
