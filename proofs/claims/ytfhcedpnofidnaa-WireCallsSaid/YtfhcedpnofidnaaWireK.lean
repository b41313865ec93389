import Derived.Test.YtfhcedpnofidnaaWireJ
namespace Go.Proofs.Try
open Go.AM
theorem sumOk_le {n m b b' : Nat} (h : n ≤ m) (hb : b' = b) (h1 : m * b ≤ 140737488355328) (h2 : m ≤ 140737488355328) : sumOk n b' := by
  subst hb
  exact ⟨Nat.le_trans (Nat.mul_le_mul_right _ h) h1, Nat.le_trans h h2⟩
abbrev sA (N : Net) (to place : Int) (B : Str) : Slots := [(1, .int .i64 to), (2, .int .i64 place), (4, .str B), (5, .ptr 0 0), (10, .f), (11, .ptr 1 0), (12, .int .i64 (sendN N to B).2.1), (13, .int .i64 (sendN N to B).2.2), (14, .ptr 2 0), (15, .ptr 3 0),
  (16, .int .i64 (thereC N place)), (17, .ptr 4 0), (18, .int .i64 (twiceN N place).2), (19, .ptr 5 0), (20, .int .i64 (thereC N place)), (24, .ptr 6 0), (25, .int .i64 1)]
abbrev hA (N : Net) (to place : Int) (B : Str) : Heap := [.var [.sl tMsg N.1 false, .int .i64 N.2.1, .int .i64 N.2.2], .var [.sl tMsg (sendN N to B).1.1 false, .int .i64 (sendN N to B).1.2.1, .int .i64 (sendN N to B).1.2.2],
  .var [.sl tMsg (takeN N place).1 false, .int .i64 (takeN N place).2.1, .int .i64 (takeN N place).2.2], .var [.int .i64 (takeM N place).1, .int .i64 (takeM N place).2.1, .str (takeM N place).2.2.1, .int .i64 (takeM N place).2.2.2],
  .var [.sl tMsg (twiceN N place).1.1 false, .int .i64 (twiceN N place).1.2.1, .int .i64 (twiceN N place).1.2.2], .var [.sl tMsg (takeN N place).1 false, .int .i64 (takeN N place).2.1, .int .i64 (takeN N place).2.2],
  .var [.sl tMsg [] true, .int .i64 0, .int .i64 0]]
abbrev sB (N : Net) (to place ticks : Int) (B : Str) : Slots := (3, .int .i64 ticks) :: (21, .sl (.int .i64) (lateFrom N.2.2 ticks 0 N.1) false) :: (22, .ptr 7 0) :: (23, .int .i64 0) :: (26, .ptr 8 0) :: sA N to place B
abbrev hB (N : Net) (to place ticks : Int) (B : Str) : Heap := hA N to place B ++ [.var [.sl tMsg N.1 false, .int .i64 N.2.1, .int .i64 (N.2.2 + min ticks (1099511627776 - N.2.2))], .var [.sl tMsg N.1 false, .int .i64 N.2.1, .int .i64 (N.2.2 + min ticks (1099511627776 - N.2.2))]]

set_option maxRecDepth 100000 in
set_option maxHeartbeats 8000000 in
theorem c6 (n : Net) (to place ticks : Int) (body : Str) (hl : okNet n) (ht : -9223372036854775808 ≤ ticks ∧ ticks ≤ 9223372036854775807) (hb : body.length ≤ 9223372036854775807) :
    ACall E 6 [netV n, .int .i64 to, .int .i64 place, .int .i64 ticks, .str body] [] (fun r h' => r = .ret (.bool true) ∧ h' = []) := by
  refine ACall.bodyJ envOK func6 rfl rfl rfl ?_
  conv => whnf
  refine ACall.use0 (c13 n hl) rfl ?_
  conv => whnf
  generalize hN : fewN n = N
  have hN1 : N.1.length ≤ 34 := hN ▸ fewN_ok n
  have hNo : okNet N := hN ▸ fewN_okNet n
  repeat' (refine And.intro ?_ ?_; (first | omega | exact rfl | exact And.intro (by omega) (by omega) | exact Or.inr Nat.zero_lt_one))
  conv => whnf
  have e1 : (List.drop (Int.toNat 0) (List.take (min (body.length : Int) 4100).toNat body)) = body.take 4100 := take_min (k := 4100)
  rw [e1]
  have hBl : (body.take 4100).length ≤ 4100 := by simp; omega
  generalize body.take 4100 = B at hBl ⊢
  conv => whnf
  refine ACall.use0 (c7 N to B hNo (by omega)) rfl ?_
  conv => whnf
  refine ACall.use0 (c8 N place hNo) rfl ?_
  conv => whnf
  refine ACall.use0 (c9 N place hNo) rfl ?_
  conv => whnf
  refine ACall.use0 (c10 N place hNo) rfl ?_
  conv => whnf
  refine ACall.use0 (c17 N ticks hNo ht) rfl ?_
  conv => whnf
  refine ACall.use0 (c15 N ticks hNo ht) rfl ?_
  conv => whnf
  refine ⟨_, _, _, ICall.use0 (c12' N hNo) rfl, ?_⟩
  conv => whnf
  refine ⟨_, _, _, ICall.use0 (c14 N hNo) rfl, ?_⟩
  conv => whnf
  refine aIf_mk (fun h => absurd h (by cases goodNet N <;> simp)) (fun _ => ?_)
  conv => whnf
  refine ⟨_, _, _, ICall.use0 (c11) rfl, ?_⟩
  conv => whnf
  refine aIf_mk (fun h => absurd h (by cases goodNet N <;> simp)) (fun _ => ?_)
  conv => whnf
  repeat (refine jn_go ?_; conv => whnf)
  refine ACall.use0 (c14 N hNo) rfl ?_
  conv => whnf
  first | refine aIf_dec (fun hg => ?_) (fun hg => ?_) | refine aIf_beq (fun hg => ?_) (fun hg => ?_) | refine aIf_bne (fun hg => ?_) (fun hg => ?_) | refine aIf_not (fun hg => ?_) (fun hg => ?_) | refine aIf_mk (fun hg => ?_) (fun hg => ?_)
  · conv => whnf
    repeat (refine jn_go ?_; conv => whnf)
    have s1 : sendN N to B = (([], 0, 0), 0, 1) := by simp [sendN, hg]
    have s2 : thereC N place = 1 := by simp [thereC, hg]
    have s3 : takeN N place = ([], 0, 0) := by simp [takeN, s2]
    have s4 : takeM N place = (0, 0, [], 0) := by simp [takeM, s2]
    have s5 : twiceN N place = (([], 0, 0), 1) := by simp [twiceN, s2]
    have s6 : lateNet N ticks = [] := by simp [lateNet, hg]
    have s7 : passNet N ticks = (([], 0, 0), 1) := by simp [passNet, hg]
    rw [s1, s2, s3, s4, s5, s6, s7]
    repeat' ((conv => whnf); refine aIf_beq (fun _ => ?_) (fun h => absurd rfl h))
    conv => whnf
    refine aIf_mk (fun _ => ?_) (fun h => absurd h (by decide))
    conv => whnf
    refine aIf_beq (fun _ => ?_) (fun h => absurd rfl h)
    conv => whnf
    refine ACall.use [] (c16 ([], 0, 0) ([], 0, 0) (by simp [okNet])) rfl trivial (by repeat' (first | exact trivial | exact rfl | exact .inl rfl | (exact .inr rfl) | refine And.intro ?_ ?_)) ?_
    rw [decide_eq_true (rfl : (([], 0, 0) : Net) = ([], 0, 0))]
    conv => whnf
    refine aIf_mk (fun _ => ?_) (fun h => absurd h (by simp))
    conv => whnf
    refine ACall.use [] (c16 ([], 0, 0) ([], 0, 0) (by simp [okNet])) rfl trivial (by repeat' (first | exact trivial | exact rfl | exact .inl rfl | (exact .inr rfl) | refine And.intro ?_ ?_)) ?_
    rw [decide_eq_true (rfl : (([], 0, 0) : Net) = ([], 0, 0))]
    conv => whnf
    refine aIf_mk (fun _ => ?_) (fun h => absurd h (by simp))
    conv => whnf
    refine ACall.use [] (c16 ([], 0, 0) ([], 0, 0) (by simp [okNet])) rfl trivial (by repeat' (first | exact trivial | exact rfl | exact .inl rfl | (exact .inr rfl) | refine And.intro ?_ ?_)) ?_
    rw [decide_eq_true (rfl : (([], 0, 0) : Net) = ([], 0, 0))]
    conv => whnf
    refine aIf_mk (fun _ => ?_) (fun h => absurd h (by simp))
    conv => whnf
    refine ACall.use [] (c16 ([], 0, 0) ([], 0, 0) (by simp [okNet])) rfl trivial (by repeat' (first | exact trivial | exact rfl | exact .inl rfl | (exact .inr rfl) | refine And.intro ?_ ?_)) ?_
    rw [decide_eq_true (rfl : (([], 0, 0) : Net) = ([], 0, 0))]
    conv => whnf
    refine aIf_mk (fun _ => ?_) (fun h => absurd h (by simp))
    conv => whnf
    refine ACall.use [] (c16 ([], 0, 0) ([], 0, 0) (by simp [okNet])) rfl trivial (by repeat' (first | exact trivial | exact rfl | exact .inl rfl | (exact .inr rfl) | refine And.intro ?_ ?_)) ?_
    rw [decide_eq_true (rfl : (([], 0, 0) : Net) = ([], 0, 0))]
    conv => whnf
    refine ⟨[], _, _, ?_, rfl, rfl⟩
    repeat' (first | exact trivial | exact rfl | exact .inl rfl | (exact .inr rfl) | refine And.intro ?_ ?_)
  · conv => whnf
    apply share
    · intro tail
      first | refine aIf_dec (fun h1 => ?_) (fun h1 => ?_) | refine aIf_beq (fun h1 => ?_) (fun h1 => ?_) | refine aIf_bne (fun h1 => ?_) (fun h1 => ?_) | refine aIf_not (fun h1 => ?_) (fun h1 => ?_) | refine aIf_mk (fun h1 => ?_) (fun h1 => ?_)
      · have s6 : lateNet N ticks = [] := by simp [lateNet, h1]
        have s7 : passNet N ticks = (([], 0, 0), 1) := by simp [passNet, h1]
        rw [s6, s7]
        conv => whnf
        repeat (refine jn_go ?_; conv => whnf)
        refine aIf_bne (fun h => absurd rfl h) (fun _ => ?_)
        conv => whnf
        repeat (refine jn_go ?_; conv => whnf)
        refine aIf_bne (fun h => absurd rfl h) (fun _ => ?_)
        conv => whnf
        repeat (refine jn_go ?_; conv => whnf)
        refine ACall.use [] (c16 ([], 0, 0) ([], 0, 0) (by simp [okNet])) rfl trivial (by repeat' (first | exact trivial | exact rfl | exact .inl rfl | (exact .inr rfl) | refine And.intro ?_ ?_)) ?_
        rw [decide_eq_true (rfl : (([], 0, 0) : Net) = ([], 0, 0))]
        conv => whnf
        refine aIf_not (fun h => absurd h (by simp)) (fun _ => ?_)
        conv => whnf
        refine jn_at [] [.old 0, .old 1, .old 2, .old 3, .old 4, .old 5, .old 7] (sA N to place B) (hA N to place B) ?_ tail.out
        repeat' (first | exact trivial | exact rfl | exact .inl rfl | (exact .inr rfl) | refine And.intro ?_ ?_)
      · obtain ⟨g1, g2, g3, g4, g5, g6⟩ := (goodNet_iff N).1 hg
        have w1 : IntKind.i64.wrap (1099511627776 - N.2.2) = 1099511627776 - N.2.2 := i64_at rfl (by omega)
        have s6 : lateNet N ticks = lateFrom N.2.2 ticks 0 N.1 := lateN_good hg (by omega)
        have s7 : passNet N ticks = ((N.1, N.2.1, N.2.2 + min ticks (1099511627776 - N.2.2)), 0) := passN_good hg (by omega)
        rw [s6, s7]
        conv => whnf
        rw [w1]
        apply share
        · intro tail2
          first | refine aIf_dec (fun h2 => ?_) (fun h2 => ?_) | refine aIf_beq (fun h2 => ?_) (fun h2 => ?_) | refine aIf_bne (fun h2 => ?_) (fun h2 => ?_) | refine aIf_not (fun h2 => ?_) (fun h2 => ?_) | refine aIf_mk (fun h2 => ?_) (fun h2 => ?_)
          · have w2 : IntKind.i64.wrap (N.2.2 + ticks) = N.2.2 + min ticks (1099511627776 - N.2.2) := i64_at (by omega) (by omega)
            conv => whnf
            rw [w2]
            refine jn_at [] [.old 0, .old 1, .old 2, .old 3, .old 4, .old 5, .old 7, .old 6, .old 8] (sB N to place ticks B) (hB N to place ticks B) ?_ tail2.out
            repeat' (first | exact trivial | exact rfl | exact .inl rfl | (exact .inr rfl) | refine And.intro ?_ ?_)
          · conv => whnf
            refine jn_at [] [.old 0, .old 1, .old 2, .old 3, .old 4, .old 5, .old 7, .old 6, .old 8] _ _ ?_ tail2.out
            repeat' (first | exact trivial | exact rfl | exact .inl rfl | (exact .inr rfl) | refine And.intro ?_ ?_)
            show (1099511627776 : Int) = N.2.2 + min ticks (1099511627776 - N.2.2)
            omega
        · conv => whnf
          refine ⟨Nat × List Int, ⟨fun x => x.1 ≤ N.1.length ∧ x.2.length ≤ x.1 ∧ lateFrom N.2.2 ticks 0 N.1 = x.2 ++ lateFrom N.2.2 ticks x.1 (N.1.drop x.1),
            fun x => ((27, .int .i64 (x.2.length : Int)) :: (181, .sl tMsg N.1 false) :: (182, .int .i64 (N.1.length : Int)) :: (183, .int .i64 (x.1 : Int)) :: sB N to place ticks B, hB N to place ticks B), fun x => N.1.length - x.1⟩,
            (0, []), [], [.old 0, .old 1, .old 2, .old 3, .old 4, .old 5, .old 6, .old 7, .old 8], ⟨Nat.zero_le _, Nat.le_refl _, rfl⟩, ?_, fun x hx => ?_⟩
          · repeat' (first | exact trivial | exact rfl | exact .inl rfl | (exact .inr rfl) | refine And.intro ?_ ?_)
          · obtain ⟨hx1, hx2, hx3⟩ : x.1 ≤ N.1.length ∧ x.2.length ≤ x.1 ∧ lateFrom N.2.2 ticks 0 N.1 = x.2 ++ lateFrom N.2.2 ticks x.1 (N.1.drop x.1) := hx
            conv => whnf
            first | refine aIf_dec (fun h3 => ?_) (fun h3 => ?_) | refine aIf_beq (fun h3 => ?_) (fun h3 => ?_) | refine aIf_bne (fun h3 => ?_) (fun h3 => ?_) | refine aIf_not (fun h3 => ?_) (fun h3 => ?_) | refine aIf_mk (fun h3 => ?_) (fun h3 => ?_)
            · conv => whnf
              repeat' (refine And.intro ?_ ?_; (first | omega | exact rfl | exact And.intro (by omega) (by omega) | exact Or.inr Nat.zero_lt_one))
              conv => whnf
              have e1 : ((x.1 : Int)).toNat = x.1 := by omega
              rw [e1]
              obtain ⟨b1, b2, b3, b4, b5, b6, b7⟩ := notBad_at (notBad g6 (i := x.1) (by omega))
              have hw : IntKind.i64.wrap (N.2.2 - ticks) = N.2.2 - ticks := i64_at rfl (by omega)
              rw [hw]
              have hd := lateFrom_drop (now := N.2.2) (t := ticks) (l := N.1) (i := x.1) (by omega)
              first | refine aIf_dec (fun h4 => ?_) (fun h4 => ?_) | refine aIf_beq (fun h4 => ?_) (fun h4 => ?_) | refine aIf_bne (fun h4 => ?_) (fun h4 => ?_) | refine aIf_not (fun h4 => ?_) (fun h4 => ?_) | refine aIf_mk (fun h4 => ?_) (fun h4 => ?_)
              · rw [if_pos (by omega)] at hd
                rw [hd] at hx3
                have hlen : x.2.length < (lateFrom N.2.2 ticks 0 N.1).length := by rw [hx3]; simp
                have hat : (elt (.int .i64) (lateFrom N.2.2 ticks 0 N.1) x.2.length : Int) = (x.1 : Int) := by
                  rw [eltG (t := .int .i64) hlen]
                  simp [hx3]
                conv => whnf
                first | refine aIf_dec (fun h5 => ?_) (fun h5 => ?_) | refine aIf_beq (fun h5 => ?_) (fun h5 => ?_) | refine aIf_bne (fun h5 => ?_) (fun h5 => ?_) | refine aIf_not (fun h5 => ?_) (fun h5 => ?_) | refine aIf_mk (fun h5 => ?_) (fun h5 => ?_)
                · have h5 : (x.2.length : Int) ≥ ((lateFrom N.2.2 ticks 0 N.1).length : Int) := h5
                  exact absurd hlen (by omega)
                · conv => whnf
                  refine And.intro (by omega) (And.intro (by omega) ?_)
                  conv => whnf
                  have e5 : ((x.2.length : Int)).toNat = x.2.length := by omega
                  rw [e5, hat]
                  refine aIf_bne (fun h => absurd rfl h) (fun _ => ?_)
                  conv => whnf
                  repeat (refine jn_go ?_; conv => whnf)
                  have w5 : IntKind.i64.wrap ((x.2.length : Int) + 1) = ((x.2.length + 1 : Nat) : Int) := i64_at (by omega) (by omega)
                  rw [w5]
                  refine ⟨(x.1 + 1, x.2 ++ [(x.1 : Int)]), [], [.old 0, .old 1, .old 2, .old 3, .old 4, .old 5, .old 6, .old 7, .old 8], ⟨?_, ?_, ?_⟩, ?_, ?_⟩
                  · show x.1 + 1 ≤ N.1.length
                    omega
                  · show (x.2 ++ [(x.1 : Int)]).length ≤ x.1 + 1
                    simp; omega
                  · show lateFrom N.2.2 ticks 0 N.1 = (x.2 ++ [(x.1 : Int)]) ++ lateFrom N.2.2 ticks (x.1 + 1) (N.1.drop (x.1 + 1))
                    rw [hx3]
                    simp
                  · show N.1.length - (x.1 + 1) < N.1.length - x.1
                    omega
                  · repeat' (first | exact trivial | exact rfl | exact .inl rfl | (exact .inr rfl) | refine And.intro ?_ ?_)
                    · exact congrArg Int.ofNat (by simp)
                    · exact i64_at rfl (by omega)
              · rw [if_neg (by omega)] at hd
                rw [hd] at hx3
                conv => whnf
                repeat (refine jn_go ?_; conv => whnf)
                refine ⟨(x.1 + 1, x.2), [], [.old 0, .old 1, .old 2, .old 3, .old 4, .old 5, .old 6, .old 7, .old 8], ⟨?_, ?_, ?_⟩, ?_, ?_⟩
                · show x.1 + 1 ≤ N.1.length
                  omega
                · show x.2.length ≤ x.1 + 1
                  omega
                · exact hx3
                · show N.1.length - (x.1 + 1) < N.1.length - x.1
                  omega
                · repeat' (first | exact trivial | exact rfl | exact .inl rfl | (exact .inr rfl) | refine And.intro ?_ ?_)
                  exact i64_at rfl (by omega)
            · conv => whnf
              refine aIf_bne (fun h => absurd rfl h) (fun _ => ?_)
              conv => whnf
              refine ACall.use0 (c16 (N.1, N.2.1, N.2.2 + min ticks (1099511627776 - N.2.2)) (N.1, N.2.1, N.2.2 + min ticks (1099511627776 - N.2.2)) hNo) rfl ?_
              rw [decide_eq_true (rfl : ((N.1, N.2.1, N.2.2 + min ticks (1099511627776 - N.2.2)) : Net) = (N.1, N.2.1, N.2.2 + min ticks (1099511627776 - N.2.2)))]
              conv => whnf
              refine aIf_not (fun h => absurd h (by simp)) (fun _ => ?_)
              conv => whnf
              have hxe : lateFrom N.2.2 ticks 0 N.1 = x.2 := by
                rw [hx3, List.drop_eq_nil_of_le (by omega)]
                simp [lateFrom]
              refine aIf_bne (fun h => absurd (show (x.2.length : Int) = ((lateFrom N.2.2 ticks 0 N.1).length : Int) by rw [hxe]) h) (fun _ => ?_)
              conv => whnf
              refine jn_at [] [.old 0, .old 1, .old 2, .old 3, .old 4, .old 5, .old 6] _ _ ?_ tail.out
              repeat' (first | exact trivial | exact rfl | exact .inl rfl | (exact .inr rfl) | refine And.intro ?_ ?_)
    · apply share
      · intro tail
        conv => whnf
        first | refine aIf_dec (fun h1 => ?_) (fun h1 => ?_) | refine aIf_beq (fun h1 => ?_) (fun h1 => ?_) | refine aIf_bne (fun h1 => ?_) (fun h1 => ?_) | refine aIf_not (fun h1 => ?_) (fun h1 => ?_) | refine aIf_mk (fun h1 => ?_) (fun h1 => ?_)
        · have s1 : sendN N to B = (([], 0, 0), 0, 1) := by simp [sendN, h1]
          conv => whnf
          repeat (refine jn_go ?_; conv => whnf)
          refine aIf_bne (fun h => absurd (by rw [s1]) h) (fun _ => ?_)
          conv => whnf
          repeat (refine jn_go ?_; conv => whnf)
          refine aIf_bne (fun h => absurd (by rw [s1]) h) (fun _ => ?_)
          conv => whnf
          refine jn_at [] [.old 0, .old 1, .old 2, .old 3, .old 4, .old 5, .old 6] (sA N to place B) (hA N to place B) ?_ tail.out
          repeat' (first | exact trivial | exact rfl | exact .inl rfl | (exact .inr rfl) | refine And.intro ?_ ?_)
        · conv => whnf
          first | refine aIf_dec (fun h2 => ?_) (fun h2 => ?_) | refine aIf_beq (fun h2 => ?_) (fun h2 => ?_) | refine aIf_bne (fun h2 => ?_) (fun h2 => ?_) | refine aIf_not (fun h2 => ?_) (fun h2 => ?_) | refine aIf_mk (fun h2 => ?_) (fun h2 => ?_)
          · have s1 : sendN N to B = (([], 0, 0), 0, 1) := by simp [sendN]; omega
            conv => whnf
            repeat (refine jn_go ?_; conv => whnf)
            refine aIf_bne (fun h => absurd (by rw [s1]) h) (fun _ => ?_)
            conv => whnf
            repeat (refine jn_go ?_; conv => whnf)
            refine aIf_bne (fun h => absurd (by rw [s1]) h) (fun _ => ?_)
            conv => whnf
            refine jn_at [] [.old 0, .old 1, .old 2, .old 3, .old 4, .old 5, .old 6] (sA N to place B) (hA N to place B) ?_ tail.out
            repeat' (first | exact trivial | exact rfl | exact .inl rfl | (exact .inr rfl) | refine And.intro ?_ ?_)
          · conv => whnf
            first | refine aIf_dec (fun h3 => ?_) (fun h3 => ?_) | refine aIf_beq (fun h3 => ?_) (fun h3 => ?_) | refine aIf_bne (fun h3 => ?_) (fun h3 => ?_) | refine aIf_not (fun h3 => ?_) (fun h3 => ?_) | refine aIf_mk (fun h3 => ?_) (fun h3 => ?_)
            · have s1 : sendN N to B = (([], 0, 0), 0, 2) := by
                have h3' : B.length > 4096 := by omega
                rw [sendN, if_neg (by rw [hg]; simp; omega), if_pos h3']
              conv => whnf
              repeat (refine jn_go ?_; conv => whnf)
              refine aIf_bne (fun h => absurd (by rw [s1]) h) (fun _ => ?_)
              conv => whnf
              repeat (refine jn_go ?_; conv => whnf)
              refine aIf_bne (fun h => absurd (by rw [s1]) h) (fun _ => ?_)
              conv => whnf
              refine jn_at [] [.old 0, .old 1, .old 2, .old 3, .old 4, .old 5, .old 6] (sA N to place B) (hA N to place B) ?_ tail.out
              repeat' (first | exact trivial | exact rfl | exact .inl rfl | (exact .inr rfl) | refine And.intro ?_ ?_)
            · obtain ⟨g1, g2, g3, g4, g5, g6⟩ := (goodNet_iff N).1 hg
              have h3 : ¬ B.length > 4096 := by omega
              have n1 : ¬ (goodNet N = false ∨ to < 0 ∨ to ≥ 64) := by rw [hg]; simp; omega
              conv => whnf
              first | refine aIf_dec (fun h4 => ?_) (fun h4 => ?_) | refine aIf_beq (fun h4 => ?_) (fun h4 => ?_) | refine aIf_bne (fun h4 => ?_) (fun h4 => ?_) | refine aIf_not (fun h4 => ?_) (fun h4 => ?_) | refine aIf_mk (fun h4 => ?_) (fun h4 => ?_)
              · have s1 : sendN N to B = (([], 0, 0), 0, 13) := by
                  rw [sendN, if_neg n1, if_neg h3, if_pos (by omega)]
                conv => whnf
                repeat (refine jn_go ?_; conv => whnf)
                refine aIf_bne (fun h => absurd (by rw [s1]) h) (fun _ => ?_)
                conv => whnf
                repeat (refine jn_go ?_; conv => whnf)
                refine aIf_bne (fun h => absurd (by rw [s1]) h) (fun _ => ?_)
                conv => whnf
                refine jn_at [] [.old 0, .old 1, .old 2, .old 3, .old 4, .old 5, .old 6] (sA N to place B) (hA N to place B) ?_ tail.out
                repeat' (first | exact trivial | exact rfl | exact .inl rfl | (exact .inr rfl) | refine And.intro ?_ ?_)
              · conv => whnf
                first | refine aIf_dec (fun h5 => ?_) (fun h5 => ?_) | refine aIf_beq (fun h5 => ?_) (fun h5 => ?_) | refine aIf_bne (fun h5 => ?_) (fun h5 => ?_) | refine aIf_not (fun h5 => ?_) (fun h5 => ?_) | refine aIf_mk (fun h5 => ?_) (fun h5 => ?_)
                · have s1 : sendN N to B = (([], 0, 0), 0, 13) := by
                    rw [sendN, if_neg n1, if_neg h3, if_pos (by omega)]
                  conv => whnf
                  repeat (refine jn_go ?_; conv => whnf)
                  refine aIf_bne (fun h => absurd (by rw [s1]) h) (fun _ => ?_)
                  conv => whnf
                  repeat (refine jn_go ?_; conv => whnf)
                  refine aIf_bne (fun h => absurd (by rw [s1]) h) (fun _ => ?_)
                  conv => whnf
                  refine jn_at [] [.old 0, .old 1, .old 2, .old 3, .old 4, .old 5, .old 6] (sA N to place B) (hA N to place B) ?_ tail.out
                  repeat' (first | exact trivial | exact rfl | exact .inl rfl | (exact .inr rfl) | refine And.intro ?_ ?_)
                · have s1 : sendN N to B = ((N.1 ++ [(N.2.1 + 1, to, B, N.2.2)], N.2.1 + 1, N.2.2), N.2.1 + 1, 0) := by
                    rw [sendN, if_neg n1, if_neg h3, if_neg (by omega)]
                  have w1 : IntKind.i64.wrap (N.2.1 + 1) = N.2.1 + 1 := i64_at rfl (by omega)
                  conv => whnf
                  repeat (refine jn_go ?_; conv => whnf)
                  rw [w1]
                  refine And.intro (show sumOk (0 + N.1.length) 40 from ⟨by omega, by omega⟩) ?_
                  conv => whnf
                  repeat (refine jn_go ?_; conv => whnf)
                  refine And.intro (show sumOk (N.1.length + 1) 40 from ⟨by omega, by omega⟩) ?_
                  conv => whnf
                  repeat (refine jn_go ?_; conv => whnf)
                  refine aIf_bne (fun h => absurd (by rw [s1]) h) (fun _ => ?_)
                  conv => whnf
                  repeat (refine jn_go ?_; conv => whnf)
                  refine aIf_bne (fun h => absurd (by rw [s1]) h) (fun _ => ?_)
                  conv => whnf
                  repeat (refine jn_go ?_; conv => whnf)
                  have so : okNet (sendN N to B).1 := by rw [s1]; show (N.1 ++ [(N.2.1 + 1, to, B, N.2.2)]).length ≤ _; simp; omega
                  refine ACall.use [] (c16 (sendN N to B).1 (N.1 ++ [(N.2.1 + 1, to, B, N.2.2)], N.2.1 + 1, N.2.2) so) rfl trivial (by repeat' (first | exact trivial | exact rfl | exact .inl rfl | (exact .inr rfl) | refine And.intro ?_ ?_)) ?_
                  rw [show decide ((sendN N to B).1 = ((N.1 ++ [(N.2.1 + 1, to, B, N.2.2)], N.2.1 + 1, N.2.2) : Net)) = true from decide_eq_true (by rw [s1])]
                  conv => whnf
                  refine aIf_not (fun h => absurd h (by simp)) (fun _ => ?_)
                  conv => whnf
                  refine jn_at [] [.old 0, .old 1, .old 2, .old 3, .old 4, .old 5, .old 6] (sA N to place B) (hA N to place B) ?_ tail.out
                  repeat' (first | exact trivial | exact rfl | exact .inl rfl | (exact .inr rfl) | refine And.intro ?_ ?_)
      · conv => whnf
        repeat (refine jn_go ?_; conv => whnf)
        first | refine aIf_dec (fun h1 => ?_) (fun h1 => ?_) | refine aIf_beq (fun h1 => ?_) (fun h1 => ?_) | refine aIf_bne (fun h1 => ?_) (fun h1 => ?_) | refine aIf_not (fun h1 => ?_) (fun h1 => ?_) | refine aIf_mk (fun h1 => ?_) (fun h1 => ?_)
        · have t1 : thereC N place = 9 := by
            rw [thereC, if_pos hg, if_neg (by omega)]
          have t2 : takeM N place = (0, 0, [], 0) := by simp [takeM, t1]
          have t3 : (twiceN N place).2 = 9 := by simp [twiceN, t1]
          conv => whnf
          repeat (refine jn_go ?_; conv => whnf)
          refine aIf_beq (fun _ => ?_) (fun h => absurd t1 h)
          conv => whnf
          repeat (refine jn_go ?_; conv => whnf)
          refine aIf_beq (fun _ => ?_) (fun h => absurd t3 h)
          conv => whnf
          repeat (refine jn_go ?_; conv => whnf)
          refine aIf_beq (fun _ => ?_) (fun h => absurd t1 h)
          conv => whnf
          repeat (refine jn_go ?_; conv => whnf)
          refine ⟨[], _, _, ?_, rfl, rfl⟩
          repeat' (first | exact trivial | exact rfl | exact .inl rfl | (exact .inr rfl) | refine And.intro ?_ ?_)
          conv => whnf
          rw [t2]
          rfl
        · conv => whnf
          repeat (refine jn_go ?_; conv => whnf)
          first | refine aIf_dec (fun h2 => ?_) (fun h2 => ?_) | refine aIf_beq (fun h2 => ?_) (fun h2 => ?_) | refine aIf_bne (fun h2 => ?_) (fun h2 => ?_) | refine aIf_not (fun h2 => ?_) (fun h2 => ?_) | refine aIf_mk (fun h2 => ?_) (fun h2 => ?_)
          · have t1 : thereC N place = 9 := by
              rw [thereC, if_pos hg, if_neg (by omega)]
            have t2 : takeM N place = (0, 0, [], 0) := by simp [takeM, t1]
            have t3 : (twiceN N place).2 = 9 := by simp [twiceN, t1]
            conv => whnf
            repeat (refine jn_go ?_; conv => whnf)
            refine aIf_beq (fun _ => ?_) (fun h => absurd t1 h)
            conv => whnf
            repeat (refine jn_go ?_; conv => whnf)
            refine aIf_beq (fun _ => ?_) (fun h => absurd t3 h)
            conv => whnf
            repeat (refine jn_go ?_; conv => whnf)
            refine aIf_beq (fun _ => ?_) (fun h => absurd t1 h)
            conv => whnf
            repeat (refine jn_go ?_; conv => whnf)
            refine ⟨[], _, _, ?_, rfl, rfl⟩
            repeat' (first | exact trivial | exact rfl | exact .inl rfl | (exact .inr rfl) | refine And.intro ?_ ?_)
            conv => whnf
            rw [t2]
            rfl
          · have t1 : thereC N place = 0 := by
              rw [thereC, if_pos hg, if_pos (by omega)]
            obtain ⟨g1, g2, g3, g4, g5, g6⟩ := (goodNet_iff N).1 hg
            have t2 : takeM N place = elt tMsg N.1 place.toNat := by simp [takeM, t1]
            have t4 : takeN N place = (N.1.take place.toNat ++ N.1.drop (place.toNat + 1), N.2) := by simp [takeN, t1]
            conv => whnf
            repeat (refine jn_go ?_; conv => whnf)
            refine And.intro (by omega) (And.intro (by omega) ?_)
            conv => whnf
            repeat (refine jn_go ?_; conv => whnf)
            refine And.intro (by omega) (And.intro (by omega) (And.intro (by omega) ?_))
            conv => whnf
            repeat (refine jn_go ?_; conv => whnf)
            refine And.intro (show sumOk (0 + (N.1.take place.toNat).length) 40 from ⟨by simp; omega, by simp; omega⟩) ?_
            conv => whnf
            repeat (refine jn_go ?_; conv => whnf)
            have w1 : IntKind.i64.wrap (place + 1) = place + 1 := i64_at rfl (by omega)
            rw [w1]
            conv => whnf
            repeat (refine jn_go ?_; conv => whnf)
            refine And.intro (by omega) (And.intro (by omega) (And.intro (by omega) ?_))
            conv => whnf
            repeat (refine jn_go ?_; conv => whnf)
            have e3 : List.drop (place + 1).toNat (List.take ((N.1.length : Int)).toNat N.1) = N.1.drop (place.toNat + 1) := by
              rw [List.take_of_length_le (by omega)]
              congr 1
              omega
            rw [e3]
            refine And.intro (sumOk_le (m := 1000) (b := 40) (by dsimp only; simp; omega) rfl (by decide) (by decide)) ?_
            conv => whnf
            repeat (refine jn_go ?_; conv => whnf)
            refine And.intro (sumOk_le (m := 1000) (b := 40) (by dsimp only; simp; omega) rfl (by decide) (by decide)) ?_
            conv => whnf
            repeat (refine jn_go ?_; conv => whnf)
            refine And.intro (sumOk_le (m := 1000) (b := 40) (by dsimp only; simp; omega) rfl (by decide) (by decide)) ?_
            conv => whnf
            repeat (refine jn_go ?_; conv => whnf)
            refine aIf_bne (fun h => absurd t1 h) (fun _ => ?_)
            conv => whnf
            repeat (refine jn_go ?_; conv => whnf)
            refine aIf_bne (fun h => absurd t1 h) (fun _ => ?_)
            conv => whnf
            repeat (refine jn_go ?_; conv => whnf)
            refine aIf_mk (fun h => absurd h (by rw [t2]; simp)) (fun _ => ?_)
            conv => whnf
            repeat (refine jn_go ?_; conv => whnf)
            have to' : okNet (takeN N place) := by rw [t4]; show (N.1.take place.toNat ++ N.1.drop (place.toNat + 1)).length ≤ _; simp; omega
            have td : decide (takeN N place = ((N.1.take place.toNat ++ N.1.drop (place.toNat + 1), N.2.1, N.2.2) : Net)) = true := decide_eq_true (by rw [t4])
            refine ACall.use [] (c16 (takeN N place) (N.1.take place.toNat ++ N.1.drop (place.toNat + 1), N.2.1, N.2.2) to') rfl trivial (by repeat' (first | exact trivial | exact rfl | exact .inl rfl | (exact .inr rfl) | refine And.intro ?_ ?_)) ?_
            rw [td]
            conv => whnf
            repeat (refine jn_go ?_; conv => whnf)
            refine aIf_not (fun h => absurd h (by simp)) (fun _ => ?_)
            conv => whnf
            repeat (refine jn_go ?_; conv => whnf)
            refine ACall.use [] (c16 (takeN N place) (N.1.take place.toNat ++ N.1.drop (place.toNat + 1), N.2.1, N.2.2) to') rfl trivial (by repeat' (first | exact trivial | exact rfl | exact .inl rfl | (exact .inr rfl) | refine And.intro ?_ ?_)) ?_
            rw [td]
            conv => whnf
            repeat (refine jn_go ?_; conv => whnf)
            refine aIf_not (fun h => absurd h (by simp)) (fun _ => ?_)
            conv => whnf
            repeat (refine jn_go ?_; conv => whnf)
            first | refine aIf_dec (fun h3 => ?_) (fun h3 => ?_) | refine aIf_beq (fun h3 => ?_) (fun h3 => ?_) | refine aIf_bne (fun h3 => ?_) (fun h3 => ?_) | refine aIf_not (fun h3 => ?_) (fun h3 => ?_) | refine aIf_mk (fun h3 => ?_) (fun h3 => ?_)
            · have h3 : N.1.length = 32 := by omega
              have t5 : twiceN N place = (([], 0, 0), 13) := by simp [twiceN, t1, h3]
              conv => whnf
              repeat (refine jn_go ?_; conv => whnf)
              refine aIf_beq (fun _ => ?_) (fun h => absurd (by rw [t5]) h)
              conv => whnf
              repeat (refine jn_go ?_; conv => whnf)
              refine ACall.use [] (c16 (twiceN N place).1 ([], 0, 0) (by rw [t5]; simp [okNet])) rfl trivial (by repeat' (first | exact trivial | exact rfl | exact .inl rfl | (exact .inr rfl) | refine And.intro ?_ ?_)) ?_
              rw [show decide ((twiceN N place).1 = (([], 0, 0) : Net)) = true from decide_eq_true (by rw [t5])]
              conv => whnf
              repeat (refine jn_go ?_; conv => whnf)
              refine ⟨[], _, _, ?_, rfl, rfl⟩
              repeat' (first | exact trivial | exact rfl | exact .inl rfl | (exact .inr rfl) | refine And.intro ?_ ?_)
            · have h3 : ¬ N.1.length = 32 := by omega
              have t5 : twiceN N place = ((N.1 ++ [elt tMsg N.1 place.toNat], N.2), 0) := by simp [twiceN, t1, h3]
              conv => whnf
              repeat (refine jn_go ?_; conv => whnf)
              refine aIf_beq (fun _ => ?_) (fun h => absurd (by rw [t5]) h)
              conv => whnf
              repeat (refine jn_go ?_; conv => whnf)
              refine ACall.use [] (c16 (twiceN N place).1 (N.1 ++ [elt tMsg N.1 place.toNat], N.2.1, N.2.2) (by rw [t5]; show (N.1 ++ [elt tMsg N.1 place.toNat]).length ≤ _; simp; omega)) rfl trivial (by repeat' (first | exact trivial | exact rfl | exact .inl rfl | (exact .inr rfl) | refine And.intro ?_ ?_)) ?_
              rw [show decide ((twiceN N place).1 = ((N.1 ++ [elt tMsg N.1 place.toNat], N.2.1, N.2.2) : Net)) = true from decide_eq_true (by rw [t5])]
              conv => whnf
              repeat (refine jn_go ?_; conv => whnf)
              refine ⟨[], _, _, ?_, rfl, rfl⟩
              repeat' (first | exact trivial | exact rfl | exact .inl rfl | (exact .inr rfl) | refine And.intro ?_ ?_)
end Go.Proofs.Try
