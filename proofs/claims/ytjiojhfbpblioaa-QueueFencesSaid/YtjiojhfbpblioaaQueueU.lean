import Derived.Test.YtjiojhfbpblioaaQueueT
namespace Go.Proofs.Try
open Go.AM

abbrev tAct : Ty := .pair (.int .i64) (.pair .str (.pair (.int .i64) (.pair (.int .i64) (.pair (.int .i64) .bool))))
abbrev Act9 : Type := Int × Str × Int × Int × Int × Bool
structure FS where
  i : Nat
  now : Int
  q : Queue
def fsInv (l : List Act9) (x : FS) : Prop := x.i ≤ l.length ∧ x.i ≤ 50 ∧ goodQ x.q = true ∧ x.q.1.length ≤ x.i ∧ 0 ≤ x.now ∧ x.now ≤ 8 * x.i
abbrev fS (l : List Act9) (i : Nat) (N id token kind e : Int) : Slots := [(2, .f), (3, .ptr 0 0), (4, .int .i64 N), (7, .int .i64 id), (8, .int .i64 token), (9, .ptr 1 0), (10, .int .i64 e), (11, .int .i64 kind), (16, .sl tAct l false), (17, .int .i64 (l.length : Int)), (18, .int .i64 (i : Int))]
set_option maxRecDepth 100000 in
set_option maxHeartbeats 8000000 in
theorem c9 (l : List Act9) (_hl : l.length ≤ 9223372036854775807) (hin : ∀ a ∈ l, a.2.1.length ≤ 9223372036854775807) : ACall E 9 [.sl tAct l false] [] (fun r h' => r = .ret (.bool true) ∧ h' = []) := by
  refine ACall.bodyJ envOK func9 rfl rfl rfl ?_
  conv => whnf
  refine ⟨FS, ⟨fsInv l, fun x => ([(2, .f), (3, .ptr 0 0), (4, .int .i64 x.now), (16, .sl tAct l false), (17, .int .i64 (l.length : Int)), (18, .int .i64 (x.i : Int))], [qc x.q]), fun x => l.length - x.i⟩, ⟨0, 0, ([], 0, 0)⟩, [], [.old 0],
    ⟨Nat.zero_le _, Nat.zero_le _, rfl, Nat.le_refl _, Int.le_refl _, Int.le_refl _⟩, ?_, fun x hx => ?_⟩
  · repeat' (first | exact trivial | exact rfl | exact .inl rfl | (exact .inr rfl) | refine And.intro ?_ ?_)
  · obtain ⟨i, now, Q⟩ := x
    obtain ⟨x1, x2, x3, x4, x5, x6⟩ := hx
    simp only [] at x1 x2 x3 x4 x5 x6
    conv => whnf
    first | refine aIf_dec (fun h1 => ?_) (fun h1 => ?_) | refine aIf_beq (fun h1 => ?_) (fun h1 => ?_) | refine aIf_bne (fun h1 => ?_) (fun h1 => ?_) | refine aIf_not (fun h1 => ?_) (fun h1 => ?_) | refine aIf_mk (fun h1 => ?_) (fun h1 => ?_)
    · have hlt : i < l.length := by
        have h1' : (i : Int) < (l.length : Int) := h1
        omega
      obtain ⟨a, ha⟩ : ∃ a : Act9, elt tAct l i = a := ⟨_, rfl⟩
      have hak : a.2.1.length ≤ 9223372036854775807 := hin a (by rw [← ha, elt_eq (t := tAct) hlt]; exact List.getElem_mem hlt)
      conv => whnf
      refine And.intro (by omega) (And.intro (by omega) ?_)
      rw [show ((i : Int)).toNat = i from rfl, ha]
      conv => whnf
      first | refine aIf_dec (fun h2 => ?_) (fun h2 => ?_) | refine aIf_beq (fun h2 => ?_) (fun h2 => ?_) | refine aIf_bne (fun h2 => ?_) (fun h2 => ?_) | refine aIf_not (fun h2 => ?_) (fun h2 => ?_) | refine aIf_mk (fun h2 => ?_) (fun h2 => ?_)
      · conv => whnf
        refine jn_go ?_
        conv => whnf
        refine ACall.use0 (c12) rfl ?_
        conv => whnf
        refine ⟨[], _, _, ?_, rfl, rfl⟩
        repeat' (first | exact trivial | exact rfl | exact .inl rfl | (exact .inr rfl) | refine And.intro ?_ ?_)
      · have hi50 : i < 50 := by
          have h2' : ¬ (i : Int) ≥ 50 := h2
          omega
        conv => whnf
        have b1 := tm (a := a.2.2.2.2.1) (k := 9) (by omega)
        have b2 := modK_in (a := a.2.2.2.2.1) (k := 9) (by omega)
        have b3 : IntKind.i64.wrap (a.2.2.2.2.1.tmod 9 + 9) = a.2.2.2.2.1.tmod 9 + 9 := i64_at rfl (by omega)
        repeat' (refine And.intro ?_ ?_; (first | omega | exact rfl | exact And.intro (by omega) (by omega) | exact Or.inr Nat.zero_lt_one))
        conv => whnf
        rw [b3]
        repeat' (refine And.intro ?_ ?_; (first | omega | exact rfl | exact And.intro (by omega) (by omega) | exact Or.inr Nat.zero_lt_one))
        conv => whnf
        obtain ⟨by', hby⟩ : ∃ z, (a.2.2.2.2.1.tmod 9 + 9).tmod 9 = z := ⟨_, rfl⟩
        rw [hby] at b2 ⊢
        have b4 : IntKind.i64.wrap (now + by') = now + by' := i64_at rfl (by omega)
        rw [b4]
        have c1 := tm (a := a.2.2.1) (k := 6) (by omega)
        have c2 := modK_in (a := a.2.2.1) (k := 6) (by omega)
        have c3 : IntKind.i64.wrap (a.2.2.1.tmod 6 + 6) = a.2.2.1.tmod 6 + 6 := i64_at rfl (by omega)
        obtain ⟨id, hid⟩ : ∃ z, (a.2.2.1.tmod 6 + 6).tmod 6 = z := ⟨_, rfl⟩
        rw [hid] at c2
        repeat' (refine And.intro ?_ ?_; (first | omega | exact rfl | exact And.intro (by omega) (by omega) | exact Or.inr Nat.zero_lt_one))
        conv => whnf
        rw [c3]
        repeat' (refine And.intro ?_ ?_; (first | omega | exact rfl | exact And.intro (by omega) (by omega) | exact Or.inr Nat.zero_lt_one))
        conv => whnf
        rw [hid]
        have d1 := tm (a := a.2.2.2.1) (k := 8) (by omega)
        have d3 : IntKind.i64.wrap (a.2.2.2.1.tmod 8 + 8) = a.2.2.2.1.tmod 8 + 8 := i64_at rfl (by omega)
        obtain ⟨token, htok⟩ : ∃ z, (a.2.2.2.1.tmod 8 + 8).tmod 8 = z := ⟨_, rfl⟩
        repeat' (refine And.intro ?_ ?_; (first | omega | exact rfl | exact And.intro (by omega) (by omega) | exact Or.inr Nat.zero_lt_one))
        conv => whnf
        rw [d3]
        repeat' (refine And.intro ?_ ?_; (first | omega | exact rfl | exact And.intro (by omega) (by omega) | exact Or.inr Nat.zero_lt_one))
        conv => whnf
        rw [htok]
        have f1 := tm (a := a.1) (k := 8) (by omega)
        have f2 := modK_in (a := a.1) (k := 8) (by omega)
        have f3 : IntKind.i64.wrap (a.1.tmod 8 + 8) = a.1.tmod 8 + 8 := i64_at rfl (by omega)
        obtain ⟨kind, hkind⟩ : ∃ z, (a.1.tmod 8 + 8).tmod 8 = z := ⟨_, rfl⟩
        rw [hkind] at f2
        repeat' (refine And.intro ?_ ?_; (first | omega | exact rfl | exact And.intro (by omega) (by omega) | exact Or.inr Nat.zero_lt_one))
        conv => whnf
        rw [f3]
        repeat' (refine And.intro ?_ ?_; (first | omega | exact rfl | exact And.intro (by omega) (by omega) | exact Or.inr Nat.zero_lt_one))
        conv => whnf
        rw [hkind]
        have hQl : Q.1.length ≤ 9223372036854775807 := by omega
        apply share
        · intro tail
          first | refine aIf_dec (fun k0 => ?_) (fun k0 => ?_) | refine aIf_beq (fun k0 => ?_) (fun k0 => ?_) | refine aIf_bne (fun k0 => ?_) (fun k0 => ?_) | refine aIf_not (fun k0 => ?_) (fun k0 => ?_) | refine aIf_mk (fun k0 => ?_) (fun k0 => ?_)
          · conv => whnf
            repeat' (refine And.intro ?_ ?_; (first | omega | exact rfl | exact And.intro (by omega) (by omega) | exact Or.inr Nat.zero_lt_one))
            conv => whnf
            have e5 : List.drop (Int.toNat 0) (List.take (min (a.2.1.length : Int) 50).toNat a.2.1) = a.2.1.take 50 := take_min (k := 50)
            rw [e5]
            conv => whnf
            refine ⟨_, _, _, ICall.use0 (c19 Q (a.2.1.take 50) [98] hQl) rfl, ?_⟩
            conv => whnf
            refine jn_at [] [.old 0, .old 2] (fS l i (now + by') id token kind (opN Q kind id token (now + by') by' (a.2.1.take 50) a.2.2.2.2.2).2) [qc Q, qc (opN Q kind id token (now + by') by' (a.2.1.take 50) a.2.2.2.2.2).1] ?_ tail.out
            rw [show opN Q kind id token (now + by') by' (a.2.1.take 50) a.2.2.2.2.2 = ((addN Q (a.2.1.take 50) [98]).1, (addN Q (a.2.1.take 50) [98]).2.2) by simp [opN, *]]
            repeat' (first | exact trivial | exact rfl | exact .inl rfl | (exact .inr rfl) | refine And.intro ?_ ?_)
          · conv => whnf
            first | refine aIf_dec (fun k1 => ?_) (fun k1 => ?_) | refine aIf_beq (fun k1 => ?_) (fun k1 => ?_) | refine aIf_bne (fun k1 => ?_) (fun k1 => ?_) | refine aIf_not (fun k1 => ?_) (fun k1 => ?_) | refine aIf_mk (fun k1 => ?_) (fun k1 => ?_)
            · conv => whnf
              refine ACall.use0 (c11 Q (now + by') 5 hQl) rfl ?_
              conv => whnf
              refine jn_at [] [.old 0, .old 2] (fS l i (now + by') id token kind (opN Q kind id token (now + by') by' (a.2.1.take 50) a.2.2.2.2.2).2) [qc Q, qc (opN Q kind id token (now + by') by' (a.2.1.take 50) a.2.2.2.2.2).1] ?_ tail.out
              rw [show opN Q kind id token (now + by') by' (a.2.1.take 50) a.2.2.2.2.2 = ((leaseN Q (now + by') 5).1, (leaseN Q (now + by') 5).2.2) by simp [opN, *]]
              repeat' (first | exact trivial | exact rfl | exact .inl rfl | (exact .inr rfl) | refine And.intro ?_ ?_)
            · conv => whnf
              first | refine aIf_dec (fun k2 => ?_) (fun k2 => ?_) | refine aIf_beq (fun k2 => ?_) (fun k2 => ?_) | refine aIf_bne (fun k2 => ?_) (fun k2 => ?_) | refine aIf_not (fun k2 => ?_) (fun k2 => ?_) | refine aIf_mk (fun k2 => ?_) (fun k2 => ?_)
              · conv => whnf
                refine ACall.use0 (c16 Q id token (now + by') 5 hQl) rfl ?_
                conv => whnf
                refine jn_at [] [.old 0, .old 2] (fS l i (now + by') id token kind (opN Q kind id token (now + by') by' (a.2.1.take 50) a.2.2.2.2.2).2) [qc Q, qc (opN Q kind id token (now + by') by' (a.2.1.take 50) a.2.2.2.2.2).1] ?_ tail.out
                rw [show opN Q kind id token (now + by') by' (a.2.1.take 50) a.2.2.2.2.2 = (renewN Q id token (now + by') 5) by simp [opN, *]]
                repeat' (first | exact trivial | exact rfl | exact .inl rfl | (exact .inr rfl) | refine And.intro ?_ ?_)
              · conv => whnf
                first | refine aIf_dec (fun k3 => ?_) (fun k3 => ?_) | refine aIf_beq (fun k3 => ?_) (fun k3 => ?_) | refine aIf_bne (fun k3 => ?_) (fun k3 => ?_) | refine aIf_not (fun k3 => ?_) (fun k3 => ?_) | refine aIf_mk (fun k3 => ?_) (fun k3 => ?_)
                · conv => whnf
                  repeat' (refine And.intro ?_ ?_; (first | omega | exact rfl | exact And.intro (by omega) (by omega) | exact Or.inr Nat.zero_lt_one))
                  conv => whnf
                  rw [b3]
                  repeat' (refine And.intro ?_ ?_; (first | omega | exact rfl | exact And.intro (by omega) (by omega) | exact Or.inr Nat.zero_lt_one))
                  conv => whnf
                  rw [hby]
                  refine ACall.use0 (c17 Q id token by' hQl) rfl ?_
                  conv => whnf
                  refine jn_at [] [.old 0, .old 2] (fS l i (now + by') id token kind (opN Q kind id token (now + by') by' (a.2.1.take 50) a.2.2.2.2.2).2) [qc Q, qc (opN Q kind id token (now + by') by' (a.2.1.take 50) a.2.2.2.2.2).1] ?_ tail.out
                  rw [show opN Q kind id token (now + by') by' (a.2.1.take 50) a.2.2.2.2.2 = (markN Q id token by') by simp [opN, *]]
                  repeat' (first | exact trivial | exact rfl | exact .inl rfl | (exact .inr rfl) | refine And.intro ?_ ?_)
                · conv => whnf
                  first | refine aIf_dec (fun k4 => ?_) (fun k4 => ?_) | refine aIf_beq (fun k4 => ?_) (fun k4 => ?_) | refine aIf_bne (fun k4 => ?_) (fun k4 => ?_) | refine aIf_not (fun k4 => ?_) (fun k4 => ?_) | refine aIf_mk (fun k4 => ?_) (fun k4 => ?_)
                  · conv => whnf
                    refine ACall.use0 (c20 Q id token hQl) rfl ?_
                    conv => whnf
                    refine jn_at [] [.old 0, .old 2] (fS l i (now + by') id token kind (opN Q kind id token (now + by') by' (a.2.1.take 50) a.2.2.2.2.2).2) [qc Q, qc (opN Q kind id token (now + by') by' (a.2.1.take 50) a.2.2.2.2.2).1] ?_ tail.out
                    rw [show opN Q kind id token (now + by') by' (a.2.1.take 50) a.2.2.2.2.2 = (doneN Q id token) by simp [opN, *]]
                    repeat' (first | exact trivial | exact rfl | exact .inl rfl | (exact .inr rfl) | refine And.intro ?_ ?_)
                  · conv => whnf
                    first | refine aIf_dec (fun k5 => ?_) (fun k5 => ?_) | refine aIf_beq (fun k5 => ?_) (fun k5 => ?_) | refine aIf_bne (fun k5 => ?_) (fun k5 => ?_) | refine aIf_not (fun k5 => ?_) (fun k5 => ?_) | refine aIf_mk (fun k5 => ?_) (fun k5 => ?_)
                    · conv => whnf
                      refine ACall.use0 (c23 Q id token (now + by') a.2.2.2.2.2 hQl) rfl ?_
                      conv => whnf
                      refine jn_at [] [.old 0, .old 2] (fS l i (now + by') id token kind (opN Q kind id token (now + by') by' (a.2.1.take 50) a.2.2.2.2.2).2) [qc Q, qc (opN Q kind id token (now + by') by' (a.2.1.take 50) a.2.2.2.2.2).1] ?_ tail.out
                      rw [show opN Q kind id token (now + by') by' (a.2.1.take 50) a.2.2.2.2.2 = (failN Q id token (now + by') a.2.2.2.2.2) by simp [opN, *]]
                      repeat' (first | exact trivial | exact rfl | exact .inl rfl | (exact .inr rfl) | refine And.intro ?_ ?_)
                    · conv => whnf
                      first | refine aIf_dec (fun k6 => ?_) (fun k6 => ?_) | refine aIf_beq (fun k6 => ?_) (fun k6 => ?_) | refine aIf_bne (fun k6 => ?_) (fun k6 => ?_) | refine aIf_not (fun k6 => ?_) (fun k6 => ?_) | refine aIf_mk (fun k6 => ?_) (fun k6 => ?_)
                      · conv => whnf
                        refine ACall.use0 (c21 Q id hQl) rfl ?_
                        conv => whnf
                        refine jn_at [] [.old 0, .old 2] (fS l i (now + by') id token kind (opN Q kind id token (now + by') by' (a.2.1.take 50) a.2.2.2.2.2).2) [qc Q, qc (opN Q kind id token (now + by') by' (a.2.1.take 50) a.2.2.2.2.2).1] ?_ tail.out
                        rw [show opN Q kind id token (now + by') by' (a.2.1.take 50) a.2.2.2.2.2 = (stopN Q id) by simp [opN, *]]
                        repeat' (first | exact trivial | exact rfl | exact .inl rfl | (exact .inr rfl) | refine And.intro ?_ ?_)
                      · conv => whnf
                        refine ACall.use0 (c24 Q id hQl) rfl ?_
                        conv => whnf
                        refine jn_at [] [.old 0, .old 2] (fS l i (now + by') id token kind (opN Q kind id token (now + by') by' (a.2.1.take 50) a.2.2.2.2.2).2) [qc Q, qc (opN Q kind id token (now + by') by' (a.2.1.take 50) a.2.2.2.2.2).1] ?_ tail.out
                        rw [show opN Q kind id token (now + by') by' (a.2.1.take 50) a.2.2.2.2.2 = (againN Q id) by simp [opN, *]]
                        repeat' (first | exact trivial | exact rfl | exact .inl rfl | (exact .inr rfl) | refine And.intro ?_ ?_)
        · conv => whnf
          have hO := @op_fen Q kind id token (now + by') by' (a.2.1.take 50) a.2.2.2.2.2 ⟨f2.1, by omega⟩ (by omega)
          generalize opN Q kind id token (now + by') by' (a.2.1.take 50) a.2.2.2.2.2 = O at hO ⊢
          first | refine aIf_dec (fun k9 => ?_) (fun k9 => ?_) | refine aIf_beq (fun k9 => ?_) (fun k9 => ?_) | refine aIf_bne (fun k9 => ?_) (fun k9 => ?_) | refine aIf_not (fun k9 => ?_) (fun k9 => ?_) | refine aIf_mk (fun k9 => ?_) (fun k9 => ?_)
          · conv => whnf
            repeat (refine jn_go ?_; conv => whnf)
            refine ⟨⟨i + 1, now + by', Q⟩, [], [.old 0], ⟨(show i + 1 ≤ l.length by omega), (show i + 1 ≤ 50 by omega), x3, (show Q.1.length ≤ i + 1 by omega), (show 0 ≤ now + by' by omega), by show now + by' ≤ 8 * ((i + 1 : Nat) : Int); omega⟩, (show l.length - (i + 1) < l.length - i by omega), ?_⟩
            repeat' (first | exact trivial | exact rfl | exact .inl rfl | (exact .inr rfl) | refine And.intro ?_ ?_)
            exact i64_at rfl (by omega)
          · obtain ⟨og, ol, ou, of'⟩ := hO k9
            generalize O.1 = X at og ol ou of' ⊢
            conv => whnf
            repeat (refine jn_go ?_; conv => whnf)
            refine ACall.use0 (c13 X (by omega)) rfl ?_
            rw [og]
            conv => whnf
            repeat (refine jn_go ?_; conv => whnf)
            refine aIf_not (fun h => absurd h (by simp)) (fun _ => ?_)
            conv => whnf
            repeat (refine jn_go ?_; conv => whnf)
            refine ACall.use0 (c14 X (by omega)) rfl ?_
            rw [og]
            conv => whnf
            repeat (refine jn_go ?_; conv => whnf)
            refine aIf_not (fun h => absurd h (by simp)) (fun _ => ?_)
            conv => whnf
            repeat (refine jn_go ?_; conv => whnf)
            refine ⟨Nat, ⟨fun n => n ≤ Q.1.length, fun n => ([(2, .f), (3, .ptr 0 0), (4, .int .i64 (now + by')), (7, .int .i64 id), (8, .int .i64 token), (9, .ptr 1 0), (11, .int .i64 kind), (16, .sl tAct l false), (17, .int .i64 (l.length : Int)), (18, .int .i64 (i : Int)), (142, .sl tJob Q.1 false), (143, .int .i64 (Q.1.length : Int)), (144, .int .i64 (n : Int))], [qc Q, qc X]), fun n => Q.1.length - n⟩, 0, [], [.old 0, .old 1], Nat.zero_le _, ?_, fun n hn => ?_⟩
            · repeat' (first | exact trivial | exact rfl | exact .inl rfl | (exact .inr rfl) | refine And.intro ?_ ?_)
            · replace hn : n ≤ Q.1.length := hn
              conv => whnf
              first | refine aIf_dec (fun n1 => ?_) (fun n1 => ?_) | refine aIf_beq (fun n1 => ?_) (fun n1 => ?_) | refine aIf_bne (fun n1 => ?_) (fun n1 => ?_) | refine aIf_not (fun n1 => ?_) (fun n1 => ?_) | refine aIf_mk (fun n1 => ?_) (fun n1 => ?_)
              · have hlt : n < Q.1.length := by omega
                conv => whnf
                repeat (refine jn_go ?_; conv => whnf)
                refine And.intro (by omega) (And.intro (by omega) ?_)
                obtain ⟨j, hj⟩ : ∃ j : Job, elt tJob Q.1 n = j := ⟨_, rfl⟩
                rw [show ((n : Int)).toNat = n from rfl, hj]
                obtain ⟨q1, q2⟩ := of' n hlt
                have hix := idx_good og (i := n) (by omega)
                obtain ⟨k, hk⟩ : ∃ k : Job, elt tJob X.1 n = k := ⟨_, rfl⟩
                rw [hj, hk] at q1 q2
                rw [hk, q1] at hix
                conv => whnf
                repeat (refine jn_go ?_; conv => whnf)
                refine ACall.use0 (c18 X j.1 (by omega)) rfl ?_
                rw [hix]
                conv => whnf
                repeat (refine jn_go ?_; conv => whnf)
                first | refine aIf_dec (fun n2 => ?_) (fun n2 => ?_) | refine aIf_beq (fun n2 => ?_) (fun n2 => ?_) | refine aIf_bne (fun n2 => ?_) (fun n2 => ?_) | refine aIf_not (fun n2 => ?_) (fun n2 => ?_) | refine aIf_mk (fun n2 => ?_) (fun n2 => ?_)
                · exact absurd n2 (by omega)
                · conv => whnf
                  repeat (refine jn_go ?_; conv => whnf)
                  refine And.intro (by omega) (And.intro (show (n : Int) < (X.1.length : Int) by omega) ?_)
                  rw [show ((n : Int)).toNat = n from rfl, hk]
                  conv => whnf
                  repeat (refine jn_go ?_; conv => whnf)
                  first | refine aIf_dec (fun k7 => ?_) (fun k7 => ?_) | refine aIf_beq (fun k7 => ?_) (fun k7 => ?_) | refine aIf_bne (fun k7 => ?_) (fun k7 => ?_) | refine aIf_not (fun k7 => ?_) (fun k7 => ?_) | refine aIf_mk (fun k7 => ?_) (fun k7 => ?_)
                  · conv => whnf
                    repeat (refine jn_go ?_; conv => whnf)
                    first | refine aIf_dec (fun z0 => ?_) (fun z0 => ?_) | refine aIf_beq (fun z0 => ?_) (fun z0 => ?_) | refine aIf_bne (fun z0 => ?_) (fun z0 => ?_) | refine aIf_not (fun z0 => ?_) (fun z0 => ?_) | refine aIf_mk (fun z0 => ?_) (fun z0 => ?_)
                    · conv => whnf
                      repeat (refine jn_go ?_; conv => whnf)
                      refine ⟨n + 1, [], [.old 0, .old 1], (show n + 1 ≤ Q.1.length by omega), (show Q.1.length - (n + 1) < Q.1.length - n by omega), ?_⟩
                      repeat' (first | exact trivial | exact rfl | exact .inl rfl | (exact .inr rfl) | refine And.intro ?_ ?_)
                      exact i64_at rfl (by omega)
                    · obtain ⟨t1, t2, t3, t4, t5, t6⟩ := q2 (fun hh => z0 hh.2)
                      conv => whnf
                      repeat (refine jn_go ?_; conv => whnf)
                      first | refine aIf_dec (fun z1 => ?_) (fun z1 => ?_) | refine aIf_beq (fun z1 => ?_) (fun z1 => ?_) | refine aIf_bne (fun z1 => ?_) (fun z1 => ?_) | refine aIf_not (fun z1 => ?_) (fun z1 => ?_) | refine aIf_mk (fun z1 => ?_) (fun z1 => ?_)
                      · exact absurd t1 (by omega)
                      · conv => whnf
                        repeat (refine jn_go ?_; conv => whnf)
                        first | refine aIf_dec (fun z2 => ?_) (fun z2 => ?_) | refine aIf_beq (fun z2 => ?_) (fun z2 => ?_) | refine aIf_bne (fun z2 => ?_) (fun z2 => ?_) | refine aIf_not (fun z2 => ?_) (fun z2 => ?_) | refine aIf_mk (fun z2 => ?_) (fun z2 => ?_)
                        · exact absurd t2 (by omega)
                        · conv => whnf
                          repeat (refine jn_go ?_; conv => whnf)
                          first | refine aIf_dec (fun z3 => ?_) (fun z3 => ?_) | refine aIf_beq (fun z3 => ?_) (fun z3 => ?_) | refine aIf_bne (fun z3 => ?_) (fun z3 => ?_) | refine aIf_not (fun z3 => ?_) (fun z3 => ?_) | refine aIf_mk (fun z3 => ?_) (fun z3 => ?_)
                          · exact absurd t3 (by omega)
                          · conv => whnf
                            repeat (refine jn_go ?_; conv => whnf)
                            refine aIf_mk (fun h => absurd h (by rw [t4]; simp)) (fun _ => ?_)
                            conv => whnf
                            repeat (refine jn_go ?_; conv => whnf)
                            refine ACall.use0 (c15 j) rfl ?_
                            conv => whnf
                            repeat (refine jn_go ?_; conv => whnf)
                            refine aIf_not (fun z4 => ?_) (fun z4 => ?_)
                            · have hkj : k = j := t5.resolve_left (by rw [z4]; simp)
                              conv => whnf
                              repeat (refine jn_go ?_; conv => whnf)
                              refine aIf_mk (fun h => absurd h (by show ¬ (!(eqJ k j)) = true; rw [eqJ_iff.2 hkj]; simp)) (fun _ => ?_)
                              conv => whnf
                              repeat (refine jn_go ?_; conv => whnf)
                              first | refine aIf_dec (fun y1 => ?_) (fun y1 => ?_) | refine aIf_beq (fun y1 => ?_) (fun y1 => ?_) | refine aIf_bne (fun y1 => ?_) (fun y1 => ?_) | refine aIf_not (fun y1 => ?_) (fun y1 => ?_) | refine aIf_mk (fun y1 => ?_) (fun y1 => ?_)
                              · conv => whnf
                                repeat (refine jn_go ?_; conv => whnf)
                                first | refine aIf_dec (fun y2 => ?_) (fun y2 => ?_) | refine aIf_beq (fun y2 => ?_) (fun y2 => ?_) | refine aIf_bne (fun y2 => ?_) (fun y2 => ?_) | refine aIf_not (fun y2 => ?_) (fun y2 => ?_) | refine aIf_mk (fun y2 => ?_) (fun y2 => ?_)
                                · conv => whnf
                                  repeat (refine jn_go ?_; conv => whnf)
                                  refine aIf_mk (fun y3 => ?_) (fun y3 => ?_)
                                  · have hkj : j.2.2.2.2.2.1 = token ∧ j.2.2.2.1 = 2 := (t6 y1 y2).resolve_left (fun hh => by
                                      have y3' : (!(eqJ k j)) = true := y3
                                      rw [eqJ_iff.2 hh] at y3'
                                      cases y3')
                                    conv => whnf
                                    repeat (refine jn_go ?_; conv => whnf)
                                    refine aIf_bne (fun h => absurd hkj.1 h) (fun _ => ?_)
                                    conv => whnf
                                    repeat (refine jn_go ?_; conv => whnf)
                                    refine aIf_bne (fun h => absurd hkj.2 h) (fun _ => ?_)
                                    conv => whnf
                                    repeat (refine jn_go ?_; conv => whnf)
                                    refine ⟨n + 1, [], [.old 0, .old 1], (show n + 1 ≤ Q.1.length by omega), (show Q.1.length - (n + 1) < Q.1.length - n by omega), ?_⟩
                                    repeat' (first | exact trivial | exact rfl | exact .inl rfl | (exact .inr rfl) | refine And.intro ?_ ?_)
                                    exact i64_at rfl (by omega)
                                  · conv => whnf
                                    repeat (refine jn_go ?_; conv => whnf)
                                    refine ⟨n + 1, [], [.old 0, .old 1], (show n + 1 ≤ Q.1.length by omega), (show Q.1.length - (n + 1) < Q.1.length - n by omega), ?_⟩
                                    repeat' (first | exact trivial | exact rfl | exact .inl rfl | (exact .inr rfl) | refine And.intro ?_ ?_)
                                    exact i64_at rfl (by omega)
                                · conv => whnf
                                  repeat (refine jn_go ?_; conv => whnf)
                                  refine ⟨n + 1, [], [.old 0, .old 1], (show n + 1 ≤ Q.1.length by omega), (show Q.1.length - (n + 1) < Q.1.length - n by omega), ?_⟩
                                  repeat' (first | exact trivial | exact rfl | exact .inl rfl | (exact .inr rfl) | refine And.intro ?_ ?_)
                                  exact i64_at rfl (by omega)
                              · conv => whnf
                                repeat (refine jn_go ?_; conv => whnf)
                                refine ⟨n + 1, [], [.old 0, .old 1], (show n + 1 ≤ Q.1.length by omega), (show Q.1.length - (n + 1) < Q.1.length - n by omega), ?_⟩
                                repeat' (first | exact trivial | exact rfl | exact .inl rfl | (exact .inr rfl) | refine And.intro ?_ ?_)
                                exact i64_at rfl (by omega)
                            · conv => whnf
                              repeat (refine jn_go ?_; conv => whnf)
                              first | refine aIf_dec (fun y1 => ?_) (fun y1 => ?_) | refine aIf_beq (fun y1 => ?_) (fun y1 => ?_) | refine aIf_bne (fun y1 => ?_) (fun y1 => ?_) | refine aIf_not (fun y1 => ?_) (fun y1 => ?_) | refine aIf_mk (fun y1 => ?_) (fun y1 => ?_)
                              · conv => whnf
                                repeat (refine jn_go ?_; conv => whnf)
                                first | refine aIf_dec (fun y2 => ?_) (fun y2 => ?_) | refine aIf_beq (fun y2 => ?_) (fun y2 => ?_) | refine aIf_bne (fun y2 => ?_) (fun y2 => ?_) | refine aIf_not (fun y2 => ?_) (fun y2 => ?_) | refine aIf_mk (fun y2 => ?_) (fun y2 => ?_)
                                · conv => whnf
                                  repeat (refine jn_go ?_; conv => whnf)
                                  refine aIf_mk (fun y3 => ?_) (fun y3 => ?_)
                                  · have hkj : j.2.2.2.2.2.1 = token ∧ j.2.2.2.1 = 2 := (t6 y1 y2).resolve_left (fun hh => by
                                      have y3' : (!(eqJ k j)) = true := y3
                                      rw [eqJ_iff.2 hh] at y3'
                                      cases y3')
                                    conv => whnf
                                    repeat (refine jn_go ?_; conv => whnf)
                                    refine aIf_bne (fun h => absurd hkj.1 h) (fun _ => ?_)
                                    conv => whnf
                                    repeat (refine jn_go ?_; conv => whnf)
                                    refine aIf_bne (fun h => absurd hkj.2 h) (fun _ => ?_)
                                    conv => whnf
                                    repeat (refine jn_go ?_; conv => whnf)
                                    refine ⟨n + 1, [], [.old 0, .old 1], (show n + 1 ≤ Q.1.length by omega), (show Q.1.length - (n + 1) < Q.1.length - n by omega), ?_⟩
                                    repeat' (first | exact trivial | exact rfl | exact .inl rfl | (exact .inr rfl) | refine And.intro ?_ ?_)
                                    exact i64_at rfl (by omega)
                                  · conv => whnf
                                    repeat (refine jn_go ?_; conv => whnf)
                                    refine ⟨n + 1, [], [.old 0, .old 1], (show n + 1 ≤ Q.1.length by omega), (show Q.1.length - (n + 1) < Q.1.length - n by omega), ?_⟩
                                    repeat' (first | exact trivial | exact rfl | exact .inl rfl | (exact .inr rfl) | refine And.intro ?_ ?_)
                                    exact i64_at rfl (by omega)
                                · conv => whnf
                                  repeat (refine jn_go ?_; conv => whnf)
                                  refine ⟨n + 1, [], [.old 0, .old 1], (show n + 1 ≤ Q.1.length by omega), (show Q.1.length - (n + 1) < Q.1.length - n by omega), ?_⟩
                                  repeat' (first | exact trivial | exact rfl | exact .inl rfl | (exact .inr rfl) | refine And.intro ?_ ?_)
                                  exact i64_at rfl (by omega)
                              · conv => whnf
                                repeat (refine jn_go ?_; conv => whnf)
                                refine ⟨n + 1, [], [.old 0, .old 1], (show n + 1 ≤ Q.1.length by omega), (show Q.1.length - (n + 1) < Q.1.length - n by omega), ?_⟩
                                repeat' (first | exact trivial | exact rfl | exact .inl rfl | (exact .inr rfl) | refine And.intro ?_ ?_)
                                exact i64_at rfl (by omega)
                  · obtain ⟨t1, t2, t3, t4, t5, t6⟩ := q2 (fun hh => k7 hh.1)
                    conv => whnf
                    repeat (refine jn_go ?_; conv => whnf)
                    first | refine aIf_dec (fun z1 => ?_) (fun z1 => ?_) | refine aIf_beq (fun z1 => ?_) (fun z1 => ?_) | refine aIf_bne (fun z1 => ?_) (fun z1 => ?_) | refine aIf_not (fun z1 => ?_) (fun z1 => ?_) | refine aIf_mk (fun z1 => ?_) (fun z1 => ?_)
                    · exact absurd t1 (by omega)
                    · conv => whnf
                      repeat (refine jn_go ?_; conv => whnf)
                      first | refine aIf_dec (fun z2 => ?_) (fun z2 => ?_) | refine aIf_beq (fun z2 => ?_) (fun z2 => ?_) | refine aIf_bne (fun z2 => ?_) (fun z2 => ?_) | refine aIf_not (fun z2 => ?_) (fun z2 => ?_) | refine aIf_mk (fun z2 => ?_) (fun z2 => ?_)
                      · exact absurd t2 (by omega)
                      · conv => whnf
                        repeat (refine jn_go ?_; conv => whnf)
                        first | refine aIf_dec (fun z3 => ?_) (fun z3 => ?_) | refine aIf_beq (fun z3 => ?_) (fun z3 => ?_) | refine aIf_bne (fun z3 => ?_) (fun z3 => ?_) | refine aIf_not (fun z3 => ?_) (fun z3 => ?_) | refine aIf_mk (fun z3 => ?_) (fun z3 => ?_)
                        · exact absurd t3 (by omega)
                        · conv => whnf
                          repeat (refine jn_go ?_; conv => whnf)
                          refine aIf_mk (fun h => absurd h (by rw [t4]; simp)) (fun _ => ?_)
                          conv => whnf
                          repeat (refine jn_go ?_; conv => whnf)
                          refine ACall.use0 (c15 j) rfl ?_
                          conv => whnf
                          repeat (refine jn_go ?_; conv => whnf)
                          refine aIf_not (fun z4 => ?_) (fun z4 => ?_)
                          · have hkj : k = j := t5.resolve_left (by rw [z4]; simp)
                            conv => whnf
                            repeat (refine jn_go ?_; conv => whnf)
                            refine aIf_mk (fun h => absurd h (by show ¬ (!(eqJ k j)) = true; rw [eqJ_iff.2 hkj]; simp)) (fun _ => ?_)
                            conv => whnf
                            repeat (refine jn_go ?_; conv => whnf)
                            first | refine aIf_dec (fun y1 => ?_) (fun y1 => ?_) | refine aIf_beq (fun y1 => ?_) (fun y1 => ?_) | refine aIf_bne (fun y1 => ?_) (fun y1 => ?_) | refine aIf_not (fun y1 => ?_) (fun y1 => ?_) | refine aIf_mk (fun y1 => ?_) (fun y1 => ?_)
                            · conv => whnf
                              repeat (refine jn_go ?_; conv => whnf)
                              first | refine aIf_dec (fun y2 => ?_) (fun y2 => ?_) | refine aIf_beq (fun y2 => ?_) (fun y2 => ?_) | refine aIf_bne (fun y2 => ?_) (fun y2 => ?_) | refine aIf_not (fun y2 => ?_) (fun y2 => ?_) | refine aIf_mk (fun y2 => ?_) (fun y2 => ?_)
                              · conv => whnf
                                repeat (refine jn_go ?_; conv => whnf)
                                refine aIf_mk (fun y3 => ?_) (fun y3 => ?_)
                                · have hkj : j.2.2.2.2.2.1 = token ∧ j.2.2.2.1 = 2 := (t6 y1 y2).resolve_left (fun hh => by
                                    have y3' : (!(eqJ k j)) = true := y3
                                    rw [eqJ_iff.2 hh] at y3'
                                    cases y3')
                                  conv => whnf
                                  repeat (refine jn_go ?_; conv => whnf)
                                  refine aIf_bne (fun h => absurd hkj.1 h) (fun _ => ?_)
                                  conv => whnf
                                  repeat (refine jn_go ?_; conv => whnf)
                                  refine aIf_bne (fun h => absurd hkj.2 h) (fun _ => ?_)
                                  conv => whnf
                                  repeat (refine jn_go ?_; conv => whnf)
                                  refine ⟨n + 1, [], [.old 0, .old 1], (show n + 1 ≤ Q.1.length by omega), (show Q.1.length - (n + 1) < Q.1.length - n by omega), ?_⟩
                                  repeat' (first | exact trivial | exact rfl | exact .inl rfl | (exact .inr rfl) | refine And.intro ?_ ?_)
                                  exact i64_at rfl (by omega)
                                · conv => whnf
                                  repeat (refine jn_go ?_; conv => whnf)
                                  refine ⟨n + 1, [], [.old 0, .old 1], (show n + 1 ≤ Q.1.length by omega), (show Q.1.length - (n + 1) < Q.1.length - n by omega), ?_⟩
                                  repeat' (first | exact trivial | exact rfl | exact .inl rfl | (exact .inr rfl) | refine And.intro ?_ ?_)
                                  exact i64_at rfl (by omega)
                              · conv => whnf
                                repeat (refine jn_go ?_; conv => whnf)
                                refine ⟨n + 1, [], [.old 0, .old 1], (show n + 1 ≤ Q.1.length by omega), (show Q.1.length - (n + 1) < Q.1.length - n by omega), ?_⟩
                                repeat' (first | exact trivial | exact rfl | exact .inl rfl | (exact .inr rfl) | refine And.intro ?_ ?_)
                                exact i64_at rfl (by omega)
                            · conv => whnf
                              repeat (refine jn_go ?_; conv => whnf)
                              refine ⟨n + 1, [], [.old 0, .old 1], (show n + 1 ≤ Q.1.length by omega), (show Q.1.length - (n + 1) < Q.1.length - n by omega), ?_⟩
                              repeat' (first | exact trivial | exact rfl | exact .inl rfl | (exact .inr rfl) | refine And.intro ?_ ?_)
                              exact i64_at rfl (by omega)
                          · conv => whnf
                            repeat (refine jn_go ?_; conv => whnf)
                            first | refine aIf_dec (fun y1 => ?_) (fun y1 => ?_) | refine aIf_beq (fun y1 => ?_) (fun y1 => ?_) | refine aIf_bne (fun y1 => ?_) (fun y1 => ?_) | refine aIf_not (fun y1 => ?_) (fun y1 => ?_) | refine aIf_mk (fun y1 => ?_) (fun y1 => ?_)
                            · conv => whnf
                              repeat (refine jn_go ?_; conv => whnf)
                              first | refine aIf_dec (fun y2 => ?_) (fun y2 => ?_) | refine aIf_beq (fun y2 => ?_) (fun y2 => ?_) | refine aIf_bne (fun y2 => ?_) (fun y2 => ?_) | refine aIf_not (fun y2 => ?_) (fun y2 => ?_) | refine aIf_mk (fun y2 => ?_) (fun y2 => ?_)
                              · conv => whnf
                                repeat (refine jn_go ?_; conv => whnf)
                                refine aIf_mk (fun y3 => ?_) (fun y3 => ?_)
                                · have hkj : j.2.2.2.2.2.1 = token ∧ j.2.2.2.1 = 2 := (t6 y1 y2).resolve_left (fun hh => by
                                    have y3' : (!(eqJ k j)) = true := y3
                                    rw [eqJ_iff.2 hh] at y3'
                                    cases y3')
                                  conv => whnf
                                  repeat (refine jn_go ?_; conv => whnf)
                                  refine aIf_bne (fun h => absurd hkj.1 h) (fun _ => ?_)
                                  conv => whnf
                                  repeat (refine jn_go ?_; conv => whnf)
                                  refine aIf_bne (fun h => absurd hkj.2 h) (fun _ => ?_)
                                  conv => whnf
                                  repeat (refine jn_go ?_; conv => whnf)
                                  refine ⟨n + 1, [], [.old 0, .old 1], (show n + 1 ≤ Q.1.length by omega), (show Q.1.length - (n + 1) < Q.1.length - n by omega), ?_⟩
                                  repeat' (first | exact trivial | exact rfl | exact .inl rfl | (exact .inr rfl) | refine And.intro ?_ ?_)
                                  exact i64_at rfl (by omega)
                                · conv => whnf
                                  repeat (refine jn_go ?_; conv => whnf)
                                  refine ⟨n + 1, [], [.old 0, .old 1], (show n + 1 ≤ Q.1.length by omega), (show Q.1.length - (n + 1) < Q.1.length - n by omega), ?_⟩
                                  repeat' (first | exact trivial | exact rfl | exact .inl rfl | (exact .inr rfl) | refine And.intro ?_ ?_)
                                  exact i64_at rfl (by omega)
                              · conv => whnf
                                repeat (refine jn_go ?_; conv => whnf)
                                refine ⟨n + 1, [], [.old 0, .old 1], (show n + 1 ≤ Q.1.length by omega), (show Q.1.length - (n + 1) < Q.1.length - n by omega), ?_⟩
                                repeat' (first | exact trivial | exact rfl | exact .inl rfl | (exact .inr rfl) | refine And.intro ?_ ?_)
                                exact i64_at rfl (by omega)
                            · conv => whnf
                              repeat (refine jn_go ?_; conv => whnf)
                              refine ⟨n + 1, [], [.old 0, .old 1], (show n + 1 ≤ Q.1.length by omega), (show Q.1.length - (n + 1) < Q.1.length - n by omega), ?_⟩
                              repeat' (first | exact trivial | exact rfl | exact .inl rfl | (exact .inr rfl) | refine And.intro ?_ ?_)
                              exact i64_at rfl (by omega)
              · conv => whnf
                repeat (refine jn_go ?_; conv => whnf)
                refine ⟨⟨i + 1, now + by', X⟩, [], [.old 0], ⟨(show i + 1 ≤ l.length by omega), (show i + 1 ≤ 50 by omega), og, (show X.1.length ≤ i + 1 by omega), (show 0 ≤ now + by' by omega), by show now + by' ≤ 8 * ((i + 1 : Nat) : Int); omega⟩, (show l.length - (i + 1) < l.length - i by omega), ?_⟩
                repeat' (first | exact trivial | exact rfl | exact .inl rfl | (exact .inr rfl) | refine And.intro ?_ ?_)
                exact i64_at rfl (by omega)
    · conv => whnf
      refine jn_go ?_
      conv => whnf
      refine ACall.use0 (c12) rfl ?_
      conv => whnf
      refine ⟨[], _, _, ?_, rfl, rfl⟩
      repeat' (first | exact trivial | exact rfl | exact .inl rfl | (exact .inr rfl) | refine And.intro ?_ ?_)
end Go.Proofs.Try
