import Derived.Test.YtfhcedpnofidnaaWireI
namespace Go.Proofs.Try
open Go.AM


def atsOk (gaps ats : List Int) (at' : Int) : Prop := ats.length ≤ gaps.length ∧ ats.length ≤ 20 ∧ ats.Pairwise (· ≤ ·) ∧ (∀ a ∈ ats, 0 ≤ a ∧ a ≤ at') ∧ 0 ≤ at' ∧ at' ≤ 99 * ats.length
def bys : List Int := [0, 50, 200, 1000]
def byAt (i : Nat) : Int := elt (.int .i64) bys i
structure St2 where
  ats : List Int
  at' : Int
  i : Nat
  last : Nat
def inv2 (gaps : List Int) (x : St2) : Prop := atsOk gaps x.ats x.at' ∧ x.i ≤ 4 ∧ x.last ≤ 32 ∧ ∀ j, x.i ≤ j → j < 4 → (lateFrom x.at' (byAt j) 0 (mk 0 x.ats)).length ≤ x.last
theorem inv2_start {gaps ats : List Int} {at' : Int} (h : atsOk gaps ats at') : inv2 gaps ⟨ats, at', 0, ats.length⟩ := by
  refine ⟨h, Nat.zero_le _, by have := h.2.1; show ats.length ≤ 32; omega, fun j _ _ => ?_⟩
  have := lateFrom_len (now := at') (t := byAt j) (mk 0 ats) 0
  rw [mk_len] at this
  exact this

theorem bys_at : byAt 0 = 0 ∧ byAt 1 = 50 ∧ byAt 2 = 200 ∧ byAt 3 = 1000 :=
  ⟨eltG (t := .int .i64) (show 0 < bys.length by decide), eltG (t := .int .i64) (show 1 < bys.length by decide), eltG (t := .int .i64) (show 2 < bys.length by decide), eltG (t := .int .i64) (show 3 < bys.length by decide)⟩
theorem bys_in {i : Nat} (h : i < 4) : 0 ≤ byAt i ∧ byAt i ≤ 1000 := by
  obtain ⟨h0, h1, h2, h3⟩ := bys_at
  have : i = 0 ∨ i = 1 ∨ i = 2 ∨ i = 3 := by omega
  rcases this with rfl | rfl | rfl | rfl <;> omega
theorem bys_le {i j : Nat} (h : i ≤ j) (hj : j < 4) : byAt i ≤ byAt j := by
  obtain ⟨h0, h1, h2, h3⟩ := bys_at
  have a : i = 0 ∨ i = 1 ∨ i = 2 ∨ i = 3 := by omega
  have b : j = 0 ∨ j = 1 ∨ j = 2 ∨ j = 3 := by omega
  rcases a with rfl | rfl | rfl | rfl <;> rcases b with rfl | rfl | rfl | rfl <;> omega

set_option maxRecDepth 100000 in
theorem c5 (gaps : List Int) (place : Int) (_hl : gaps.length ≤ 9223372036854775807) (_hp : -9223372036854775808 ≤ place ∧ place ≤ 9223372036854775807) :
    ACall E 5 [.sl (.int .i64) gaps false, .int .i64 place] [] (fun r h' => r = .ret (.bool true) ∧ h' = []) := by
  refine ACall.body envOK func5 rfl rfl rfl ?_
  conv => whnf
  refine ⟨List Int × Int, ⟨fun x => atsOk gaps x.1 x.2, fun x => ([(1, .int .i64 place), (4, .f), (5, .ptr 0 0), (6, .int .i64 x.2), (26, .sl (.int .i64) gaps false), (27, .int .i64 (gaps.length : Int)), (28, .int .i64 (x.1.length : Int))],
    [.var [.sl tMsg (mk 0 x.1) false, .int .i64 (x.1.length : Int), .int .i64 x.2]]), fun x => gaps.length - x.1.length⟩, ([], 0), [], [.old 0], ?_, ?_, fun x hx => ?_⟩
  · exact ⟨Nat.zero_le _, Nat.zero_le _, List.Pairwise.nil, by simp, Int.le_refl _, Int.le_refl _⟩
  · repeat' (first | exact trivial | exact rfl | exact .inl rfl | (exact .inr rfl) | refine And.intro ?_ ?_)
  · have hx0 : atsOk gaps x.1 x.2 := hx
    obtain ⟨x1, x2, x3, x4, x5, x6⟩ := hx0
    apply share
    · intro tail
      conv => whnf
      first | refine aIf_dec (fun h1 => ?_) (fun h1 => ?_) | refine aIf_beq (fun h1 => ?_) (fun h1 => ?_) | refine aIf_bne (fun h1 => ?_) (fun h1 => ?_) | refine aIf_not (fun h1 => ?_) (fun h1 => ?_) | refine aIf_mk (fun h1 => ?_) (fun h1 => ?_)
      · conv => whnf
        repeat' (refine And.intro ?_ ?_; (first | omega | exact rfl | exact And.intro (by omega) (by omega) | exact Or.inr Nat.zero_lt_one))
        conv => whnf
        first | refine aIf_dec (fun h2 => ?_) (fun h2 => ?_) | refine aIf_beq (fun h2 => ?_) (fun h2 => ?_) | refine aIf_bne (fun h2 => ?_) (fun h2 => ?_) | refine aIf_not (fun h2 => ?_) (fun h2 => ?_) | refine aIf_mk (fun h2 => ?_) (fun h2 => ?_)
        · conv => whnf
          refine ⟨St2, ⟨fun y => inv2 gaps y, fun y => ([(1, .int .i64 place), (4, .f), (5, .ptr 0 0), (14, .int .i64 (y.ats.length : Int)), (15, .int .i64 (y.last : Int)), (92, .own (.int .i64) 1 true), (93, .int .i64 4), (94, .int .i64 (y.i : Int))],
            [.var [.sl tMsg (mk 0 y.ats) false, .int .i64 (y.ats.length : Int), .int .i64 y.at'], .arr (.int .i64) bys true]), fun y => 4 - y.i⟩, ⟨x.1, x.2, 0, x.1.length⟩, [], [.old 0, .old 1], inv2_start hx, ?_, tail.out⟩
          repeat' (first | exact trivial | exact rfl | exact .inl rfl | (exact .inr rfl) | refine And.intro ?_ ?_)
          · exact congrArg Int.ofNat (mk_len _ _)
          · exact congrArg Int.ofNat (mk_len _ _)
        · conv => whnf
          repeat' (refine And.intro ?_ ?_; (first | omega | exact rfl | exact And.intro (by omega) (by omega) | exact Or.inr Nat.zero_lt_one))
          conv => whnf
          have e0 : ((x.1.length : Int)).toNat = x.1.length := by omega
          rw [e0]
          have g1 := tm (a := elt (.int .i64) gaps x.1.length) (k := 100) (by omega)
          have g2 : IntKind.i64.wrap (Int.tmod (elt (.int .i64) gaps x.1.length) 100 + 100) = Int.tmod (elt (.int .i64) gaps x.1.length) 100 + 100 := i64_at rfl (by omega)
          rw [g2]
          have g3 := modK_in (a := elt (.int .i64) gaps x.1.length) (k := 100) (by omega)
          change 0 ≤ (Int.tmod (elt (.int .i64) gaps x.1.length) 100 + 100).tmod 100 ∧ (Int.tmod (elt (.int .i64) gaps x.1.length) 100 + 100).tmod 100 < 100 at g3
          generalize (Int.tmod (elt (.int .i64) gaps x.1.length) 100 + 100).tmod 100 = g at g3 ⊢
          have gN := mk_good (l := x.1) (t := x.2) (by omega) x4 (by omega)
          have gL := mk_len x.1 0
          refine ACall.use0 (c15 (mk 0 x.1, (x.1.length : Int), x.2) g (show (mk 0 x.1).length ≤ _ by omega) (by omega)) rfl ?_
          rw [passN_good gN g3.1]
          have t1 : x.2 + min g (1099511627776 - x.2) = x.2 + g := by omega
          rw [show ((mk 0 x.1, (x.1.length : Int), x.2).1, (mk 0 x.1, (x.1.length : Int), x.2).2.1, (mk 0 x.1, (x.1.length : Int), x.2).2.2 + min g (1099511627776 - (mk 0 x.1, (x.1.length : Int), x.2).2.2)) = ((mk 0 x.1, (x.1.length : Int), x.2 + g) : Net) from by rw [← t1]]
          conv => whnf
          repeat' (refine And.intro ?_ ?_; (first | omega | exact rfl | exact And.intro (by omega) (by omega) | exact Or.inr Nat.zero_lt_one))
          conv => whnf
          refine ACall.use0 (c7 (mk 0 x.1, (x.1.length : Int), x.2 + g) ((x.1.length : Int).tmod 64) [] (show (mk 0 x.1).length ≤ _ by omega) (by simp)) rfl ?_
          rw [mk_send (l := x.1) (t := x.2 + g) (by omega) (fun a ha => by have := x4 a ha; omega) (by omega)]
          conv => whnf
          have w1 : IntKind.i64.wrap ((x.1.length : Int) + 1) = ((x.1.length + 1 : Nat) : Int) := i64_at (by omega) (by omega)
          have w2 : IntKind.i64.wrap (x.2 + g) = x.2 + g := i64_at rfl (by omega)
          have gL2 := mk_len (x.1 ++ [x.2 + g]) 0
          have gL3 : (x.1 ++ [x.2 + g]).length = x.1.length + 1 := by simp
          have gE : elt tMsg (mk 0 (x.1 ++ [x.2 + g])) x.1.length = (((0 + x.1.length : Nat) : Int) + 1, ((0 + x.1.length : Nat) : Int).tmod 64, [], x.2 + g) := by
            rw [eltM (by omega), mk_get _ _ _ (by omega)]
            simp
          refine aIf_bne (fun h => absurd rfl h) (fun _ => ?_)
          conv => whnf
          refine aIf_bne (fun h => absurd rfl h) (fun _ => ?_)
          conv => whnf
          refine aIf_bne (fun h => absurd w1.symm h) (fun _ => ?_)
          conv => whnf
          refine aIf_bne (fun h => absurd (by rw [w1, ← gL3, ← gL2]) h) (fun _ => ?_)
          conv => whnf
          repeat' (refine And.intro ?_ ?_; (first | omega | exact rfl | exact And.intro (by omega) (by omega) | exact Or.inr Nat.zero_lt_one))
          conv => whnf
          refine aIf_bne (fun h => absurd (show (elt tMsg (mk 0 (x.1 ++ [x.2 + g])) ((x.1.length : Int)).toNat).2.2.2 = _ by rw [e0, gE, w2]) h) (fun _ => ?_)
          conv => whnf
          refine ⟨(x.1 ++ [x.2 + g], x.2 + g), [], [.old 0], ?_, ?_, ?_⟩
          · refine ⟨by show (x.1 ++ [x.2 + g]).length ≤ _; omega, by show (x.1 ++ [x.2 + g]).length ≤ _; omega, ?_, ?_, by show 0 ≤ x.2 + g; omega, by show x.2 + g ≤ 99 * ((x.1 ++ [x.2 + g]).length : Int); omega⟩
            · refine List.pairwise_append.2 ⟨x3, List.pairwise_singleton _ _, fun a ha b hb => ?_⟩
              rw [List.mem_singleton.1 hb]
              have := x4 a ha
              omega
            · intro a ha
              show 0 ≤ a ∧ a ≤ x.2 + g
              rcases List.mem_append.1 ha with ha | ha
              · have := x4 a ha
                omega
              · rw [List.mem_singleton.1 ha]
                omega
          · show gaps.length - (x.1 ++ [x.2 + g]).length < gaps.length - x.1.length
            omega
          · repeat' (first | exact trivial | exact rfl | exact .inl rfl | (exact .inr rfl) | refine And.intro ?_ ?_)
            · exact congrArg Int.ofNat gL3.symm
            · exact w2
            · exact w1.trans (congrArg Int.ofNat gL3.symm)
      · conv => whnf
        refine ⟨_, _, ⟨x.1, x.2, 0, x.1.length⟩, [], [.old 0, .old 1], inv2_start hx, ?_, tail.out⟩
        repeat' (first | exact trivial | exact rfl | exact .inl rfl | (exact .inr rfl) | refine And.intro ?_ ?_)
        · exact congrArg Int.ofNat (mk_len _ _)
        · exact congrArg Int.ofNat (mk_len _ _)
    · intro y hy
      obtain ⟨⟨y1, y2, y3, y4, y5, y6⟩, hi, hla, hj⟩ : inv2 gaps y := hy
      clear hx x1 x2 x3 x4 x5 x6
      have aL := mk_len y.ats 0
      have aG := mk_good (l := y.ats) (t := y.at') (by omega) y4 (by omega)
      conv => whnf
      first | refine aIf_dec (fun h1 => ?_) (fun h1 => ?_) | refine aIf_beq (fun h1 => ?_) (fun h1 => ?_) | refine aIf_bne (fun h1 => ?_) (fun h1 => ?_) | refine aIf_not (fun h1 => ?_) (fun h1 => ?_) | refine aIf_mk (fun h1 => ?_) (fun h1 => ?_)
      · conv => whnf
        refine And.intro (by omega) (And.intro (show (y.i : Int) < 4 by omega) ?_)
        conv => whnf
        have e1 : ((y.i : Int)).toNat = y.i := by omega
        have hlt : y.i < bys.length := show y.i < 4 by omega
        refine And.intro (show ((y.i : Int)).toNat < bys.length by rw [e1]; exact hlt) ?_
        have hB := bys_in (i := y.i) (by omega)
        have hB2 := hj y.i (Nat.le_refl _) (by omega)
        have hB3 : ∀ j, y.i + 1 ≤ j → j < 4 → (lateFrom y.at' (byAt j) 0 (mk 0 y.ats)).length ≤ (lateFrom y.at' (byAt y.i) 0 (mk 0 y.ats)).length := fun j h1 h2 => lateFrom_anti (bys_le (by omega) h2) _ _
        rw [e1]
        conv => whnf
        obtain ⟨B, hBe, hB⟩ : ∃ B : Int, (elt (.int .i64) bys y.i : Int) = B ∧ 0 ≤ B ∧ B ≤ 1000 := ⟨byAt y.i, rfl, hB⟩
        change (lateFrom y.at' (elt (.int .i64) bys y.i) 0 (mk 0 y.ats)).length ≤ y.last at hB2
        change ∀ j, y.i + 1 ≤ j → j < 4 → (lateFrom y.at' (byAt j) 0 (mk 0 y.ats)).length ≤ (lateFrom y.at' (elt (.int .i64) bys y.i) 0 (mk 0 y.ats)).length at hB3
        rw [hBe] at hB2 hB3 ⊢
        refine ACall.use0 (c17 (mk 0 y.ats, (y.ats.length : Int), y.at') B (show (mk 0 y.ats).length ≤ _ by omega) (by omega)) rfl ?_
        rw [lateN_good aG hB.1]
        obtain ⟨p, p1, p2⟩ := lateFrom_mk (now := y.at') (t := B) y.ats 0 0 y3
        rw [p2] at hB2 hB3
        rw [show lateFrom (mk 0 y.ats, (y.ats.length : Int), y.at').2.2 B 0 (mk 0 y.ats, (y.ats.length : Int), y.at').1 = ups 0 p from p2]
        have pl := ups_len p 0
        conv => whnf
        refine ⟨Nat, ⟨fun j => j ≤ p, fun j => ([(1, .int .i64 place), (4, .f), (5, .ptr 0 0), (14, .int .i64 (y.ats.length : Int)), (15, .int .i64 (y.last : Int)), (92, .own (.int .i64) 1 true), (93, .int .i64 4), (94, .int .i64 (y.i : Int)),
            (18, .sl (.int .i64) (ups 0 p) false), (101, .sl (.int .i64) (ups 0 p) false), (102, .int .i64 ((ups 0 p).length : Int)), (103, .int .i64 (j : Int))],
            [.var [.sl tMsg (mk 0 y.ats) false, .int .i64 (y.ats.length : Int), .int .i64 y.at'], .arr (.int .i64) bys true]), fun j => p - j⟩, 0, [], [.old 0, .old 1], Nat.zero_le _, ?_, fun j hjp => ?_⟩
        · repeat' (first | exact trivial | exact rfl | exact .inl rfl | (exact .inr rfl) | refine And.intro ?_ ?_)
        · replace hjp : j ≤ p := hjp
          conv => whnf
          first | refine aIf_dec (fun h2 => ?_) (fun h2 => ?_) | refine aIf_beq (fun h2 => ?_) (fun h2 => ?_) | refine aIf_bne (fun h2 => ?_) (fun h2 => ?_) | refine aIf_not (fun h2 => ?_) (fun h2 => ?_) | refine aIf_mk (fun h2 => ?_) (fun h2 => ?_)
          · conv => whnf
            repeat' (refine And.intro ?_ ?_; (first | omega | exact rfl | exact And.intro (by omega) (by omega) | exact Or.inr Nat.zero_lt_one))
            conv => whnf
            have e2 : ((j : Int)).toNat = j := by omega
            have e3 : (elt (.int .i64) (ups 0 p) j : Int) = (j : Int) := by
              rw [eltG (t := .int .i64) (show j < (ups 0 p).length by omega)]
              have := ups_get p 0 j (by omega)
              rw [this]
              exact congrArg Int.ofNat (Nat.zero_add j)
            rw [e2, e3]
            conv => whnf
            refine aIf_bne (fun h => absurd rfl h) (fun _ => ?_)
            conv => whnf
            refine ⟨j + 1, [], [.old 0, .old 1], (show j + 1 ≤ p by omega), (show p - (j + 1) < p - j by omega), ?_⟩
            repeat' (first | exact trivial | exact rfl | exact .inl rfl | (exact .inr rfl) | refine And.intro ?_ ?_)
            exact i64_at rfl (by omega)
          · conv => whnf
            first | refine aIf_dec (fun h3 => ?_) (fun h3 => ?_) | refine aIf_beq (fun h3 => ?_) (fun h3 => ?_) | refine aIf_bne (fun h3 => ?_) (fun h3 => ?_) | refine aIf_not (fun h3 => ?_) (fun h3 => ?_) | refine aIf_mk (fun h3 => ?_) (fun h3 => ?_)
            · have h4 : ((ups 0 p).length : Int) > (y.last : Int) := h3
              exact absurd hB2 (by omega)
            · conv => whnf
              refine ⟨⟨y.ats, y.at', y.i + 1, p⟩, [], [.old 0, .old 1], ?_, (show 4 - (y.i + 1) < 4 - y.i by omega), ?_⟩
              · refine ⟨⟨y1, y2, y3, y4, y5, y6⟩, (show y.i + 1 ≤ 4 by omega), (show p ≤ 32 by omega), fun j h1 h2 => ?_⟩
                have := hB3 j h1 h2
                rw [pl] at this
                exact this
              · repeat' (first | exact trivial | exact rfl | exact .inl rfl | (exact .inr rfl) | refine And.intro ?_ ?_)
                · exact congrArg Int.ofNat pl
                · exact i64_at rfl (by omega)
      · conv => whnf
        first | refine aIf_dec (fun h2 => ?_) (fun h2 => ?_) | refine aIf_beq (fun h2 => ?_) (fun h2 => ?_) | refine aIf_bne (fun h2 => ?_) (fun h2 => ?_) | refine aIf_not (fun h2 => ?_) (fun h2 => ?_) | refine aIf_mk (fun h2 => ?_) (fun h2 => ?_)
        · conv => whnf
          refine ACall.use0 (c11) rfl ?_
          conv => whnf
          refine ⟨[], _, _, ?_, rfl, rfl⟩
          repeat' (first | exact trivial | exact rfl | exact .inl rfl | (exact .inr rfl) | refine And.intro ?_ ?_)
        · have h2 : ¬ (y.ats.length : Int) = 0 := h2
          have q1 := tm (a := place) (k := (y.ats.length : Int)) (by omega)
          have q3 := modK_in (a := place) (k := (y.ats.length : Int)) (by omega)
          have q2 : IntKind.i64.wrap (place.tmod (y.ats.length : Int) + (y.ats.length : Int)) = place.tmod (y.ats.length : Int) + (y.ats.length : Int) := i64_at rfl (by omega)
          conv => whnf
          repeat' (refine And.intro ?_ ?_; (first | omega | exact rfl | exact And.intro (by omega) (by omega) | exact Or.inr Nat.zero_lt_one))
          conv => whnf
          rw [q2]
          repeat' (refine And.intro ?_ ?_; (first | omega | exact rfl | exact And.intro (by omega) (by omega) | exact Or.inr Nat.zero_lt_one))
          conv => whnf
          change 0 ≤ (place.tmod (y.ats.length : Int) + (y.ats.length : Int)).tmod (y.ats.length : Int) ∧ (place.tmod (y.ats.length : Int) + (y.ats.length : Int)).tmod (y.ats.length : Int) < (y.ats.length : Int) at q3
          generalize (place.tmod (y.ats.length : Int) + (y.ats.length : Int)).tmod (y.ats.length : Int) = P at q3 ⊢
          have tC : thereC (mk 0 y.ats, (y.ats.length : Int), y.at') P = 0 := by
            rw [thereC, if_pos aG, if_pos (show 0 ≤ P ∧ P < ((mk 0 y.ats).length : Int) by omega)]
          have tN : takeN (mk 0 y.ats, (y.ats.length : Int), y.at') P = ((mk 0 y.ats).take P.toNat ++ (mk 0 y.ats).drop (P.toNat + 1), (y.ats.length : Int), y.at') := by
            rw [takeN, if_pos tC]
          have tM : takeM (mk 0 y.ats, (y.ats.length : Int), y.at') P = elt tMsg (mk 0 y.ats) P.toNat := by
            rw [takeM, if_pos tC]
          have tG : ∀ j, j < y.ats.length → elt tMsg (mk 0 y.ats) j = (((0 + j : Nat) : Int) + 1, ((0 + j : Nat) : Int).tmod 64, [], y.ats[j]!) := by
            intro j hj
            rw [eltM (by omega), mk_get _ _ _ hj, getElem!_pos y.ats j hj]
          refine ACall.use0 (c8 (mk 0 y.ats, (y.ats.length : Int), y.at') P (show (mk 0 y.ats).length ≤ _ by omega)) rfl ?_
          rw [tC, tN, tM, tG _ (by omega)]
          have gG := fun j (hj : j + 1 < (mk 0 y.ats).length) => gap_get (l := mk 0 y.ats) (p := P.toNat) (by omega) hj
          have gl : ((mk 0 y.ats).take P.toNat ++ (mk 0 y.ats).drop (P.toNat + 1)).length = y.ats.length - 1 := by simp; omega
          generalize (mk 0 y.ats).take P.toNat ++ (mk 0 y.ats).drop (P.toNat + 1) = R at gG gl ⊢
          conv => whnf
          have w1 : IntKind.i64.wrap (P + 1) = P + 1 := i64_at rfl (by omega)
          have w2 : IntKind.i64.wrap ((y.ats.length : Int) - 1) = (y.ats.length : Int) - 1 := i64_at rfl (by omega)
          refine aIf_bne (fun h => absurd rfl h) (fun _ => ?_)
          conv => whnf
          refine aIf_bne (fun h => absurd (show ((0 + P.toNat : Nat) : Int) + 1 = IntKind.i64.wrap (P + 1) by rw [w1]; omega) h) (fun _ => ?_)
          conv => whnf
          refine aIf_bne (fun h => absurd (show (R.length : Int) = IntKind.i64.wrap ((y.ats.length : Int) - 1) by rw [w2]; omega) h) (fun _ => ?_)
          conv => whnf
          refine ACall.use0 (c11) rfl ?_
          conv => whnf
          refine aIf_not (fun h => absurd h (by simp)) (fun _ => ?_)
          conv => whnf
          refine ⟨Nat, ⟨fun j => j ≤ R.length, fun j => ([(1, .int .i64 P), (4, .f), (158, .sl tMsg R false), (159, .int .i64 (R.length : Int)), (160, .int .i64 (j : Int))], []), fun j => R.length - j⟩, 0, [], [], Nat.zero_le _, ?_, fun j hj => ?_⟩
          · repeat' (first | exact trivial | exact rfl | exact .inl rfl | (exact .inr rfl) | refine And.intro ?_ ?_)
          · replace hj : j ≤ R.length := hj
            conv => whnf
            first | refine aIf_dec (fun h3 => ?_) (fun h3 => ?_) | refine aIf_beq (fun h3 => ?_) (fun h3 => ?_) | refine aIf_bne (fun h3 => ?_) (fun h3 => ?_) | refine aIf_not (fun h3 => ?_) (fun h3 => ?_) | refine aIf_mk (fun h3 => ?_) (fun h3 => ?_)
            · conv => whnf
              repeat' (refine And.intro ?_ ?_; (first | omega | exact rfl | exact And.intro (by omega) (by omega) | exact Or.inr Nat.zero_lt_one))
              conv => whnf
              have e2 : ((j : Int)).toNat = j := by omega
              have v1 : IntKind.i64.wrap ((j : Int) + 1) = (j : Int) + 1 := i64_at rfl (by omega)
              have v2 : IntKind.i64.wrap ((j : Int) + 2) = (j : Int) + 2 := i64_at rfl (by omega)
              rw [e2, gG j (by omega)]
              by_cases hjp : j < P.toNat
              · rw [if_pos hjp, tG j (by omega)]
                conv => whnf
                first | refine aIf_dec (fun h4 => ?_) (fun h4 => ?_) | refine aIf_beq (fun h4 => ?_) (fun h4 => ?_) | refine aIf_bne (fun h4 => ?_) (fun h4 => ?_) | refine aIf_not (fun h4 => ?_) (fun h4 => ?_) | refine aIf_mk (fun h4 => ?_) (fun h4 => ?_)
                · conv => whnf
                  refine aIf_bne (fun h => absurd (show ((0 + j : Nat) : Int) + 1 = IntKind.i64.wrap ((j : Int) + 1) by rw [v1]; omega) h) (fun _ => ?_)
                  conv => whnf
                  first | refine aIf_dec (fun h5 => ?_) (fun h5 => ?_) | refine aIf_beq (fun h5 => ?_) (fun h5 => ?_) | refine aIf_bne (fun h5 => ?_) (fun h5 => ?_) | refine aIf_not (fun h5 => ?_) (fun h5 => ?_) | refine aIf_mk (fun h5 => ?_) (fun h5 => ?_)
                  · exact absurd h5 (by omega)
                  · conv => whnf
                    refine ⟨j + 1, [], [], (show j + 1 ≤ R.length by omega), (show R.length - (j + 1) < R.length - j by omega), ?_⟩
                    repeat' (first | exact trivial | exact rfl | exact .inl rfl | (exact .inr rfl) | refine And.intro ?_ ?_)
                    exact i64_at rfl (by omega)
                · exact absurd h4 (by omega)
              · rw [if_neg hjp, tG (j + 1) (by omega)]
                conv => whnf
                first | refine aIf_dec (fun h4 => ?_) (fun h4 => ?_) | refine aIf_beq (fun h4 => ?_) (fun h4 => ?_) | refine aIf_bne (fun h4 => ?_) (fun h4 => ?_) | refine aIf_not (fun h4 => ?_) (fun h4 => ?_) | refine aIf_mk (fun h4 => ?_) (fun h4 => ?_)
                · exact absurd h4 (by omega)
                · conv => whnf
                  first | refine aIf_dec (fun h5 => ?_) (fun h5 => ?_) | refine aIf_beq (fun h5 => ?_) (fun h5 => ?_) | refine aIf_bne (fun h5 => ?_) (fun h5 => ?_) | refine aIf_not (fun h5 => ?_) (fun h5 => ?_) | refine aIf_mk (fun h5 => ?_) (fun h5 => ?_)
                  · conv => whnf
                    refine aIf_bne (fun h => absurd (show ((0 + (j + 1) : Nat) : Int) + 1 = IntKind.i64.wrap ((j : Int) + 2) by rw [v2]; omega) h) (fun _ => ?_)
                    conv => whnf
                    refine ⟨j + 1, [], [], (show j + 1 ≤ R.length by omega), (show R.length - (j + 1) < R.length - j by omega), ?_⟩
                    repeat' (first | exact trivial | exact rfl | exact .inl rfl | (exact .inr rfl) | refine And.intro ?_ ?_)
                    exact i64_at rfl (by omega)
                  · exact absurd h5 (by omega)
            · conv => whnf
              refine ⟨[], _, _, ?_, rfl, rfl⟩
              repeat' (first | exact trivial | exact rfl | exact .inl rfl | (exact .inr rfl) | refine And.intro ?_ ?_)
end Go.Proofs.Try
