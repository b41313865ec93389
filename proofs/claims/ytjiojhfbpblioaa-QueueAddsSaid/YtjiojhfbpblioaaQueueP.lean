import Derived.Test.YtjiojhfbpblioaaQueueO
namespace Go.Proofs.Try
open Go.AM

def eqL : List Job → List Job → Bool
  | [], [] => true
  | a :: r, b :: s => eqJ a b && eqL r s
  | _, _ => false
theorem eqL_iff : ∀ {l m : List Job}, eqL l m = true ↔ l = m
  | [], [] => by simp [eqL]
  | a :: r, b :: s => by simp [eqL, eqL_iff (l := r) (m := s), eqJ_iff]
  | [], _ :: _ => by simp [eqL]
  | _ :: _, [] => by simp [eqL]
def likeQ (a b : Queue) : Bool := eqL a.1 b.1 && (a.2.1 == b.2.1 && a.2.2 == b.2.2)
theorem likeQ_iff {a b : Queue} : likeQ a b = true ↔ a = b := by
  obtain ⟨a1, a2, a3⟩ := a
  obtain ⟨b1, b2, b3⟩ := b
  simp [likeQ, eqL_iff]
theorem likeQ_ne {a b : Queue} (h : a ≠ b) : likeQ a b = false := by
  cases hq : likeQ a b with
  | true => exact absurd (likeQ_iff.1 hq) h
  | false => rfl
theorem likeQ_refl (a : Queue) : likeQ a a = true := likeQ_iff.2 rfl

set_option maxRecDepth 100000 in
theorem c25 (a b : Queue) (ha : a.1.length ≤ 9223372036854775807) : ACall E 25 [queueV a, queueV b] [] (fun r h' => r = .ret (.bool (likeQ a b)) ∧ h' = []) := by
  refine ACall.body envOK func25 rfl rfl rfl ?_
  conv => whnf
  first | refine aIf_dec (fun h1 => ?_) (fun h1 => ?_) | refine aIf_beq (fun h1 => ?_) (fun h1 => ?_) | refine aIf_bne (fun h1 => ?_) (fun h1 => ?_) | refine aIf_not (fun h1 => ?_) (fun h1 => ?_) | refine aIf_mk (fun h1 => ?_) (fun h1 => ?_)
  · rw [likeQ_ne (a := a) (b := b) (fun hh => h1 (by rw [hh]))]
    conv => whnf
    refine ⟨[], _, _, ?_, rfl, rfl⟩
    repeat' (first | exact trivial | exact rfl | exact .inl rfl | (exact .inr rfl) | refine And.intro ?_ ?_)
  · have h1' : a.1.length = b.1.length := by omega
    conv => whnf
    first | refine aIf_dec (fun h2 => ?_) (fun h2 => ?_) | refine aIf_beq (fun h2 => ?_) (fun h2 => ?_) | refine aIf_bne (fun h2 => ?_) (fun h2 => ?_) | refine aIf_not (fun h2 => ?_) (fun h2 => ?_) | refine aIf_mk (fun h2 => ?_) (fun h2 => ?_)
    · rw [likeQ_ne (a := a) (b := b) (fun hh => h2 (by rw [hh]))]
      conv => whnf
      refine ⟨[], _, _, ?_, rfl, rfl⟩
      repeat' (first | exact trivial | exact rfl | exact .inl rfl | (exact .inr rfl) | refine And.intro ?_ ?_)
    · conv => whnf
      first | refine aIf_dec (fun h3 => ?_) (fun h3 => ?_) | refine aIf_beq (fun h3 => ?_) (fun h3 => ?_) | refine aIf_bne (fun h3 => ?_) (fun h3 => ?_) | refine aIf_not (fun h3 => ?_) (fun h3 => ?_) | refine aIf_mk (fun h3 => ?_) (fun h3 => ?_)
      · rw [likeQ_ne (a := a) (b := b) (fun hh => h3 (by rw [hh]))]
        conv => whnf
        refine ⟨[], _, _, ?_, rfl, rfl⟩
        repeat' (first | exact trivial | exact rfl | exact .inl rfl | (exact .inr rfl) | refine And.intro ?_ ?_)
      · conv => whnf
        refine ⟨Nat, ⟨fun i => i ≤ a.1.length ∧ ∀ k (_ : k < i), elt tJob a.1 k = elt tJob b.1 k, fun i => ([(2, .ptr 0 0), (3, .ptr 1 0), (29, .int .i64 (a.1.length : Int)), (30, .int .i64 (i : Int))], [.var [.sl tJob a.1 false, .int .i64 a.2.1, .int .i64 a.2.2], .var [.sl tJob b.1 false, .int .i64 b.2.1, .int .i64 b.2.2]]), fun i => a.1.length - i⟩, 0, [], [.old 0, .old 1],
          ⟨Nat.zero_le _, fun k hk => absurd hk (Nat.not_lt_zero _)⟩, ?_, fun i hi => ?_⟩
        · repeat' (first | exact trivial | exact rfl | exact .inl rfl | (exact .inr rfl) | refine And.intro ?_ ?_)
        · obtain ⟨i1, i2⟩ : i ≤ a.1.length ∧ ∀ k (_ : k < i), elt tJob a.1 k = elt tJob b.1 k := hi
          conv => whnf
          first | refine aIf_dec (fun h4 => ?_) (fun h4 => ?_) | refine aIf_beq (fun h4 => ?_) (fun h4 => ?_) | refine aIf_bne (fun h4 => ?_) (fun h4 => ?_) | refine aIf_not (fun h4 => ?_) (fun h4 => ?_) | refine aIf_mk (fun h4 => ?_) (fun h4 => ?_)
          · conv => whnf
            refine And.intro (by omega) (And.intro (by omega) ?_)
            conv => whnf
            refine And.intro (by omega) (And.intro (by omega) ?_)
            rw [show ((i : Int)).toNat = i from rfl]
            obtain ⟨x, hx⟩ : ∃ x : Job, elt tJob a.1 i = x := ⟨_, rfl⟩
            obtain ⟨y, hy⟩ : ∃ y : Job, elt tJob b.1 i = y := ⟨_, rfl⟩
            rw [hx, hy]
            conv => whnf
            refine aIf_not (fun h => ?_) (fun h => ?_)
            · have hne : x ≠ y := fun hh => by
                have h' : eqJ x y = false := h
                rw [eqJ_iff.2 hh] at h'
                cases h'
              rw [likeQ_ne (a := a) (b := b) (fun hh => hne (by rw [← hx, ← hy, hh]))]
              conv => whnf
              refine ⟨[], _, _, ?_, rfl, rfl⟩
              repeat' (first | exact trivial | exact rfl | exact .inl rfl | (exact .inr rfl) | refine And.intro ?_ ?_)
            · have he : x = y := eqJ_iff.1 h
              conv => whnf
              refine ⟨i + 1, [], [.old 0, .old 1], ⟨by omega, fun k hk => ?_⟩, (show a.1.length - (i + 1) < a.1.length - i by omega), ?_⟩
              · rcases Nat.lt_or_ge k i with h5 | h5
                · exact i2 k h5
                · have : k = i := by omega
                  subst this
                  rw [hx, hy, he]
              · repeat' (first | exact trivial | exact rfl | exact .inl rfl | (exact .inr rfl) | refine And.intro ?_ ?_)
                exact i64_at rfl (by omega)
          · have hab : a = b := by
              refine Prod.ext (List.ext_getElem h1' fun k hk hk' => ?_) (Prod.ext (by simpa using h2) (by simpa using h3))
              rw [← eltJ hk, ← eltJ hk']
              exact i2 k (by omega)
            rw [likeQ_iff.2 hab]
            conv => whnf
            refine ⟨[], _, _, ?_, rfl, rfl⟩
            repeat' (first | exact trivial | exact rfl | exact .inl rfl | (exact .inr rfl) | refine And.intro ?_ ?_)

set_option maxRecDepth 100000 in
theorem c28 (l : List Int) (f : Bool) (hl : l.length ≤ 9223372036854775807) : ACall E 28 [.sl (.int .i64) l f] [] (fun r h' => r = .ret (.bool (!(l.any out))) ∧ h' = []) := by
  refine ACall.body envOK func28 rfl rfl rfl ?_
  conv => whnf
  refine ⟨Nat, ⟨fun i => i ≤ l.length ∧ ∀ k (_ : k < i) (hk : k < l.length), out l[k] = false, fun i => ([(5, .sl (.int .i64) l f), (6, .int .i64 (l.length : Int)), (7, .int .i64 (i : Int))], []), fun i => l.length - i⟩, 0, [], [],
    ⟨Nat.zero_le _, fun k hk => absurd hk (Nat.not_lt_zero _)⟩, ?_, fun i hi => ?_⟩
  · repeat' (first | exact trivial | exact rfl | exact .inl rfl | (exact .inr rfl) | refine And.intro ?_ ?_)
  · obtain ⟨i1, i2⟩ : i ≤ l.length ∧ ∀ k (_ : k < i) (hk : k < l.length), out l[k] = false := hi
    conv => whnf
    first | refine aIf_dec (fun h4 => ?_) (fun h4 => ?_) | refine aIf_beq (fun h4 => ?_) (fun h4 => ?_) | refine aIf_bne (fun h4 => ?_) (fun h4 => ?_) | refine aIf_not (fun h4 => ?_) (fun h4 => ?_) | refine aIf_mk (fun h4 => ?_) (fun h4 => ?_)
    · have hlt : i < l.length := by omega
      conv => whnf
      refine And.intro (by omega) (And.intro (by omega) ?_)
      rw [show ((i : Int)).toNat = i from rfl]
      obtain ⟨x, hx⟩ : ∃ x : Int, elt (.int .i64) l i = x := ⟨_, rfl⟩
      rw [hx]
      have hxl : l[i] = x := by rw [← eltI hlt]; exact hx
      have yes : out x = true → (!(l.any out)) = false := fun h => by rw [List.any_eq_true.2 ⟨x, by rw [← hxl]; exact List.getElem_mem hlt, h⟩]; rfl
      conv => whnf
      first | refine aIf_dec (fun h5 => ?_) (fun h5 => ?_) | refine aIf_beq (fun h5 => ?_) (fun h5 => ?_) | refine aIf_bne (fun h5 => ?_) (fun h5 => ?_) | refine aIf_not (fun h5 => ?_) (fun h5 => ?_) | refine aIf_mk (fun h5 => ?_) (fun h5 => ?_)
      · rw [yes (by simp [out, h5])]
        conv => whnf
        refine ⟨[], _, _, ?_, rfl, rfl⟩
        repeat' (first | exact trivial | exact rfl | exact .inl rfl | (exact .inr rfl) | refine And.intro ?_ ?_)
      · conv => whnf
        first | refine aIf_dec (fun h6 => ?_) (fun h6 => ?_) | refine aIf_beq (fun h6 => ?_) (fun h6 => ?_) | refine aIf_bne (fun h6 => ?_) (fun h6 => ?_) | refine aIf_not (fun h6 => ?_) (fun h6 => ?_) | refine aIf_mk (fun h6 => ?_) (fun h6 => ?_)
        · rw [yes (by simp [out, h6])]
          conv => whnf
          refine ⟨[], _, _, ?_, rfl, rfl⟩
          repeat' (first | exact trivial | exact rfl | exact .inl rfl | (exact .inr rfl) | refine And.intro ?_ ?_)
        · conv => whnf
          refine ⟨i + 1, [], [], ⟨by omega, fun k hk hkl => ?_⟩, (show l.length - (i + 1) < l.length - i by omega), ?_⟩
          · rcases Nat.lt_or_ge k i with h7 | h7
            · exact i2 k h7 hkl
            · have : k = i := by omega
              subst this
              rw [hxl]; simp only [out, h5, h6, decide_false, Bool.or_false]
          · repeat' (first | exact trivial | exact rfl | exact .inl rfl | (exact .inr rfl) | refine And.intro ?_ ?_)
            exact i64_at rfl (by omega)
    · have : l.any out = false := by
        rw [List.any_eq_false]
        intro x hx
        obtain ⟨k, hk, rfl⟩ := List.getElem_of_mem hx
        simp [i2 k (by omega) hk]
      rw [this]
      conv => whnf
      refine ⟨[], _, _, ?_, rfl, rfl⟩
      repeat' (first | exact trivial | exact rfl | exact .inl rfl | (exact .inr rfl) | refine And.intro ?_ ?_)

set_option maxRecDepth 100000 in
theorem c29 (q : Queue) (i : Nat) (j : Job) (hi : i < q.1.length) (hl : q.1.length ≤ 1099511627776) : ACall E 29 [queueV q, .int .i64 (i : Int), jobV j] [] (fun r h' => r = .ret (queueV (q.1.set i j, q.2.1, q.2.2)) ∧ h' = []) := by
  refine ACall.body envOK func29 rfl rfl rfl ?_
  conv => whnf
  refine And.intro (show sumOk (0 + q.1.length) 80 from ⟨by omega, by omega⟩) ?_
  conv => whnf
  refine And.intro (by omega) (And.intro (show (i : Int) < (q.1.length : Int) by omega) ?_)
  conv => whnf
  refine And.intro (show ((i : Int)).toNat < q.1.length from hi) ?_
  conv => whnf
  refine ⟨[], _, _, ?_, rfl, rfl⟩
  repeat' (first | exact trivial | exact rfl | exact .inl rfl | (exact .inr rfl) | refine And.intro ?_ ?_)

def heldN (q : Queue) (id token : Int) : Int × Int :=
  if idxOf (isId id) q.1 < 0 then (0, 9)
  else if (elt tJob q.1 (idxOf (isId id) q.1).toNat).2.2.2.1 ≠ (2 : Int) then (0, 15)
  else if (elt tJob q.1 (idxOf (isId id) q.1).toNat).2.2.2.2.2.1 ≠ token then (0, 16)
  else (idxOf (isId id) q.1, 0)
set_option maxRecDepth 100000 in
theorem c31 (q : Queue) (id token : Int) (hl : q.1.length ≤ 9223372036854775807) : ACall E 31 [queueV q, .int .i64 id, .int .i64 token] [] (fun r h' => r = .ret (.tup [.int .i64 (heldN q id token).1, .int .i64 (heldN q id token).2]) ∧ h' = []) := by
  refine ACall.body envOK func31 rfl rfl rfl ?_
  conv => whnf
  refine ACall.use0 (c18 q id hl) rfl ?_
  conv => whnf
  first | refine aIf_dec (fun h1 => ?_) (fun h1 => ?_) | refine aIf_beq (fun h1 => ?_) (fun h1 => ?_) | refine aIf_bne (fun h1 => ?_) (fun h1 => ?_) | refine aIf_not (fun h1 => ?_) (fun h1 => ?_) | refine aIf_mk (fun h1 => ?_) (fun h1 => ?_)
  · rw [show heldN q id token = (0, 9) by rw [heldN, if_pos h1]]
    conv => whnf
    refine ⟨[], _, _, ?_, rfl, rfl⟩
    repeat' (first | exact trivial | exact rfl | exact .inl rfl | (exact .inr rfl) | refine And.intro ?_ ?_)
  · have h1' : ¬ idxOf (isId id) q.1 < 0 := h1
    obtain ⟨i, hi, hil, _, _⟩ := idxOf_lt (p := isId id) (l := q.1) (by omega)
    have hN : heldN q id token = if (elt tJob q.1 i).2.2.2.1 ≠ (2 : Int) then (0, 15) else if (elt tJob q.1 i).2.2.2.2.2.1 ≠ token then (0, 16) else ((i : Int), 0) := by
      rw [heldN, if_neg h1', hi]; rfl
    rw [hN, hi]
    conv => whnf
    refine And.intro (by omega) (And.intro (by omega) ?_)
    rw [show ((i : Int)).toNat = i from rfl]
    conv => whnf
    first | refine aIf_dec (fun h2 => ?_) (fun h2 => ?_) | refine aIf_beq (fun h2 => ?_) (fun h2 => ?_) | refine aIf_bne (fun h2 => ?_) (fun h2 => ?_) | refine aIf_not (fun h2 => ?_) (fun h2 => ?_) | refine aIf_mk (fun h2 => ?_) (fun h2 => ?_)
    · rw [if_pos h2]
      conv => whnf
      refine ⟨[], _, _, ?_, rfl, rfl⟩
      repeat' (first | exact trivial | exact rfl | exact .inl rfl | (exact .inr rfl) | refine And.intro ?_ ?_)
    · rw [if_neg (by simpa using h2)]
      conv => whnf
      refine And.intro (by omega) (And.intro (by omega) ?_)
      rw [show ((i : Int)).toNat = i from rfl]
      conv => whnf
      first | refine aIf_dec (fun h3 => ?_) (fun h3 => ?_) | refine aIf_beq (fun h3 => ?_) (fun h3 => ?_) | refine aIf_bne (fun h3 => ?_) (fun h3 => ?_) | refine aIf_not (fun h3 => ?_) (fun h3 => ?_) | refine aIf_mk (fun h3 => ?_) (fun h3 => ?_)
      · rw [if_pos h3]
        conv => whnf
        refine ⟨[], _, _, ?_, rfl, rfl⟩
        repeat' (first | exact trivial | exact rfl | exact .inl rfl | (exact .inr rfl) | refine And.intro ?_ ?_)
      · rw [if_neg (by simpa using h3)]
        conv => whnf
        refine ⟨[], _, _, ?_, rfl, rfl⟩
        repeat' (first | exact trivial | exact rfl | exact .inl rfl | (exact .inr rfl) | refine And.intro ?_ ?_)
set_option maxRecDepth 100000 in
theorem c32 (a b : Int) (h1 : -9223372036854775808 ≤ a + b ∧ a + b ≤ 9223372036854775807) : ACall E 32 [.int .i64 a, .int .i64 b] [] (fun r h' => r = .ret (.int .i64 (min (a + b) 1099511627776)) ∧ h' = []) := by
  have e1 : IntKind.i64.wrap (a + b) = a + b := i64_at rfl h1
  refine ACall.body envOK func32 rfl rfl rfl ?_
  conv => whnf
  rw [e1]
  first | refine aIf_dec (fun h => ?_) (fun h => ?_) | refine aIf_beq (fun h => ?_) (fun h => ?_) | refine aIf_bne (fun h => ?_) (fun h => ?_) | refine aIf_not (fun h => ?_) (fun h => ?_) | refine aIf_mk (fun h => ?_) (fun h => ?_)
  · rw [show min (a + b) 1099511627776 = 1099511627776 by omega]
    conv => whnf
    refine ⟨[], _, _, ?_, rfl, rfl⟩
    repeat' (first | exact trivial | exact rfl | exact .inl rfl | (exact .inr rfl) | refine And.intro ?_ ?_)
  · rw [show min (a + b) 1099511627776 = a + b by omega]
    conv => whnf
    refine ⟨[], _, _, ?_, rfl, rfl⟩
    repeat' (first | exact trivial | exact rfl | exact .inl rfl | (exact .inr rfl) | refine And.intro ?_ ?_)
    exact e1
theorem wait_at {t : Int} (h : 0 ≤ t ∧ t ≤ 10) : (elt (.int .i64) ([2, 2, 4, 8, 16, 32, 60, 60, 60, 60, 60] : List Int) t.toNat : Int) = waitI t := by
  have : t = 0 ∨ t = 1 ∨ t = 2 ∨ t = 3 ∨ t = 4 ∨ t = 5 ∨ t = 6 ∨ t = 7 ∨ t = 8 ∨ t = 9 ∨ t = 10 := by omega
  rcases this with rfl | rfl | rfl | rfl | rfl | rfl | rfl | rfl | rfl | rfl | rfl <;> (rw [eltI (by decide)]; decide)
set_option maxRecDepth 100000 in
theorem c33 (t : Int) (h : 0 ≤ t ∧ t ≤ 10) : ACall E 33 [.int .i64 t] [] (fun r h' => r = .ret (.int .i64 (waitI t)) ∧ h' = []) := by
  refine ACall.body envOK func33 rfl rfl rfl ?_
  conv => whnf
  refine And.intro h.1 (And.intro (show t < 11 by omega) ?_)
  conv => whnf
  refine And.intro (show t.toNat < 11 by omega) ?_
  conv => whnf
  refine ⟨[], _, _, ?_, rfl, rfl⟩
  repeat' (first | exact trivial | exact rfl | exact .inl rfl | (exact .inr rfl) | refine And.intro ?_ ?_)
  exact wait_at h
end Go.Proofs.Try
