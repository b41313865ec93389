import Derived.Test.YtjiojhfbpblioaaQueueEnv
namespace Go.Proofs.Try
open Go.AM

abbrev tJob : Ty := .pair (.int .i64) (.pair .str (.pair .str (.pair (.int .i64) (.pair (.int .i64) (.pair (.int .i64) (.pair (.int .i64) (.int .i64)))))))
abbrev Job : Type := Int × Str × Str × Int × Int × Int × Int × Int
abbrev Queue : Type := List Job × Int × Int
abbrev jobV (m : Job) : AV := .agg [.int .i64 m.1, .str m.2.1, .str m.2.2.1, .int .i64 m.2.2.2.1, .int .i64 m.2.2.2.2.1, .int .i64 m.2.2.2.2.2.1, .int .i64 m.2.2.2.2.2.2.1, .int .i64 m.2.2.2.2.2.2.2]
abbrev queueV (q : Queue) : AV := .agg [.sl tJob q.1 false, .int .i64 q.2.1, .int .i64 q.2.2]

theorem eltJ {l : List Job} {i : Nat} (h : i < l.length) : elt tJob l i = l[i] := elt_eq (t := tJob) h
theorem eltI {l : List Int} {i : Nat} (h : i < l.length) : elt (.int .i64) l i = l[i] := elt_eq (t := .int .i64) h
theorem i64_at {n m : Int} (e : n = m) (h : -9223372036854775808 ≤ n ∧ n ≤ 9223372036854775807) : IntKind.i64.wrap n = m := by
  rw [IntKind.wrap_i64, ← e]
  omega

/-- The first place of what a test takes; -1: there is none. -/
def idxOf {α : Type} (p : α → Bool) (l : List α) : Int := match l.findIdx? p with | some i => (i : Int) | none => -1
theorem idxOf_at {α : Type} {p : α → Bool} {l : List α} {i : Nat} (hi : i < l.length) (h0 : ∀ j (h : j < i), p (l[j]'(Nat.lt_trans h hi)) = false) (h1 : p l[i] = true) : idxOf p l = i := by
  have : l.findIdx? p = some i := by
    rw [List.findIdx?_eq_some_iff_getElem]
    refine ⟨hi, h1, fun j hj => ?_⟩
    rw [h0 j hj]
    simp
  rw [idxOf, this]
theorem idxOf_none {α : Type} {p : α → Bool} {l : List α} (h0 : ∀ x ∈ l, p x = false) : idxOf p l = -1 := by
  have : l.findIdx? p = none := by
    rw [List.findIdx?_eq_none_iff]
    exact h0
  rw [idxOf, this]
theorem idxOf_ge {α : Type} {p : α → Bool} {l : List α} : decide (idxOf p l ≥ 0) = l.any p := by
  unfold idxOf
  cases hq : l.findIdx? p with
  | none =>
    have := List.findIdx?_eq_none_iff.1 hq
    have e : l.any p = false := by
      rw [List.any_eq_false]
      intro x hx
      simp [this x hx]
    rw [e]
    simp
  | some i =>
    obtain ⟨hi, h1, _⟩ := List.findIdx?_eq_some_iff_getElem.1 hq
    simp only [List.any_eq_true.2 ⟨_, List.getElem_mem hi, h1⟩]
    simp
theorem idxOf_lt {α : Type} {p : α → Bool} {l : List α} (h : 0 ≤ idxOf p l) : ∃ i : Nat, idxOf p l = i ∧ ∃ hi : i < l.length, p l[i] = true ∧ ∀ j (h : j < i), p (l[j]'(Nat.lt_trans h hi)) = false := by
  unfold idxOf at h ⊢
  cases hq : l.findIdx? p with
  | none => rw [hq] at h; simp at h
  | some i =>
    obtain ⟨hi, h1, h2⟩ := List.findIdx?_eq_some_iff_getElem.1 hq
    exact ⟨i, rfl, hi, h1, fun j hj => by simpa using h2 j hj⟩
theorem idxOf_neg {α : Type} {p : α → Bool} {l : List α} (h : ¬ 0 ≤ idxOf p l) : idxOf p l = -1 ∧ ∀ x ∈ l, p x = false := by
  unfold idxOf at h ⊢
  cases hq : l.findIdx? p with
  | none => exact ⟨rfl, fun x hx => List.findIdx?_eq_none_iff.1 hq x hx⟩
  | some i => rw [hq] at h; simp at h

def out (n : Int) : Bool := decide (n < 0) || decide (n > 1099511627776)
set_option maxRecDepth 100000 in
theorem c57 (n : Int) : ACall E 57 [.int .i64 n] [] (fun r h' => r = .ret (.bool (out n)) ∧ h' = []) := by
  refine ACall.body envOK func57 rfl rfl rfl ?_
  conv => whnf
  repeat' ((conv => whnf); first | refine And.intro (by omega) ?_ | refine aIf_dec (fun h => ?_) (fun h => ?_) | refine aIf_beq (fun h => ?_) (fun h => ?_) | refine aIf_bne (fun h => ?_) (fun h => ?_) | refine aIf_not (fun h => ?_) (fun h => ?_))
  all_goals (try conv => whnf)
  all_goals (refine ⟨[], _, _, ?_, rfl, rfl⟩)
  all_goals (repeat' (first | exact trivial | exact rfl | exact .inl rfl | (exact .inr rfl) | refine And.intro ?_ ?_))
  all_goals (conv => whnf)
  all_goals (first | exact trivial | omega | (simp_all [ out]; done) | (simp [ out, *] <;> omega) | (simp_all [ out] <;> omega))


set_option maxRecDepth 100000 in
theorem c61 (l : List Int) (f : Bool) (hl : l.length ≤ 9223372036854775807) : ACall E 61 [.sl (.int .i64) l f, .fn (.func 57) [] []] [] (fun r h' => r = .ret (.int .i64 (idxOf out l)) ∧ h' = []) := by
  refine ACall.body envOK func61 rfl rfl rfl ?_
  conv => whnf
  refine ⟨Nat, ⟨fun i => i ≤ l.length ∧ ∀ j (_ : j < i) (hj : j < l.length), out l[j] = false, fun i => ([(0, .sl (.int .i64) l f), (1, .fn (.func 57) [] []), (7, .int .i64 (l.length : Int)), (8, .int .i64 (i : Int))], []), fun i => l.length - i⟩, 0, [], [], ?_, ?_, fun i hi => ?_⟩
  · exact ⟨Nat.zero_le _, fun j hj => absurd hj (Nat.not_lt_zero _)⟩
  · repeat' (first | exact trivial | exact rfl | exact .inl rfl | (exact .inr rfl) | refine And.intro ?_ ?_)
  · obtain ⟨hi1, hi2⟩ : i ≤ l.length ∧ ∀ j (_ : j < i) (hj : j < l.length), out l[j] = false := hi
    conv => whnf
    first | refine aIf_dec (fun h => ?_) (fun h => ?_) | refine aIf_beq (fun h => ?_) (fun h => ?_) | refine aIf_bne (fun h => ?_) (fun h => ?_) | refine aIf_not (fun h => ?_) (fun h => ?_) | refine aIf_mk (fun h => ?_) (fun h => ?_)
    · have hlt : i < l.length := by omega
      conv => whnf
      refine And.intro (by omega) ?_
      conv => whnf
      refine And.intro (by omega) ?_
      conv => whnf
      have e1 : ((i : Int)).toNat = i := by omega
      rw [e1]
      refine ACall.det (c57 (elt (.int .i64) l i)) ?_
      conv => whnf
      refine aIf_mk (fun hb => ?_) (fun hb => ?_)
      · conv => whnf
        refine ⟨[], _, _, ?_, rfl, rfl⟩
        have e := idxOf_at (p := out) hlt (fun j hj => hi2 j hj _) (by rw [← elt_eq (t := (.int .i64)) hlt]; exact hb)
        rw [e]
        repeat' (first | exact trivial | exact rfl | exact .inl rfl | (exact .inr rfl) | refine And.intro ?_ ?_)
      · conv => whnf
        refine ⟨i + 1, [], [], ⟨?_, ?_⟩, ?_, ?_⟩
        · omega
        · intro j hj hjl
          rcases Nat.lt_or_ge j i with h1 | h1
          · exact hi2 j h1 hjl
          · have : j = i := by omega
            subst this
            rw [← elt_eq (t := (.int .i64)) hlt]
            exact hb
        · show l.length - (i + 1) < l.length - i
          omega
        · repeat' (first | exact trivial | exact rfl | exact .inl rfl | (exact .inr rfl) | refine And.intro ?_ ?_)
          exact i64_at rfl (by omega)
    · conv => whnf
      refine ⟨[], _, _, ?_, rfl, rfl⟩
      rw [idxOf_none (p := out) (fun x hx => by obtain ⟨j, hj, rfl⟩ := List.getElem_of_mem hx; exact hi2 j (by omega) hj)]
      repeat' (first | exact trivial | exact rfl | exact .inl rfl | (exact .inr rfl) | refine And.intro ?_ ?_)
set_option maxRecDepth 100000 in
theorem c56 (l : List Int) (f : Bool) (hl : l.length ≤ 9223372036854775807) : ACall E 56 [.sl (.int .i64) l f, .fn (.func 57) [] []] [] (fun r h' => r = .ret (.bool (l.any out)) ∧ h' = []) := by
  refine ACall.body envOK func56 rfl rfl rfl ?_
  conv => whnf
  refine ACall.det (c61 l f hl) ?_
  conv => whnf
  refine ⟨[], _, _, ?_, rfl, rfl⟩
  repeat' (first | exact trivial | exact rfl | exact .inl rfl | (exact .inr rfl) | refine And.intro ?_ ?_)
  conv => whnf
  exact idxOf_ge
set_option maxRecDepth 100000 in
theorem c37 (l : List Int) (f : Bool) (hl : l.length ≤ 9223372036854775807) : ACall E 37 [.sl (.int .i64) l f] [] (fun r h' => r = .ret (.bool (!(l.any out))) ∧ h' = []) := by
  refine ACall.body envOK func37 rfl rfl rfl ?_
  conv => whnf
  refine ACall.use0 (c56 l f hl) rfl ?_
  conv => whnf
  refine ⟨[], _, _, ?_, rfl, rfl⟩
  repeat' (first | exact trivial | exact rfl | exact .inl rfl | (exact .inr rfl) | refine And.intro ?_ ?_)

def opn (j : Job) : Bool := j.2.2.2.1 == 1 || j.2.2.2.1 == 2
set_option maxRecDepth 100000 in
theorem c36 (j : Job) : ACall E 36 [jobV j] [] (fun r h' => r = .ret (.bool (opn j)) ∧ h' = []) := by
  refine ACall.body envOK func36 rfl rfl rfl ?_
  conv => whnf
  first | refine aIf_dec (fun h => ?_) (fun h => ?_) | refine aIf_beq (fun h => ?_) (fun h => ?_) | refine aIf_bne (fun h => ?_) (fun h => ?_) | refine aIf_not (fun h => ?_) (fun h => ?_) | refine aIf_mk (fun h => ?_) (fun h => ?_)
  · all_goals (try conv => whnf)
    all_goals (refine ⟨[], _, _, ?_, rfl, rfl⟩)
    all_goals (repeat' (first | exact trivial | exact rfl | exact .inl rfl | (exact .inr rfl) | refine And.intro ?_ ?_))
    all_goals (conv => whnf)
    all_goals (first | exact trivial | omega | (simp_all [ opn]; done) | (simp [ opn, *] <;> omega) | (simp_all [ opn] <;> omega))
  · all_goals (try conv => whnf)
    all_goals (refine ⟨[], _, _, ?_, rfl, rfl⟩)
    all_goals (repeat' (first | exact trivial | exact rfl | exact .inl rfl | (exact .inr rfl) | refine And.intro ?_ ?_))
    all_goals (conv => whnf)
    all_goals (first | exact trivial | omega | (simp_all [ opn]; done) | (simp [ opn, *] <;> omega) | (simp_all [ opn] <;> omega))
set_option maxRecDepth 100000 in
theorem c40 (a b : Int) (h1 : -9223372036854775808 ≤ a + b ∧ a + b ≤ 9223372036854775807) : ACall E 40 [.int .i64 a, .int .i64 b] [] (fun r h' => r = .ret (.int .i64 (min (a + b) 1099511627776)) ∧ h' = []) := by
  refine ACall.body envOK func40 rfl rfl rfl ?_
  conv => whnf
  rw [i64_at (n := a + b) rfl h1]
  refine ⟨[], _, _, ?_, rfl, rfl⟩
  repeat' (first | exact trivial | exact rfl | exact .inl rfl | (exact .inr rfl) | refine And.intro ?_ ?_)

def hold (key : Str) (id : Int) (j : Job) : Bool := opn j && (j.2.1 == key && j.1 != id)
set_option maxRecDepth 100000 in
theorem c58 (key : Str) (id : Int) (j : Job) : ACall E 58 [jobV j, .ptr 0 0, .ptr 1 0] [.var [.str key], .var [.int .i64 id]] (fun r h' => r = .ret (.bool (hold key id j)) ∧ h' = [.var [.str key], .var [.int .i64 id]]) := by
  refine ACall.body envOK func58 rfl rfl rfl ?_
  conv => whnf
  refine ACall.use0 (c36 j) rfl ?_
  conv => whnf
  refine aIf_mk (fun h1 => ?_) (fun h1 => ?_)
  · conv => whnf
    refine aIf_mk (fun h2 => ?_) (fun h2 => ?_)
    · all_goals (try conv => whnf)
      all_goals (refine ⟨[.old 0, .old 1], _, _, ?_, rfl, rfl⟩)
      all_goals (repeat' (first | exact trivial | exact rfl | exact .inl rfl | (exact .inr rfl) | refine And.intro ?_ ?_))
      all_goals (conv => whnf)
      all_goals (first | exact trivial | omega | (simp_all [ hold]; done) | (simp [ hold, *] <;> omega) | (simp_all [ hold] <;> omega))
    · all_goals (try conv => whnf)
      all_goals (refine ⟨[.old 0, .old 1], _, _, ?_, rfl, rfl⟩)
      all_goals (repeat' (first | exact trivial | exact rfl | exact .inl rfl | (exact .inr rfl) | refine And.intro ?_ ?_))
      all_goals (conv => whnf)
      all_goals (first | exact trivial | omega | (simp_all [ hold]; done) | (simp [ hold, *] <;> omega) | (simp_all [ hold] <;> omega))
  · all_goals (try conv => whnf)
    all_goals (refine ⟨[.old 0, .old 1], _, _, ?_, rfl, rfl⟩)
    all_goals (repeat' (first | exact trivial | exact rfl | exact .inl rfl | (exact .inr rfl) | refine And.intro ?_ ?_))
    all_goals (conv => whnf)
    all_goals (first | exact trivial | omega | (simp_all [ hold]; done) | (simp [ hold, *] <;> omega) | (simp_all [ hold] <;> omega))
def rdy (now : Int) (j : Job) : Bool := opn j && decide (j.2.2.2.2.2.2.1 ≤ now)
set_option maxRecDepth 100000 in
theorem c35 (now : Int) (j : Job) : ACall E 35 [jobV j, .ptr 0 0] [.var [.int .i64 now]] (fun r h' => r = .ret (.bool (rdy now j)) ∧ h' = [.var [.int .i64 now]]) := by
  refine ACall.body envOK func35 rfl rfl rfl ?_
  conv => whnf
  refine ACall.use0 (c36 j) rfl ?_
  conv => whnf
  refine aIf_mk (fun h1 => ?_) (fun h1 => ?_)
  · all_goals (try conv => whnf)
    all_goals (refine ⟨[.old 0], _, _, ?_, rfl, rfl⟩)
    all_goals (repeat' (first | exact trivial | exact rfl | exact .inl rfl | (exact .inr rfl) | refine And.intro ?_ ?_))
    all_goals (conv => whnf)
    all_goals (first | exact trivial | omega | (simp_all [ rdy]; done) | (simp [ rdy, *] <;> omega) | (simp_all [ rdy] <;> omega))
  · all_goals (try conv => whnf)
    all_goals (refine ⟨[.old 0], _, _, ?_, rfl, rfl⟩)
    all_goals (repeat' (first | exact trivial | exact rfl | exact .inl rfl | (exact .inr rfl) | refine And.intro ?_ ?_))
    all_goals (conv => whnf)
    all_goals (first | exact trivial | omega | (simp_all [ rdy]; done) | (simp [ rdy, *] <;> omega) | (simp_all [ rdy] <;> omega))
def ended (j : Job) : Bool := j.2.2.2.1 == 3 || j.2.2.2.1 == 4
set_option maxRecDepth 100000 in
theorem c48 (j : Job) : ACall E 48 [jobV j] [] (fun r h' => r = .ret (.bool (ended j)) ∧ h' = []) := by
  refine ACall.body envOK func48 rfl rfl rfl ?_
  conv => whnf
  first | refine aIf_dec (fun h => ?_) (fun h => ?_) | refine aIf_beq (fun h => ?_) (fun h => ?_) | refine aIf_bne (fun h => ?_) (fun h => ?_) | refine aIf_not (fun h => ?_) (fun h => ?_) | refine aIf_mk (fun h => ?_) (fun h => ?_)
  · all_goals (try conv => whnf)
    all_goals (refine ⟨[], _, _, ?_, rfl, rfl⟩)
    all_goals (repeat' (first | exact trivial | exact rfl | exact .inl rfl | (exact .inr rfl) | refine And.intro ?_ ?_))
    all_goals (conv => whnf)
    all_goals (first | exact trivial | omega | (simp_all [ ended]; done) | (simp [ ended, *] <;> omega) | (simp_all [ ended] <;> omega))
  · all_goals (try conv => whnf)
    all_goals (refine ⟨[], _, _, ?_, rfl, rfl⟩)
    all_goals (repeat' (first | exact trivial | exact rfl | exact .inl rfl | (exact .inr rfl) | refine And.intro ?_ ?_))
    all_goals (conv => whnf)
    all_goals (first | exact trivial | omega | (simp_all [ ended]; done) | (simp [ ended, *] <;> omega) | (simp_all [ ended] <;> omega))
end Go.Proofs.Try
