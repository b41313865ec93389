import Derived.Test.YtfhcedpnofidnaaWireEnv
namespace Go.Proofs.Try
open Go.AM

abbrev tMsg : Ty := .pair (.int .i64) (.pair (.int .i64) (.pair .str (.int .i64)))
abbrev Msg : Type := Int × Int × Str × Int
abbrev Net : Type := List Msg × Int × Int
def badMsg (last now : Int) (m : Msg) : Bool :=
  decide (m.1 < 1) || decide (m.1 > last) || decide (m.2.1 < 0) || decide (m.2.1 ≥ 64) || decide ((m.2.2.1.length : Int) > 4096) || decide (m.2.2.2 < 0) || decide (m.2.2.2 > now)

theorem eltM {l : List Msg} {i : Nat} (h : i < l.length) : elt tMsg l i = l[i] := elt_eq (t := tMsg) h
theorem i64_at {n m : Int} (e : n = m) (h : -9223372036854775808 ≤ n ∧ n ≤ 9223372036854775807) : IntKind.i64.wrap n = m := by
  rw [IntKind.wrap_i64, ← e]
  omega

set_option maxRecDepth 100000 in
theorem c21 (fl : List Msg) (last now : Int) (m : Msg) : ACall E 21 [.agg [.int .i64 m.1, .int .i64 m.2.1, .str m.2.2.1, .int .i64 m.2.2.2], .ptr 0 0] [.var [.sl tMsg fl false, .int .i64 last, .int .i64 now]]
    (fun r h' => r = .ret (.bool (badMsg last now m)) ∧ h' = [.var [.sl tMsg fl false, .int .i64 last, .int .i64 now]]) := by
  refine ACall.body envOK func21 rfl rfl rfl ?_
  repeat' ((conv => whnf); refine aIf_dec (fun h => ?_) (fun h => ?_))
  all_goals ((conv => whnf); refine ⟨[.old 0], _, _, ?_, rfl, rfl⟩)
  all_goals (repeat' (first | exact trivial | exact rfl | exact .inl rfl | refine And.intro ?_ ?_))
  all_goals (conv => whnf)
  all_goals (first | exact .inl rfl | (simp_all [badMsg]; done) | (simp [badMsg, *]; try omega))

def idxMsg (p : Msg → Bool) (l : List Msg) : Int := match l.findIdx? p with | some i => (i : Int) | none => -1

theorem idxMsg_at {p : Msg → Bool} {l : List Msg} {i : Nat} (hi : i < l.length) (h0 : ∀ j, j < i → p (elt tMsg l j) = false) (h1 : p (elt tMsg l i) = true) : idxMsg p l = i := by
  have : l.findIdx? p = some i := by
    rw [List.findIdx?_eq_some_iff_getElem]
    refine ⟨hi, by rw [← eltM hi]; exact h1, fun j hj => ?_⟩
    rw [← eltM (Nat.lt_trans hj hi), h0 j hj]
    simp
  rw [idxMsg, this]
theorem idxMsg_none {p : Msg → Bool} {l : List Msg} (h0 : ∀ j, j < l.length → p (elt tMsg l j) = false) : idxMsg p l = -1 := by
  have : l.findIdx? p = none := by
    rw [List.findIdx?_eq_none_iff]
    intro x hx
    obtain ⟨j, hj, rfl⟩ := List.getElem_of_mem hx
    rw [← eltM hj]
    exact h0 j hj
  rw [idxMsg, this]

set_option maxRecDepth 100000 in
theorem c25 (fl l : List Msg) (f : Bool) (last now : Int) (hl : l.length ≤ 9223372036854775807) : ACall E 25 [.sl tMsg l f, .fn (.func 21) [] [.ptr 0 0]] [.var [.sl tMsg fl false, .int .i64 last, .int .i64 now]]
    (fun r h' => r = .ret (.int .i64 (idxMsg (badMsg last now) l)) ∧ h' = [.var [.sl tMsg fl false, .int .i64 last, .int .i64 now]]) := by
  refine ACall.body envOK func25 rfl rfl rfl ?_
  conv => whnf
  refine ⟨Nat, ⟨fun i => i ≤ l.length ∧ ∀ j (_ : j < i), badMsg last now (elt tMsg l j) = false, fun i => ([(0, .sl tMsg l f), (1, .fn (.func 21) [] [.ptr 0 0]), (7, .int .i64 (l.length : Int)), (8, .int .i64 (i : Int))], [.var [.sl tMsg fl false, .int .i64 last, .int .i64 now]]), fun i => l.length - i⟩, 0, [], [.old 0], ?_, ?_, fun i hi => ?_⟩
  · exact ⟨Nat.zero_le _, fun j hj => absurd hj (Nat.not_lt_zero _)⟩
  · repeat' (first | exact trivial | exact rfl | exact .inl rfl | refine And.intro ?_ ?_)
  · obtain ⟨hi1, hi2⟩ : i ≤ l.length ∧ ∀ j (_ : j < i), badMsg last now (elt tMsg l j) = false := hi
    conv => whnf
    refine aIf_dec (fun h => ?_) (fun h => ?_)
    · conv => whnf
      refine And.intro (by omega) ?_
      conv => whnf
      refine And.intro (by omega) ?_
      conv => whnf
      refine ACall.det (c21 fl last now _) ?_
      conv => whnf
      refine aIf_mk (fun hb => ?_) (fun hb => ?_)
      · conv => whnf
        refine ⟨[.old 0], _, _, ?_, rfl, rfl⟩
        have e := idxMsg_at (by omega) hi2 hb
        rw [e]
        repeat' (first | exact trivial | exact rfl | exact .inl rfl | refine And.intro ?_ ?_)
      · conv => whnf
        refine ⟨i + 1, [], [.old 0], ⟨?_, ?_⟩, ?_, ?_⟩
        · omega
        · intro j hj
          rcases Nat.lt_or_ge j i with h1 | h1
          · exact hi2 j h1
          · have : j = i := by omega
            subst this; exact hb
        · show l.length - (i + 1) < l.length - i
          omega
        · repeat' (first | exact trivial | exact rfl | exact .inl rfl | refine And.intro ?_ ?_)
          exact i64_at rfl (by omega)
    · conv => whnf
      refine ⟨[.old 0], _, _, ?_, rfl, rfl⟩
      rw [idxMsg_none fun j hj => hi2 j (by omega)]
      repeat' (first | exact trivial | exact rfl | exact .inl rfl | refine And.intro ?_ ?_)

set_option maxRecDepth 100000 in
theorem c22 (fl l : List Msg) (f : Bool) (last now : Int) (hl : l.length ≤ 9223372036854775807) : ACall E 22 [.sl tMsg l f, .fn (.func 21) [] [.ptr 0 0]] [.var [.sl tMsg fl false, .int .i64 last, .int .i64 now]]
    (fun r h' => r = .ret (.bool (l.any (badMsg last now))) ∧ h' = [.var [.sl tMsg fl false, .int .i64 last, .int .i64 now]]) := by
  refine ACall.body envOK func22 rfl rfl rfl ?_
  conv => whnf
  refine ACall.det (c25 fl l f last now hl) ?_
  conv => whnf
  refine ⟨[.old 0], _, _, ?_, rfl, rfl⟩
  repeat' (first | exact trivial | exact rfl | exact .inl rfl | refine And.intro ?_ ?_)
  conv => whnf
  unfold idxMsg
  cases hq : l.findIdx? (badMsg last now) with
  | none =>
    have := List.findIdx?_eq_none_iff.1 hq
    have e : l.any (badMsg last now) = false := by
      rw [List.any_eq_false]
      intro x hx
      simp [this x hx]
    rw [e]
    simp
  | some i =>
    obtain ⟨hi, h1, _⟩ := List.findIdx?_eq_some_iff_getElem.1 hq
    simp only [List.any_eq_true.2 ⟨_, List.getElem_mem hi, h1⟩]
    simp

theorem notBad {l : List Msg} {last now : Int} (h : l.any (badMsg last now) = false) {i : Nat} (hi : i < l.length) : badMsg last now (elt tMsg l i) = false := by
  rw [eltM hi]
  rw [List.any_eq_false] at h
  simpa using h _ (List.getElem_mem hi)
theorem notBad_at {last now : Int} {m : Msg} (h : badMsg last now m = false) : 1 ≤ m.1 ∧ m.1 ≤ last ∧ 0 ≤ m.2.1 ∧ m.2.1 < 64 ∧ m.2.2.1.length ≤ 4096 ∧ 0 ≤ m.2.2.2 ∧ m.2.2.2 ≤ now := by
  simp [badMsg] at h
  omega
def rightNet (fl : List Msg) (last now : Int) : Bool :=
  decide (fl.length ≤ 32) && decide (0 ≤ last) && decide (last ≤ 1099511627776) && decide (0 ≤ now) && decide (now ≤ 1099511627776) && !(fl.any (badMsg last now))

set_option maxRecDepth 100000 in
theorem c12 (fl : List Msg) (last now : Int) (hl : fl.length ≤ 9223372036854775807) : ACall E 12 [.agg [.sl tMsg fl false, .int .i64 last, .int .i64 now]] []
    (fun r h' => r = .ret (.bool (rightNet fl last now)) ∧ h' = []) := by
  refine ACall.body envOK func12 rfl rfl rfl ?_
  repeat' ((conv => whnf); first | (refine aIf_dec (fun h => ?_) (fun h => ?_)) | (refine ACall.det (c22 fl fl false last now hl) ?_))
  all_goals ((conv => whnf); refine ⟨[], _, _, ?_, rfl, rfl⟩)
  all_goals (repeat' (first | exact trivial | exact rfl | exact .inl rfl | refine And.intro ?_ ?_))
  all_goals (conv => whnf)
  all_goals (first | (simp_all [rightNet]; done) | (simp [rightNet, *]; try omega))
end Go.Proofs.Try
