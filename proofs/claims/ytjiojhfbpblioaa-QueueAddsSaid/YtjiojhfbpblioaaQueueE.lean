import Derived.Test.YtjiojhfbpblioaaQueueD
namespace Go.Proofs.Try
open Go.AM

def inT (n : Int) : Prop := 0 ≤ n ∧ n ≤ 1099511627776
theorem inT_of {n : Int} (h : out n = false) : inT n := by
  simp [out] at h
  exact ⟨by omega, by omega⟩

/-- How long a job waits behind so many tries. -/
def waitN : Nat → Int
  | 0 => 2
  | n + 1 => min (2 * waitN n) 60
theorem waitN_in (n : Nat) : 2 ≤ waitN n ∧ waitN n ≤ 60 := by
  induction n with
  | zero => exact ⟨by decide, by decide⟩
  | succ n ih => simp only [waitN]; omega
def waitI (t : Int) : Int := waitN (t - 1).toNat

set_option maxRecDepth 100000 in
theorem c54 (t : Int) (ht : t ≤ 9223372036854775807) : ACall E 54 [.int .i64 t] [] (fun r h' => r = .ret (.int .i64 (waitI t)) ∧ h' = []) := by
  refine ACall.body envOK func54 rfl rfl rfl ?_
  conv => whnf
  refine ⟨Nat, ⟨fun i => (i : Int) ≤ max 0 (t - 1), fun i => ([(0, .int .i64 t), (3, .int .i64 (waitN i)), (4, .int .i64 ((i : Int) + 1))], []), fun i => (t - 1).toNat - i⟩, 0, [], [], ?_, ?_, fun i hi => ?_⟩
  · show ((0 : Nat) : Int) ≤ max 0 (t - 1)
    omega
  · repeat' (first | exact trivial | exact rfl | exact .inl rfl | (exact .inr rfl) | refine And.intro ?_ ?_)
  · replace hi : (i : Int) ≤ max 0 (t - 1) := hi
    have hw := waitN_in i
    have w1 : IntKind.i64.wrap (2 * waitN i) = 2 * waitN i := i64_at rfl (by omega)
    conv => whnf
    first | refine aIf_dec (fun h => ?_) (fun h => ?_) | refine aIf_beq (fun h => ?_) (fun h => ?_) | refine aIf_bne (fun h => ?_) (fun h => ?_) | refine aIf_not (fun h => ?_) (fun h => ?_) | refine aIf_mk (fun h => ?_) (fun h => ?_)
    · conv => whnf
      refine ⟨i + 1, [], [], ?_, ?_, ?_⟩
      · show ((i + 1 : Nat) : Int) ≤ max 0 (t - 1)
        omega
      · show (t - 1).toNat - (i + 1) < (t - 1).toNat - i
        omega
      · repeat' (first | exact trivial | exact rfl | exact .inl rfl | (exact .inr rfl) | refine And.intro ?_ ?_)
        · conv => whnf
          rw [w1]; rfl
        · exact i64_at (by omega) (by omega)
    · conv => whnf
      have e : waitI t = waitN i := by
        unfold waitI
        congr 1
        omega
      rw [e]
      refine ⟨[], _, _, ?_, rfl, rfl⟩
      repeat' (first | exact trivial | exact rfl | exact .inl rfl | (exact .inr rfl) | refine And.intro ?_ ?_)

theorem set_self {l : List Job} {i : Nat} (h : i < l.length) : l.set i (elt tJob l i) = l := by
  rw [eltJ h]; exact List.set_getElem_self h

theorem elt_set {l : List Job} {i : Nat} {x : Job} (h : i < l.length) : elt tJob (l.set i x) i = x := by
  rw [eltJ (by rw [List.length_set]; exact h)]; simp
def renewG (now span : Int) (j : Job) : Job := (j.1, j.2.1, j.2.2.1, j.2.2.2.1, j.2.2.2.2.1, j.2.2.2.2.2.1, min (now + span) 1099511627776, j.2.2.2.2.2.2.2)
set_option maxRecDepth 100000 in
theorem c45 (now span : Int) (l : List Job) (i : Nat) (hi : i < l.length) (h1 : inT now) (h2 : inT span) : ACall E 45 [.eptr tJob 2 i 0, .ptr 0 0, .ptr 1 0] [.var [.int .i64 now], .var [.int .i64 span], .arr tJob l true]
    (fun r h' => r = .ret (.int .i64 0) ∧ h' = [.var [.int .i64 now], .var [.int .i64 span], .arr tJob (l.set i (renewG now span (elt tJob l i))) true]) := by
  obtain ⟨h3, h4⟩ := h1
  obtain ⟨h5, h6⟩ := h2
  refine ACall.body envOK func45 rfl rfl rfl ?_
  conv => whnf
  refine ACall.use0 (c40 now span (by omega)) rfl ?_
  conv => whnf
  refine And.intro hi ?_
  conv => whnf
  refine ⟨[.old 0, .old 1, .old 2], _, _, ?_, rfl, rfl⟩
  repeat' (first | exact trivial | exact rfl | exact .inl rfl | (exact .inr rfl) | refine And.intro ?_ ?_)

def markF (point : Int) (j : Job) : Int := if point < j.2.2.2.2.2.2.2 ∨ point > 1099511627776 then 11 else 0
def markG (point : Int) (j : Job) : Job := if point < j.2.2.2.2.2.2.2 ∨ point > 1099511627776 then j else (j.1, j.2.1, j.2.2.1, j.2.2.2.1, j.2.2.2.2.1, j.2.2.2.2.2.1, j.2.2.2.2.2.2.1, point)
set_option maxRecDepth 100000 in
theorem c46 (point : Int) (l : List Job) (i : Nat) (hi : i < l.length) : ACall E 46 [.eptr tJob 1 i 0, .ptr 0 0] [.var [.int .i64 point], .arr tJob l true]
    (fun r h' => r = .ret (.int .i64 (markF point (elt tJob l i))) ∧ h' = [.var [.int .i64 point], .arr tJob (l.set i (markG point (elt tJob l i))) true]) := by
  refine ACall.body envOK func46 rfl rfl rfl ?_
  conv => whnf
  refine And.intro hi ?_
  conv => whnf
  first | refine aIf_dec (fun h => ?_) (fun h => ?_) | refine aIf_beq (fun h => ?_) (fun h => ?_) | refine aIf_bne (fun h => ?_) (fun h => ?_) | refine aIf_not (fun h => ?_) (fun h => ?_) | refine aIf_mk (fun h => ?_) (fun h => ?_)
  · have h' : point < (elt tJob l i).2.2.2.2.2.2.2 := h
    rw [show markF point (elt tJob l i) = 11 by simp [markF, h'], show markG point (elt tJob l i) = elt tJob l i by simp [markG, h'], set_self hi]
    conv => whnf
    refine ⟨[.old 0, .old 1], _, _, ?_, rfl, rfl⟩
    repeat' (first | exact trivial | exact rfl | exact .inl rfl | (exact .inr rfl) | refine And.intro ?_ ?_)
  · have h' : ¬ point < (elt tJob l i).2.2.2.2.2.2.2 := h
    conv => whnf
    first | refine aIf_dec (fun h2 => ?_) (fun h2 => ?_) | refine aIf_beq (fun h2 => ?_) (fun h2 => ?_) | refine aIf_bne (fun h2 => ?_) (fun h2 => ?_) | refine aIf_not (fun h2 => ?_) (fun h2 => ?_) | refine aIf_mk (fun h2 => ?_) (fun h2 => ?_)
    · rw [show markF point (elt tJob l i) = 11 by simp [markF, h2], show markG point (elt tJob l i) = elt tJob l i by simp [markG, h2], set_self hi]
      conv => whnf
      refine ⟨[.old 0, .old 1], _, _, ?_, rfl, rfl⟩
      repeat' (first | exact trivial | exact rfl | exact .inl rfl | (exact .inr rfl) | refine And.intro ?_ ?_)
    · rw [show markF point (elt tJob l i) = 0 by simp [markF, h', h2], show markG point (elt tJob l i) = ((elt tJob l i).1, (elt tJob l i).2.1, (elt tJob l i).2.2.1, (elt tJob l i).2.2.2.1, (elt tJob l i).2.2.2.2.1, (elt tJob l i).2.2.2.2.2.1, (elt tJob l i).2.2.2.2.2.2.1, point) by simp [markG, h', h2]]
      conv => whnf
      refine And.intro hi ?_
      conv => whnf
      refine ⟨[.old 0, .old 1], _, _, ?_, rfl, rfl⟩
      repeat' (first | exact trivial | exact rfl | exact .inl rfl | (exact .inr rfl) | refine And.intro ?_ ?_)

def stG (s : Int) (j : Job) : Job := (j.1, j.2.1, j.2.2.1, s, j.2.2.2.2)
set_option maxRecDepth 100000 in
theorem c50 (l : List Job) (i : Nat) (hi : i < l.length) : ACall E 50 [.eptr tJob 0 i 0] [.arr tJob l true]
    (fun r h' => r = .ret (.int .i64 0) ∧ h' = [.arr tJob (l.set i (stG 3 (elt tJob l i))) true]) := by
  refine ACall.body envOK func50 rfl rfl rfl ?_
  conv => whnf
  refine And.intro hi ?_
  conv => whnf
  refine ⟨[.old 0], _, _, ?_, rfl, rfl⟩
  repeat' (first | exact trivial | exact rfl | exact .inl rfl | (exact .inr rfl) | refine And.intro ?_ ?_)

def failG (ever : Bool) (now : Int) (j : Job) : Job := if ever = true ∨ j.2.2.2.2.1 = 10 then stG 5 j else (j.1, j.2.1, j.2.2.1, 1, j.2.2.2.2.1, j.2.2.2.2.2.1, min (now + waitI j.2.2.2.2.1) 1099511627776, j.2.2.2.2.2.2.2)
set_option maxRecDepth 100000 in
theorem c53 (ever : Bool) (now : Int) (l : List Job) (i : Nat) (hi : i < l.length) (h1 : inT now) (hm : (elt tJob l i).2.2.2.2.1 ≤ (10 : Int)) : ACall E 53 [.eptr tJob 2 i 0, .ptr 0 0, .ptr 1 0] [.var [.bool ever], .var [.int .i64 now], .arr tJob l true]
    (fun r h' => r = .ret (.int .i64 0) ∧ h' = [.var [.bool ever], .var [.int .i64 now], .arr tJob (l.set i (failG ever now (elt tJob l i))) true]) := by
  obtain ⟨j, hj⟩ : ∃ j : Job, elt tJob l i = j := ⟨_, rfl⟩
  obtain ⟨h3, h4⟩ := h1
  refine ACall.body envOK func53 rfl rfl rfl ?_
  conv => whnf
  refine aIf_mk (fun he => ?_) (fun he => ?_)
  · rw [hj, show failG ever now j = stG 5 j by simp [failG, he], ← hj]
    conv => whnf
    refine And.intro hi ?_
    conv => whnf
    refine ⟨[.old 0, .old 1, .old 2], _, _, ?_, rfl, rfl⟩
    repeat' (first | exact trivial | exact rfl | exact .inl rfl | (exact .inr rfl) | refine And.intro ?_ ?_)
  · conv => whnf
    refine And.intro hi ?_
    conv => whnf
    first | refine aIf_dec (fun h => ?_) (fun h => ?_) | refine aIf_beq (fun h => ?_) (fun h => ?_) | refine aIf_bne (fun h => ?_) (fun h => ?_) | refine aIf_not (fun h => ?_) (fun h => ?_) | refine aIf_mk (fun h => ?_) (fun h => ?_)
    · have h' : j.2.2.2.2.1 = 10 := by rw [← hj]; exact h
      rw [hj, show failG ever now j = stG 5 j by simp [failG, h'], ← hj]
      conv => whnf
      refine And.intro hi ?_
      conv => whnf
      refine ⟨[.old 0, .old 1, .old 2], _, _, ?_, rfl, rfl⟩
      repeat' (first | exact trivial | exact rfl | exact .inl rfl | (exact .inr rfl) | refine And.intro ?_ ?_)
    · have h' : ¬ j.2.2.2.2.1 = 10 := by rw [← hj]; exact h
      have hw := waitN_in (j.2.2.2.2.1 - 1).toNat
      rw [hj, show failG ever now j = (j.1, j.2.1, j.2.2.1, 1, j.2.2.2.2.1, j.2.2.2.2.2.1, min (now + waitI j.2.2.2.2.1) 1099511627776, j.2.2.2.2.2.2.2) by simp [failG, he, h'], ← hj]
      conv => whnf
      refine And.intro hi ?_
      conv => whnf
      have hm' : j.2.2.2.2.1 ≤ 10 := by rw [← hj]; exact hm
      rw [hj]
      refine ⟨_, _, _, ICall.use0 (c54 j.2.2.2.2.1 (by omega)) rfl, ?_⟩
      conv => whnf
      have hw2 : -9223372036854775808 ≤ now + waitI j.2.2.2.2.1 ∧ now + waitI j.2.2.2.2.1 ≤ 9223372036854775807 := by
        unfold waitI; omega
      refine ⟨_, _, _, ICall.use0 (c40 now (waitI j.2.2.2.2.1) hw2) rfl, ?_⟩
      conv => whnf
      refine And.intro hi ?_
      rw [hj]
      conv => whnf
      obtain ⟨l1, hl1⟩ : ∃ m : List Job, l.set i (j.1, j.2.1, j.2.2.1, 1, j.2.2.2.2.1, j.2.2.2.2.2.1, j.2.2.2.2.2.2.1, j.2.2.2.2.2.2.2) = m := ⟨_, rfl⟩
      have hi1 : i < l1.length := by rw [← hl1, List.length_set]; exact hi
      have hj1 : elt tJob l1 i = (j.1, j.2.1, j.2.2.1, 1, j.2.2.2.2.1, j.2.2.2.2.2.1, j.2.2.2.2.2.2.1, j.2.2.2.2.2.2.2) := by rw [← hl1]; exact elt_set hi
      rw [hl1]
      refine And.intro hi1 ?_
      rw [hj1]
      conv => whnf
      refine ⟨[.old 0, .old 1, .old 2], _, _, ?_, rfl, rfl⟩
      repeat' (first | exact trivial | exact rfl | exact .inl rfl | (exact .inr rfl) | refine And.intro ?_ ?_)
      refine congrArg (fun l => AB.arr tJob l true) ?_
      show l1.set i _ = _
      rw [← hl1, List.set_set]

def stopF (j : Job) : Int := if opn j = true then 0 else 15
def stopG (j : Job) : Job := if opn j = true then stG 4 j else j
set_option maxRecDepth 100000 in
theorem c52 (l : List Job) (i : Nat) (hi : i < l.length) : ACall E 52 [.eptr tJob 0 i 0] [.arr tJob l true]
    (fun r h' => r = .ret (.int .i64 (stopF (elt tJob l i))) ∧ h' = [.arr tJob (l.set i (stopG (elt tJob l i))) true]) := by
  obtain ⟨j, hj⟩ : ∃ j : Job, elt tJob l i = j := ⟨_, rfl⟩
  rw [hj]
  refine ACall.body envOK func52 rfl rfl rfl ?_
  conv => whnf
  refine And.intro hi ?_
  rw [hj]
  conv => whnf
  refine ACall.use0 (c36 j) rfl ?_
  conv => whnf
  first | refine aIf_dec (fun h => ?_) (fun h => ?_) | refine aIf_beq (fun h => ?_) (fun h => ?_) | refine aIf_bne (fun h => ?_) (fun h => ?_) | refine aIf_not (fun h => ?_) (fun h => ?_) | refine aIf_mk (fun h => ?_) (fun h => ?_)
  · rw [show stopF j = 15 by simp [stopF, h], show stopG j = j by simp [stopG, h], ← hj, set_self hi]
    conv => whnf
    refine ⟨[.old 0], _, _, ?_, rfl, rfl⟩
    repeat' (first | exact trivial | exact rfl | exact .inl rfl | (exact .inr rfl) | refine And.intro ?_ ?_)
  · rw [show stopF j = 0 by simp [stopF, h], show stopG j = stG 4 j by simp [stopG, h]]
    conv => whnf
    refine And.intro hi ?_
    rw [hj]
    conv => whnf
    refine ⟨[.old 0], _, _, ?_, rfl, rfl⟩
    repeat' (first | exact trivial | exact rfl | exact .inl rfl | (exact .inr rfl) | refine And.intro ?_ ?_)

def againF (q : Queue) (j : Job) : Int := if j.2.2.2.1 ≠ 4 ∧ j.2.2.2.1 ≠ 5 then 15 else if q.1.any (hold j.2.1 j.1) = true then 17 else 0
def againG (q : Queue) (j : Job) : Job := if againF q j = 0 then (j.1, j.2.1, j.2.2.1, 1, 0, 0, 0, 0) else j
set_option maxRecDepth 100000 in
theorem c55 (q : Queue) (l : List Job) (i : Nat) (hi : i < l.length) (hl : q.1.length ≤ 9223372036854775807) : ACall E 55 [.eptr tJob 1 i 0, .ptr 0 0] [.var [.sl tJob q.1 false, .int .i64 q.2.1, .int .i64 q.2.2], .arr tJob l true]
    (fun r h' => r = .ret (.int .i64 (againF q (elt tJob l i))) ∧ h' = [.var [.sl tJob q.1 false, .int .i64 q.2.1, .int .i64 q.2.2], .arr tJob (l.set i (againG q (elt tJob l i))) true]) := by
  obtain ⟨j, hj⟩ : ∃ j : Job, elt tJob l i = j := ⟨_, rfl⟩
  rw [hj]
  refine ACall.body envOK func55 rfl rfl rfl ?_
  conv => whnf
  refine And.intro hi ?_
  rw [hj]
  conv => whnf
  first | refine aIf_dec (fun h1 => ?_) (fun h1 => ?_) | refine aIf_beq (fun h1 => ?_) (fun h1 => ?_) | refine aIf_bne (fun h1 => ?_) (fun h1 => ?_) | refine aIf_not (fun h1 => ?_) (fun h1 => ?_) | refine aIf_mk (fun h1 => ?_) (fun h1 => ?_)
  · conv => whnf
    refine And.intro hi ?_
    rw [hj]
    conv => whnf
    first | refine aIf_dec (fun h2 => ?_) (fun h2 => ?_) | refine aIf_beq (fun h2 => ?_) (fun h2 => ?_) | refine aIf_bne (fun h2 => ?_) (fun h2 => ?_) | refine aIf_not (fun h2 => ?_) (fun h2 => ?_) | refine aIf_mk (fun h2 => ?_) (fun h2 => ?_)
    · have e : againF q j = 15 := by simp [againF, h1, h2]
      rw [e, show againG q j = j by simp [againG, e], ← hj, set_self hi]
      conv => whnf
      refine ⟨[.old 0, .old 1], _, _, ?_, rfl, rfl⟩
      repeat' (first | exact trivial | exact rfl | exact .inl rfl | (exact .inr rfl) | refine And.intro ?_ ?_)
    · have hs : ¬ (j.2.2.2.1 ≠ 4 ∧ j.2.2.2.1 ≠ 5) := by omega
      conv => whnf
      refine And.intro hi ?_
      rw [hj]
      conv => whnf
      refine And.intro hi ?_
      rw [hj]
      conv => whnf
      refine ⟨_, _, _, ICall.use0 (c42 q j.2.1 j.1 hl) rfl, ?_⟩
      conv => whnf
      refine aIf_mk (fun h3 => ?_) (fun h3 => ?_)
      · have e : againF q j = 17 := by rw [againF, if_neg hs, if_pos h3]
        rw [e, show againG q j = j by simp [againG, e], ← hj, set_self hi]
        conv => whnf
        refine ⟨[.old 0, .old 1], _, _, ?_, rfl, rfl⟩
        repeat' (first | exact trivial | exact rfl | exact .inl rfl | (exact .inr rfl) | refine And.intro ?_ ?_)
      · have e : againF q j = 0 := by rw [againF, if_neg hs, if_neg (by rw [h3]; simp)]
        rw [e, show againG q j = (j.1, j.2.1, j.2.2.1, 1, 0, 0, 0, 0) by simp [againG, e]]
        conv => whnf
        refine And.intro hi ?_
        rw [hj]
        conv => whnf
        refine And.intro hi ?_
        rw [hj]
        conv => whnf
        refine And.intro hi ?_
        rw [hj]
        conv => whnf
        refine And.intro hi ?_
        conv => whnf
        refine ⟨[.old 0, .old 1], _, _, ?_, rfl, rfl⟩
        repeat' (first | exact trivial | exact rfl | exact .inl rfl | (exact .inr rfl) | refine And.intro ?_ ?_)
  · have hs : ¬ (j.2.2.2.1 ≠ 4 ∧ j.2.2.2.1 ≠ 5) := by omega
    conv => whnf
    refine And.intro hi ?_
    rw [hj]
    conv => whnf
    refine And.intro hi ?_
    rw [hj]
    conv => whnf
    refine ⟨_, _, _, ICall.use0 (c42 q j.2.1 j.1 hl) rfl, ?_⟩
    conv => whnf
    refine aIf_mk (fun h3 => ?_) (fun h3 => ?_)
    · have e : againF q j = 17 := by rw [againF, if_neg hs, if_pos h3]
      rw [e, show againG q j = j by simp [againG, e], ← hj, set_self hi]
      conv => whnf
      refine ⟨[.old 0, .old 1], _, _, ?_, rfl, rfl⟩
      repeat' (first | exact trivial | exact rfl | exact .inl rfl | (exact .inr rfl) | refine And.intro ?_ ?_)
    · have e : againF q j = 0 := by rw [againF, if_neg hs, if_neg (by rw [h3]; simp)]
      rw [e, show againG q j = (j.1, j.2.1, j.2.2.1, 1, 0, 0, 0, 0) by simp [againG, e]]
      conv => whnf
      refine And.intro hi ?_
      rw [hj]
      conv => whnf
      refine And.intro hi ?_
      rw [hj]
      conv => whnf
      refine And.intro hi ?_
      rw [hj]
      conv => whnf
      refine And.intro hi ?_
      conv => whnf
      refine ⟨[.old 0, .old 1], _, _, ?_, rfl, rfl⟩
      repeat' (first | exact trivial | exact rfl | exact .inl rfl | (exact .inr rfl) | refine And.intro ?_ ?_)
end Go.Proofs.Try
