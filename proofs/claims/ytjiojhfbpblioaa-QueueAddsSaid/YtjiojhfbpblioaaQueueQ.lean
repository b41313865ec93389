import Derived.Test.YtjiojhfbpblioaaQueueP
namespace Go.Proofs.Try
open Go.AM

def isV (got q : Queue) (e want at' : Int) (j : Job) : Bool := if want ≠ 0 then e == want && likeQ got ([], 0, 0) else e == 0 && likeQ got (q.1.set at'.toNat j, q.2.1, q.2.2)
set_option maxRecDepth 100000 in
theorem c34 (got q : Queue) (e want at' : Int) (j : Job) (hg : got.1.length ≤ 9223372036854775807) (hq : q.1.length ≤ 1099511627776) (ha : want = 0 → 0 ≤ at' ∧ at' < q.1.length) :
    ACall E 34 [queueV got, queueV q, .int .i64 e, .int .i64 want, .int .i64 at', jobV j] [] (fun r h' => r = .ret (.bool (isV got q e want at' j)) ∧ h' = []) := by
  refine ACall.body envOK func34 rfl rfl rfl ?_
  conv => whnf
  first | refine aIf_dec (fun h1 => ?_) (fun h1 => ?_) | refine aIf_beq (fun h1 => ?_) (fun h1 => ?_) | refine aIf_bne (fun h1 => ?_) (fun h1 => ?_) | refine aIf_not (fun h1 => ?_) (fun h1 => ?_) | refine aIf_mk (fun h1 => ?_) (fun h1 => ?_)
  · rw [show isV got q e want at' j = (e == want && likeQ got ([], 0, 0)) by rw [isV, if_pos h1]]
    conv => whnf
    first | refine aIf_dec (fun h2 => ?_) (fun h2 => ?_) | refine aIf_beq (fun h2 => ?_) (fun h2 => ?_) | refine aIf_bne (fun h2 => ?_) (fun h2 => ?_) | refine aIf_not (fun h2 => ?_) (fun h2 => ?_) | refine aIf_mk (fun h2 => ?_) (fun h2 => ?_)
    · conv => whnf
      refine ACall.use [] (c25 got ([], 0, 0) hg) rfl trivial (by repeat' (first | exact trivial | exact rfl | exact .inl rfl | (exact .inr rfl) | refine And.intro ?_ ?_)) ?_
      conv => whnf
      refine ⟨[], _, _, ?_, rfl, rfl⟩
      repeat' (first | exact trivial | exact rfl | exact .inl rfl | (exact .inr rfl) | refine And.intro ?_ ?_)
      conv => whnf
      rw [show (e == want) = true by simpa using h2]
      rfl
    · conv => whnf
      refine ⟨[], _, _, ?_, rfl, rfl⟩
      repeat' (first | exact trivial | exact rfl | exact .inl rfl | (exact .inr rfl) | refine And.intro ?_ ?_)
      conv => whnf
      rw [show (e == want) = false by simpa using h2]
      rfl
  · have h1' : want = 0 := by simpa using h1
    obtain ⟨a1, a2⟩ := ha h1'
    obtain ⟨i, rfl⟩ := Int.eq_ofNat_of_zero_le a1
    rw [show isV got q e want (i : Int) j = (e == 0 && likeQ got (q.1.set i j, q.2.1, q.2.2)) by rw [isV, if_neg (by simp [h1'])]; rfl]
    conv => whnf
    first | refine aIf_dec (fun h2 => ?_) (fun h2 => ?_) | refine aIf_beq (fun h2 => ?_) (fun h2 => ?_) | refine aIf_bne (fun h2 => ?_) (fun h2 => ?_) | refine aIf_not (fun h2 => ?_) (fun h2 => ?_) | refine aIf_mk (fun h2 => ?_) (fun h2 => ?_)
    · conv => whnf
      refine ⟨_, _, _, ICall.use0 (c29 q i j (by omega) hq) rfl, ?_⟩
      conv => whnf
      refine ⟨_, _, _, ICall.use0 (c25 got (q.1.set i j, q.2.1, q.2.2) hg) rfl, ?_⟩
      conv => whnf
      refine ⟨[], _, _, ?_, rfl, rfl⟩
      repeat' (first | exact trivial | exact rfl | exact .inl rfl | (exact .inr rfl) | refine And.intro ?_ ?_)
      conv => whnf
      rw [show (e == 0) = true by simpa using h2]
      rfl
    · conv => whnf
      refine ⟨[], _, _, ?_, rfl, rfl⟩
      repeat' (first | exact trivial | exact rfl | exact .inl rfl | (exact .inr rfl) | refine And.intro ?_ ?_)
      conv => whnf
      rw [show (e == 0) = false by simpa using h2]
      rfl

/-- The held job's place, the error, the job. -/
def hB (q : Queue) (id token : Int) : Int := if goodQ q = true then (heldN q id token).2 else 1
def hA (q : Queue) (id token : Int) : Int := if goodQ q = true then (heldN q id token).1 else 0
def hX (q : Queue) (id token : Int) : Job := if hB q id token = 0 then elt tJob q.1 (hA q id token).toNat else job0
theorem held_ok {q : Queue} {id token : Int} (h : hB q id token = 0) : goodQ q = true ∧ ∃ i : Nat, idxOf (isId id) q.1 = i ∧ hA q id token = i ∧ i < q.1.length ∧ hX q id token = elt tJob q.1 i ∧ (elt tJob q.1 i).2.2.2.1 = (2 : Int) ∧ (elt tJob q.1 i).2.2.2.2.2.1 = token := by
  have h' := h
  unfold hB at h
  cases hg : goodQ q with
  | false => rw [hg] at h; simp at h
  | true =>
    rw [hg, if_pos rfl] at h
    refine ⟨rfl, ?_⟩
    by_cases h1 : idxOf (isId id) q.1 < 0
    · rw [heldN, if_pos h1] at h; simp at h
    · obtain ⟨i, hi, hil, _, _⟩ := idxOf_lt (p := isId id) (l := q.1) (by omega)
      rw [heldN, if_neg h1, hi, show ((i : Int)).toNat = i from rfl] at h
      by_cases h2 : (elt tJob q.1 i).2.2.2.1 = (2 : Int)
      · rw [if_neg (by simpa using h2)] at h
        by_cases h3 : (elt tJob q.1 i).2.2.2.2.2.1 = token
        · have ha : hA q id token = i := by
            rw [hA, hg, if_pos rfl, heldN, if_neg h1, hi, show ((i : Int)).toNat = i from rfl, if_neg (by simpa using h2), if_neg (by simpa using h3)]
          exact ⟨i, hi, ha, hil, by rw [hX, if_pos h', ha]; rfl, h2, h3⟩
        · rw [if_pos h3] at h; simp at h
      · rw [if_pos h2] at h; simp at h
theorem held_at {q : Queue} {id token : Int} (h : hB q id token ≠ 0) : hA q id token = 0 := by
  unfold hB at h
  unfold hA
  cases hg : goodQ q with
  | false => rfl
  | true =>
    rw [hg, if_pos rfl] at h
    rw [if_pos rfl]
    unfold heldN at h ⊢
    split
    · rfl
    · rename_i h1
      rw [if_neg h1] at h
      split
      · rfl
      · rename_i h2
        rw [if_neg h2] at h
        split
        · rfl
        · rename_i h3
          rw [if_neg h3] at h
          exact absurd rfl h
/-- What a leased job's change comes to. -/
theorem held_change {q : Queue} {id token : Int} {times : Bool} {F : Job → Int} {G : Job → Job} : changeN q id times (lF token F) (lG token G) =
    if times = false then (([], 0, 0), 1) else if hB q id token ≠ 0 then (([], 0, 0), hB q id token) else if F (hX q id token) ≠ 0 then (([], 0, 0), F (hX q id token))
    else ((q.1.set (hA q id token).toNat (G (hX q id token)), q.2.1, q.2.2), 0) := by
  cases times with
  | false => rw [changeN, if_pos (.inr rfl), if_pos rfl]
  | true =>
    rw [if_neg (by simp)]
    by_cases hb : hB q id token = 0
    · obtain ⟨g, i, h1, h2, h3, h4, h5, h6⟩ := held_ok hb
      rw [if_neg (by simpa using hb), changeN, if_neg (by rw [g]; simp), if_neg (by omega), h1, show ((i : Int)).toNat = i from rfl, h2, h4, show ((i : Int)).toNat = i from rfl]
      have e1 : lF token F (elt tJob q.1 i) = F (elt tJob q.1 i) := by rw [lF, if_neg (by simpa using h5), if_neg (by simpa using h6)]
      rw [e1, lG_of h5 h6]
    · rw [if_pos hb]
      unfold hB at hb ⊢
      cases hg : goodQ q with
      | false => rw [changeN, if_pos (.inl hg)]; rfl
      | true =>
        rw [hg, if_pos rfl] at hb
        rw [if_pos rfl, changeN, if_neg (by rw [hg]; simp)]
        by_cases h1 : idxOf (isId id) q.1 < 0
        · rw [if_pos h1, heldN, if_pos h1]
        · rw [if_neg h1]
          rw [heldN, if_neg h1] at hb ⊢
          by_cases h2 : (elt tJob q.1 (idxOf (isId id) q.1).toNat).2.2.2.1 = (2 : Int)
          · by_cases h3 : (elt tJob q.1 (idxOf (isId id) q.1).toNat).2.2.2.2.2.1 = token
            · rw [if_neg (by simpa using h2), if_neg (by simpa using h3)] at hb; simp at hb
            · have e1 : lF token F (elt tJob q.1 (idxOf (isId id) q.1).toNat) = 16 := by rw [lF, if_neg (by simpa using h2), if_pos h3]
              rw [e1, if_pos (by simp), if_neg (by simpa using h2), if_pos h3]
          · have e1 : lF token F (elt tJob q.1 (idxOf (isId id) q.1).toNat) = 15 := by rw [lF, if_pos h2]
            rw [e1, if_pos (by simp), if_pos h2]
theorem isV_bad {q : Queue} {e w at' : Int} {j : Job} (h : w ≠ 0) (he : e = w) : isV ([], 0, 0) q e w at' j = true := by
  rw [isV, if_pos h, he, likeQ_refl]; simp
theorem isV_ok {q : Queue} {at' : Int} {j : Job} : isV (q.1.set at'.toNat j, q.2.1, q.2.2) q 0 0 at' j = true := by
  rw [isV, if_neg (by simp), likeQ_refl]; simp
def oneV (b : Int) (now span : Int) : Int := if [now, span].any out = true then 1 else b
def renV (x : Job) (now span : Int) : Job := if [now, span].any out = true then x else renewG now span x
def twoV (b : Int) (x : Job) (point : Int) : Int := if b = 0 ∧ (point < x.2.2.2.2.2.2.2 ∨ point > 1099511627776) then 11 else b
def marV (x : Job) (point : Int) : Job := (x.1, x.2.1, x.2.2.1, x.2.2.2.1, x.2.2.2.2.1, x.2.2.2.2.2.1, x.2.2.2.2.2.2.1, point)
def triV (b : Int) (now : Int) : Int := if [now].any out = true then 1 else b
def faiV (b : Int) (x : Job) (now : Int) (ever : Bool) : Job := if [now].any out = true then x else if ever = true ∨ x.2.2.2.2.1 = 10 then stG 5 x else if b = 0 then (x.1, x.2.1, x.2.2.1, 1, x.2.2.2.2.1, x.2.2.2.2.2.1, min (now + waitI x.2.2.2.2.1) 1099511627776, x.2.2.2.2.2.2.2) else x
theorem is_renew {q : Queue} {id token now span : Int} : isV (renewN q id token now span).1 q (renewN q id token now span).2 (oneV (hB q id token) now span) (hA q id token) (renV (hX q id token) now span) = true := by
  unfold renewN oneV renV
  rw [held_change]
  cases ho : [now, span].any out with
  | true => exact isV_bad (by simp) rfl
  | false =>
    by_cases hb : hB q id token = 0
    · simp only [hb]
      exact isV_ok
    · simp only [Bool.not_false]
      rw [if_neg (by simp), if_pos hb, if_neg (by simp)]
      exact isV_bad hb rfl
theorem is_mark {q : Queue} {id token point : Int} : isV (markN q id token point).1 q (markN q id token point).2 (twoV (hB q id token) (hX q id token) point) (hA q id token) (marV (hX q id token) point) = true := by
  unfold markN twoV
  rw [held_change, if_neg (by simp)]
  by_cases hb : hB q id token = 0
  · rw [if_neg (by simpa using hb)]
    by_cases hp : point < (hX q id token).2.2.2.2.2.2.2 ∨ point > 1099511627776
    · have e2 : markF point (hX q id token) = 11 := by rw [markF, if_pos hp]
      rw [e2, if_pos (by simp), if_pos ⟨hb, hp⟩]
      exact isV_bad (by simp) rfl
    · have e2 : markF point (hX q id token) = 0 := by rw [markF, if_neg hp]
      have e3 : markG point (hX q id token) = marV (hX q id token) point := by rw [markG, if_neg hp]; rfl
      rw [e2, if_neg (by simp), e3, if_neg (fun h => hp h.2), hb]
      exact isV_ok
  · rw [if_pos hb, if_neg (fun h => hb h.1)]
    exact isV_bad hb rfl
theorem is_done {q : Queue} {id token : Int} : isV (doneN q id token).1 q (doneN q id token).2 (hB q id token) (hA q id token) (stG 3 (hX q id token)) = true := by
  unfold doneN
  rw [held_change, if_neg (by simp)]
  by_cases hb : hB q id token = 0
  · rw [if_neg (by simpa using hb), if_neg (by simp), hb]
    exact isV_ok
  · rw [if_pos hb]
    exact isV_bad hb rfl
theorem is_fail {q : Queue} {id token now : Int} {ever : Bool} : isV (failN q id token now ever).1 q (failN q id token now ever).2 (triV (hB q id token) now) (hA q id token) (faiV (hB q id token) (hX q id token) now ever) = true := by
  have hF : hB q id token = 0 → [now].any out = false → faiV (hB q id token) (hX q id token) now ever = failG ever now (hX q id token) := by
    intro h1 h2
    rw [faiV, if_neg (by rw [h2]; simp), failG, if_pos h1]
  unfold failN triV
  rw [held_change]
  cases ho : [now].any out with
  | true => exact isV_bad (by simp) rfl
  | false =>
    by_cases hb : hB q id token = 0
    · rw [hF hb ho, if_neg (by simp), if_neg (by simpa using hb), if_neg (by simp), if_neg (by simp), hb]
      exact isV_ok
    · rw [if_neg (by simp), if_pos hb, if_neg (by simp)]
      exact isV_bad hb rfl
end Go.Proofs.Try
