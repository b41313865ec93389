import Derived.Test.YtjiojhfbpblioaaQueueR
namespace Go.Proofs.Try
open Go.AM

theorem inT0 : inT 0 := ⟨by decide, by decide⟩
def okAt (q : Queue) (x : Job) : Prop := mayJ x = true ∧ x.1 ≤ q.2.1 ∧ x.2.2.2.2.2.1 ≤ q.2.2 ∧ (opn x = true → q.1.any (hold x.2.1 x.1) = false)
def incr : Int → List Job → Prop
  | _, [] => True
  | last, j :: r => last < j.1 ∧ incr j.1 r
theorem rightFrom_mk {q : Queue} : ∀ {l : List Job} {last : Int}, (∀ x ∈ l, okAt q x) → incr last l → rightFrom q last l = true
  | [], _, _, _ => rfl
  | j :: r, last, h, hi => by
    obtain ⟨h1, h2, h3, h4⟩ := h j List.mem_cons_self
    simp only [rightFrom, Bool.and_eq_true, Bool.not_eq_true', decide_eq_false_iff_not, Bool.and_eq_false_iff]
    refine ⟨⟨⟨⟨⟨h1, by have := hi.1; omega⟩, by omega⟩, by omega⟩, ?_⟩, rightFrom_mk (fun x hx => h x (List.mem_cons_of_mem _ hx)) hi.2⟩
    cases ho : opn j with
    | false => exact .inl rfl
    | true => exact .inr (h4 ho)
theorem rightFrom_incr {q : Queue} : ∀ {l : List Job} {last : Int}, rightFrom q last l = true → incr last l
  | [], _, _ => trivial
  | j :: r, last, h => by
    simp only [rightFrom, Bool.and_eq_true, Bool.not_eq_true', decide_eq_false_iff_not] at h
    exact ⟨by have := h.1.1.1.1.2; omega, rightFrom_incr h.2⟩
theorem good_okAt {q : Queue} (h : goodQ q = true) {x : Job} (hx : x ∈ q.1) : okAt q x := by
  obtain ⟨i, hi, rfl⟩ := List.getElem_of_mem hx
  obtain ⟨h1, _, h3, h4, h5⟩ := rightFrom_at _ _ (goodQ_iff h).1 i hi
  exact ⟨h1, h3, h4, h5⟩
theorem incr_set : ∀ {l : List Job} {last : Int} {i : Nat} {k : Job}, (∀ h : i < l.length, l[i].1 = k.1) → incr last l → incr last (l.set i k)
  | [], _, _, _, _, _ => trivial
  | j :: r, last, 0, k, hk, h => by
    have e : j.1 = k.1 := hk (by simp)
    exact ⟨by rw [← e]; exact h.1, by rw [← e]; exact h.2⟩
  | j :: r, last, i + 1, k, hk, h => ⟨h.1, incr_set (fun hi => hk (by simpa using hi)) h.2⟩
theorem incr_snoc : ∀ {l : List Job} {last : Int} {k : Job}, incr last l → last < k.1 → (∀ x ∈ l, x.1 < k.1) → incr last (l ++ [k])
  | [], _, _, _, h, _ => ⟨h, trivial⟩
  | j :: _, _, _, h, _, h3 => ⟨h.1, incr_snoc h.2 (h3 j List.mem_cons_self) fun x hx => h3 x (List.mem_cons_of_mem _ hx)⟩
theorem incr_lt : ∀ {l : List Job} {last : Int}, incr last l → ∀ (n m : Nat) (hm : m < l.length) (h : n < m), (l[n]'(Nat.lt_trans h hm)).1 < l[m].1
  | j :: r, last, h, 0, m + 1, hm, _ => by
    have hr : ∀ {l : List Job} {last : Int}, incr last l → ∀ m (hm : m < l.length), last < l[m].1 := by
      intro l
      induction l with
      | nil => intro _ _ m hm; simp at hm
      | cons a s ih =>
        intro last h m hm
        cases m with
        | zero => exact h.1
        | succ m => exact Int.lt_trans h.1 (ih h.2 m (by simpa using hm))
    exact hr h.2 m (by simpa using hm)
  | j :: r, last, h, n + 1, m + 1, hm, hn => incr_lt h.2 n m (by simpa using hm) (by omega)
theorem idx_good {q : Queue} (h : goodQ q = true) {i : Nat} (hi : i < q.1.length) : idxOf (isId (elt tJob q.1 i).1) q.1 = i := by
  refine idxOf_at hi (fun j hj => ?_) (by rw [eltJ hi]; simp [isId])
  have := incr_lt (rightFrom_incr (goodQ_iff h).1) j i hi hj
  rw [eltJ hi]
  simp [isId]
  omega
theorem hold_false {l : List Job} {key : Str} {id : Int} (h : l.any (hold key id) = false) {x : Job} (hx : x ∈ l) : hold key id x = false := by
  rw [List.any_eq_false] at h
  simpa using h x hx

theorem again_ok {q : Queue} {id : Int} (h : (againN q id).2 = 0) : goodQ q = true ∧ ∃ i : Nat, i < q.1.length ∧ (elt tJob q.1 i).1 = id ∧ (againN q id).1 = (q.1.set i ((elt tJob q.1 i).1, (elt tJob q.1 i).2.1, (elt tJob q.1 i).2.2.1, 1, 0, 0, 0, 0), q.2.1, q.2.2) ∧ goodQ (againN q id).1 = true := by
  obtain ⟨g, t, i, h1, h2, h3, h4, h5⟩ := change_ok (F := againF q) (G := againG q) h
  have hany : q.1.any (hold (elt tJob q.1 i).2.1 (elt tJob q.1 i).1) = false := by
    unfold againF at h4
    split at h4
    · omega
    · split at h4
      · omega
      · rename_i hh; simpa using hh
  have e : (againN q id).1 = (q.1.set i ((elt tJob q.1 i).1, (elt tJob q.1 i).2.1, (elt tJob q.1 i).2.2.1, 1, 0, 0, 0, 0), q.2.1, q.2.2) := by
    unfold againN
    rw [h5, againG, if_pos h4]
  refine ⟨g, i, h2, h3, e, ?_⟩
  rw [e]
  obtain ⟨j, hj⟩ : ∃ j : Job, elt tJob q.1 i = j := ⟨_, rfl⟩
  rw [hj] at hany ⊢
  have hjl : q.1[i] = j := by rw [← eltJ h2]; exact hj
  have hjm : j ∈ q.1 := by rw [← hjl]; exact List.getElem_mem h2
  obtain ⟨m1, m2, m3, m4⟩ := good_okAt g hjm
  obtain ⟨a1, a2, a3, a4, a5, a6, a7, a8, a9, a10, a11⟩ := mayJ_iff m1
  obtain ⟨g1, g2, g3, g4⟩ := goodQ_iff g
  have k0 : ∀ key d, key ≠ j.2.1 ∨ d = j.1 → hold key d (j.1, j.2.1, j.2.2.1, 1, 0, 0, 0, 0) = false := by
    intro key d hh
    simp only [hold, opn]
    rcases hh with hh | hh
    · simp [Ne.symm hh]
    · simp [hh]
  refine goodQ_mk (rightFrom_mk (fun x hx => ?_) (incr_set (fun _ => by rw [hjl]) (rightFrom_incr g1))) (by simpa using g2) g3 g4
  rcases List.mem_or_eq_of_mem_set hx with hx | rfl
  · obtain ⟨x1, x2, x3, x4⟩ := good_okAt g hx
    refine ⟨x1, x2, x3, fun ho => ?_⟩
    rw [List.any_eq_false]
    intro y hy
    rcases List.mem_or_eq_of_mem_set hy with hy | rfl
    · simp [hold_false (x4 ho) hy]
    · rw [k0]
      · simp
      · by_cases hk : x.2.1 = j.2.1
        · refine .inr (Classical.byContradiction fun hd => ?_)
          have := hold_false hany hx
          simp [hold, ho, hk, hd] at this
        · exact .inl hk
  · refine ⟨mayJ_mk a1 a2 inT0 inT0 inT0 a6 a7 (show (1 : Int) ≤ 1 by decide) (show (1 : Int) ≤ 5 by decide) (show (0 : Int) ≤ 0 by decide) (show (0 : Int) ≤ 10 by decide), m2, g4.1, fun _ => ?_⟩
    rw [List.any_eq_false]
    intro y hy
    rcases List.mem_or_eq_of_mem_set hy with hy | rfl
    · simp [hold_false hany hy]
    · rw [k0 _ _ (.inr rfl)]; simp
theorem add_ok {q : Queue} {key body : Str} (hs : q.1.length < 64) (h : (addN q key body).2.2 = 0) : goodQ q = true ∧ (addN q key body).1 = (q.1 ++ [newJ (q.2.1 + 1) key body], q.2.1 + 1, q.2.2) ∧ (addN q key body).2.1 = q.2.1 + 1 ∧ goodQ (addN q key body).1 = true := by
  have hr : roomL q.1 = q.1 := by rw [roomL, if_neg (by omega)]
  cases g : goodQ q with
  | false => rw [addN, if_pos g] at h; simp at h
  | true =>
    by_cases h1 : key.length > 200 ∨ body.length > 200
    · rw [addN, if_neg (by rw [g]; simp), if_pos h1] at h; simp at h
    · by_cases h2 : q.1.any (hold key 0) = true
      · rw [addN, if_neg (by rw [g]; simp), if_neg h1, if_pos h2] at h; simp at h
      · by_cases h3 : q.1.length = 64 ∨ q.2.1 = 1099511627776
        · rw [addN, if_neg (by rw [g]; simp), if_neg h1, if_neg h2, hr, if_pos h3] at h; simp at h
        · have e : addN q key body = ((q.1 ++ [newJ (q.2.1 + 1) key body], q.2.1 + 1, q.2.2), q.2.1 + 1, 0) := by
            rw [addN, if_neg (by rw [g]; simp), if_neg h1, if_neg h2, hr, if_neg h3]
          have h2' : q.1.any (hold key 0) = false := by simpa using h2
          obtain ⟨g1, g2, ⟨g3, g3'⟩, g4⟩ := goodQ_iff g
          refine ⟨rfl, by rw [e], by rw [e], ?_⟩
          rw [e]
          have k0 : ∀ ky d, ky ≠ key ∨ d = q.2.1 + 1 → hold ky d (newJ (q.2.1 + 1) key body) = false := by
            intro ky d hh
            simp only [hold, opn, newJ]
            rcases hh with hh | hh
            · simp [Ne.symm hh]
            · simp [hh]
          refine goodQ_mk (q := (q.1 ++ [newJ (q.2.1 + 1) key body], q.2.1 + 1, q.2.2)) (rightFrom_mk (fun x hx => ?_) (incr_snoc (rightFrom_incr g1) (by show (0 : Int) < q.2.1 + 1; omega) fun x hx => ?_)) (by simp; omega) ⟨by show 0 ≤ q.2.1 + 1; omega, by show q.2.1 + 1 ≤ 1099511627776; omega⟩ g4
          · rcases List.mem_append.1 hx with hx | hx
            · obtain ⟨x1, x2, x3, x4⟩ := good_okAt g hx
              refine ⟨x1, by show x.1 ≤ q.2.1 + 1; omega, x3, fun ho => ?_⟩
              rw [List.any_eq_false]
              intro y hy
              rcases List.mem_append.1 hy with hy | hy
              · simp [hold_false (x4 ho) hy]
              · rw [List.mem_singleton.1 hy, k0]
                · simp
                · refine .inl fun hk => ?_
                  have := hold_false h2' hx
                  have hx1 := (mayJ_iff x1).1
                  simp [hold, ho, hk] at this
                  omega
            · rw [List.mem_singleton.1 hx]
              refine ⟨mayJ_mk (by show 1 ≤ q.2.1 + 1; omega) ⟨by show 0 ≤ q.2.1 + 1; omega, by show q.2.1 + 1 ≤ 1099511627776; omega⟩ inT0 inT0 inT0 (by show key.length ≤ 200; omega) (by show body.length ≤ 200; omega) (by show (1 : Int) ≤ 1; omega) (by show (1 : Int) ≤ 5; omega) (by show (0 : Int) ≤ 0; omega) (by show (0 : Int) ≤ 10; omega), Int.le_refl _, g4.1, fun _ => ?_⟩
              rw [List.any_eq_false]
              intro y hy
              rcases List.mem_append.1 hy with hy | hy
              · have := hold_false h2' hy
                have hy1 := (mayJ_iff (good_okAt g hy).1).1
                simp only [hold, newJ] at this ⊢
                intro hh
                simp only [Bool.and_eq_true] at hh
                simp [hh.1, hh.2.1] at this
                omega
              · have hk := k0 (newJ (q.2.1 + 1) key body).2.1 (newJ (q.2.1 + 1) key body).1 (.inr rfl)
                rw [List.mem_singleton.1 hy, hk]; simp
          · have := (good_okAt g hx).2.1
            show x.1 < q.2.1 + 1
            omega
end Go.Proofs.Try
