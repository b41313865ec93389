import Derived.Test.YtjiojhfbpblioaaQueueK
namespace Go.Proofs.Try
open Go.AM

abbrev tQueue : Ty := .pair (.sl tJob) (.pair (.int .i64) (.int .i64))

def eqJ (a b : Job) : Bool := a.1 == b.1 && (a.2.1 == b.2.1 && (a.2.2.1 == b.2.2.1 && (a.2.2.2.1 == b.2.2.2.1 && (a.2.2.2.2.1 == b.2.2.2.2.1 && (a.2.2.2.2.2.1 == b.2.2.2.2.2.1 && (a.2.2.2.2.2.2.1 == b.2.2.2.2.2.2.1 && (a.2.2.2.2.2.2.2 == b.2.2.2.2.2.2.2 && true)))))))
theorem eqJ_iff {a b : Job} : eqJ a b = true ↔ a = b := by
  obtain ⟨a1, a2, a3, a4, a5, a6, a7, a8⟩ := a
  obtain ⟨b1, b2, b3, b4, b5, b6, b7, b8⟩ := b
  simp [eqJ]
theorem eqJ_ne {a b : Job} (h : a ≠ b) : eqJ a b = false := by
  cases hq : eqJ a b with
  | true => exact absurd (eqJ_iff.1 hq) h
  | false => rfl

/-- A job that became another one, as far as a queue that may be minds. -/
def jr (tok : Int) (j k : Job) : Prop := k.1 = j.1 ∧ k.2.1 = j.2.1 ∧ mayJ k = true ∧ k.2.2.2.2.2.1 ≤ tok ∧ (opn k = true → opn j = true)
def jrL (tok : Int) : List Job → List Job → Prop
  | [], [] => True
  | j :: r, k :: s => jr tok j k ∧ jrL tok r s
  | _, _ => False
theorem jrL_len {tok : Int} : ∀ {l m : List Job}, jrL tok l m → m.length = l.length
  | [], [], _ => rfl
  | _ :: _, _ :: _, h => by simp [jrL_len h.2]
  | [], _ :: _, h => h.elim
  | _ :: _, [], h => h.elim
theorem jrL_any {tok : Int} {key : Str} {id : Int} : ∀ {l m : List Job}, jrL tok l m → l.any (hold key id) = false → m.any (hold key id) = false
  | [], [], _, _ => rfl
  | j :: r, k :: s, h, ha => by
    simp only [List.any_cons, Bool.or_eq_false_iff] at ha ⊢
    refine ⟨?_, jrL_any h.2 ha.2⟩
    obtain ⟨h1, h2, _, _, h5⟩ := h.1
    have := ha.1
    simp only [hold] at this ⊢
    rw [h1, h2]
    cases ho : opn k with
    | false => rfl
    | true => rw [h5 ho] at this; simpa using this
  | [], _ :: _, h, _ => h.elim
  | _ :: _, [], h, _ => h.elim
theorem rightFrom_rel {q q' : Queue} (hid : q'.2.1 = q.2.1) (hany : ∀ key id, q.1.any (hold key id) = false → q'.1.any (hold key id) = false) : ∀ {l m : List Job} {last : Int}, jrL q'.2.2 l m → rightFrom q last l = true → rightFrom q' last m = true
  | [], [], _, _, _ => rfl
  | j :: r, k :: s, last, h, hr => by
    obtain ⟨h1, h2, h3, h4, h5⟩ := h.1
    simp only [rightFrom, Bool.and_eq_true, Bool.not_eq_true', decide_eq_false_iff_not, Bool.and_eq_false_iff] at hr ⊢
    obtain ⟨⟨⟨⟨⟨r1, r2⟩, r3⟩, r4⟩, r5⟩, r6⟩ := hr
    rw [h1, h2, hid]
    refine ⟨⟨⟨⟨⟨h3, r2⟩, r3⟩, by omega⟩, ?_⟩, rightFrom_rel hid hany h.2 r6⟩
    cases ho : opn k with
    | false => exact .inl rfl
    | true =>
      refine .inr (hany _ _ ?_)
      rcases r5 with r5 | r5
      · rw [h5 ho] at r5; cases r5
      · exact r5
  | [], _ :: _, _, h, _ => h.elim
  | _ :: _, [], _, h, _ => h.elim
theorem goodQ_mk {q : Queue} (h1 : rightFrom q 0 q.1 = true) (h2 : q.1.length ≤ 64) (h3 : inT q.2.1) (h4 : inT q.2.2) : goodQ q = true := by
  obtain ⟨a, b⟩ := h3
  obtain ⟨c, d⟩ := h4
  have e1 : out q.2.1 = false := by simp [out]; omega
  have e2 : out q.2.2 = false := by simp [out]; omega
  simp only [goodQ, h1, List.any_cons, List.any_nil, e1, e2]
  simp
  omega
theorem goodQ_rel {q : Queue} {m : List Job} {tok : Int} (hg : goodQ q = true) (h : jrL tok q.1 m) (ht : inT tok) : goodQ (m, q.2.1, tok) = true := by
  obtain ⟨g1, g2, g3, g4⟩ := goodQ_iff hg
  exact goodQ_mk (rightFrom_rel (q := q) (q' := (m, q.2.1, tok)) rfl (fun key id => jrL_any h) h g1) (by rw [jrL_len h]; exact g2) g3 ht
theorem jrL_refl {tok : Int} : ∀ {l : List Job}, (∀ j ∈ l, mayJ j = true ∧ j.2.2.2.2.2.1 ≤ tok) → jrL tok l l
  | [], _ => trivial
  | j :: _, h => ⟨⟨rfl, rfl, (h j List.mem_cons_self).1, (h j List.mem_cons_self).2, fun ho => ho⟩, jrL_refl fun k hk => h k (List.mem_cons_of_mem _ hk)⟩
theorem goodQ_mem {q : Queue} (h : goodQ q = true) {j : Job} (hj : j ∈ q.1) : mayJ j = true ∧ j.2.2.2.2.2.1 ≤ q.2.2 ∧ j.1 ≤ q.2.1 := by
  obtain ⟨i, hi, rfl⟩ := List.getElem_of_mem hj
  obtain ⟨h1, _, h3, h4, _⟩ := rightFrom_at _ _ (goodQ_iff h).1 i hi
  exact ⟨h1, h4, h3⟩
theorem inT_out {n : Int} (h : inT n) : out n = false := by
  obtain ⟨a, b⟩ := h
  simp [out]; omega
theorem mayJ_mk {j : Job} (h1 : 1 ≤ j.1) (h2 : inT j.1) (h3 : inT j.2.2.2.2.2.1) (h4 : inT j.2.2.2.2.2.2.1) (h5 : inT j.2.2.2.2.2.2.2) (h6 : j.2.1.length ≤ 200) (h7 : j.2.2.1.length ≤ 200) (h8 : 1 ≤ j.2.2.2.1) (h9 : j.2.2.2.1 ≤ 5) (h10 : 0 ≤ j.2.2.2.2.1) (h11 : j.2.2.2.2.1 ≤ 10) : mayJ j = true := by
  simp only [mayJ, List.any_cons, List.any_nil, inT_out h2, inT_out h3, inT_out h4, inT_out h5]
  simp
  omega
theorem may_stG {s : Int} {j : Job} (h : mayJ j = true) (h1 : 1 ≤ s) (h2 : s ≤ 5) : mayJ (stG s j) = true := by
  obtain ⟨a1, a2, a3, a4, a5, a6, a7, a8, a9, a10, a11⟩ := mayJ_iff h
  exact mayJ_mk a1 a2 a3 a4 a5 a6 a7 h1 h2 a10 a11
theorem jr_dead {now tok : Int} {j : Job} (h : mayJ j = true) (ht : j.2.2.2.2.2.1 ≤ tok) : jr tok j (deadJ now j) := by
  unfold deadJ
  split
  · refine ⟨rfl, rfl, may_stG h (by decide) (by decide), ht, fun ho => ?_⟩
    simp [opn, stG] at ho
  · exact ⟨rfl, rfl, h, ht, fun ho => ho⟩
theorem jrL_lease {tok now span : Int} (hn : inT now) (hs : inT span) (ht : 0 ≤ tok ∧ tok < 1099511627776) : ∀ (l : List Job), (∀ j ∈ l, mayJ j = true ∧ j.2.2.2.2.2.1 ≤ tok) → jrL (tok + 1) l (leaseL tok now span l).1
  | [], _ => trivial
  | j :: r, h => by
    obtain ⟨h1, h2⟩ := h j List.mem_cons_self
    have hr := fun k hk => h k (List.mem_cons_of_mem j hk)
    simp only [leaseL]
    split
    · rename_i hc
      refine ⟨⟨rfl, rfl, ?_, ?_, ?_⟩, jrL_refl fun k hk => ⟨(hr k hk).1, by have := (hr k hk).2; omega⟩⟩
      · obtain ⟨a1, a2, a3, a4, a5, a6, a7, a8, a9, a10, a11⟩ := mayJ_iff h1
        obtain ⟨n1, n2⟩ := hn
        obtain ⟨s1, s2⟩ := hs
        have := hc.2
        refine mayJ_mk a1 a2 ⟨?_, ?_⟩ ⟨?_, ?_⟩ a5 a6 a7 (by simp [leaseJ]) (by simp [leaseJ]) ?_ ?_ <;> simp only [leaseJ] <;> omega
      · show tok + 1 ≤ tok + 1
        omega
      · intro _
        have := hc.1
        simp only [rdy, Bool.and_eq_true] at this
        exact this.1
    · exact ⟨jr_dead h1 (by omega), jrL_lease hn hs ht r hr⟩
theorem lease_ok {q : Queue} {now span : Int} (h : (leaseN q now span).2.2 = 0) : goodQ q = true ∧ inT now ∧ inT span ∧ q.2.2 < 1099511627776 ∧ q.1.any (rdy now) = true ∧
    leaseN q now span = match (leaseL q.2.2 now span q.1).2 with
      | some j => (((leaseL q.2.2 now span q.1).1, q.2.1, q.2.2 + 1), j, 0)
      | none => (((leaseL q.2.2 now span q.1).1, q.2.1, q.2.2), job0, 0) := by
  unfold leaseN at h ⊢
  by_cases h1 : goodQ q = false ∨ [now, span].any out = true
  · rw [if_pos h1] at h; simp at h
  · rw [if_neg h1] at h ⊢
    by_cases h2 : q.1.any (rdy now) = false
    · rw [if_pos h2] at h; simp at h
    · rw [if_neg h2] at h ⊢
      by_cases h3 : q.2.2 = 1099511627776
      · rw [if_pos h3] at h; simp at h
      · rw [if_neg h3]
        have g : goodQ q = true := by
          cases hq : goodQ q with
          | true => rfl
          | false => exact absurd (.inl hq) h1
        have n : [now, span].any out = false := by
          cases hq : [now, span].any out with
          | false => rfl
          | true => exact absurd (.inr hq) h1
        simp only [List.any_cons, List.any_nil, Bool.or_false, Bool.or_eq_false_iff] at n
        have h4 := (goodQ_iff g).2.2.2
        refine ⟨g, inT_of n.1, inT_of n.2, ?_, ?_, rfl⟩
        · have := h4.2; omega
        · simpa using h2
theorem lease_bad {q : Queue} {now span : Int} (h : ¬ (leaseN q now span).2.2 = 0) : (leaseN q now span).2.1 = job0 ∧ (leaseN q now span).1 = ([], 0, 0) := by
  unfold leaseN at h ⊢
  split
  · exact ⟨rfl, rfl⟩
  · rename_i h1
    rw [if_neg h1] at h
    split
    · exact ⟨rfl, rfl⟩
    · rename_i h2
      rw [if_neg h2] at h
      split
      · exact ⟨rfl, rfl⟩
      · rename_i h3
        rw [if_neg h3] at h
        split at h <;> simp at h
theorem lease_good {q : Queue} {now span : Int} (h : (leaseN q now span).2.2 = 0) : goodQ (leaseN q now span).1 = true ∧ (leaseN q now span).1.1.length = q.1.length := by
  obtain ⟨g, n1, n2, t1, _, e⟩ := lease_ok h
  have t2 := (goodQ_iff g).2.2.2
  have hj := jrL_lease n1 n2 ⟨t2.1, t1⟩ q.1 (fun j hj => ⟨(goodQ_mem g hj).1, (goodQ_mem g hj).2.1⟩)
  have hlen := jrL_len hj
  rw [e]
  cases ho : (leaseL q.2.2 now span q.1).2 with
  | some j => exact ⟨goodQ_rel g hj ⟨by have := t2.1; omega, by omega⟩, hlen⟩
  | none =>
    refine ⟨?_, hlen⟩
    have hd : ∀ l : List Job, (leaseL q.2.2 now span l).2 = none → (∀ j ∈ l, mayJ j = true ∧ j.2.2.2.2.2.1 ≤ q.2.2) → jrL q.2.2 l (leaseL q.2.2 now span l).1 := by
      intro l
      induction l with
      | nil => intro _ _; trivial
      | cons j r ih =>
        intro hn hm
        simp only [leaseL] at hn ⊢
        split
        · rename_i hc; rw [if_pos hc] at hn; cases hn
        · rename_i hc
          rw [if_neg hc] at hn
          exact ⟨jr_dead (hm j List.mem_cons_self).1 (hm j List.mem_cons_self).2, ih hn fun k hk => hm k (List.mem_cons_of_mem _ hk)⟩
    exact goodQ_rel g (hd q.1 ho fun j hj => ⟨(goodQ_mem g hj).1, (goodQ_mem g hj).2.1⟩) t2
end Go.Proofs.Try
