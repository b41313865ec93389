import Derived.Test.YtfhcedpnofidnaaWireH
namespace Go.Proofs.Try
open Go.AM

/-- Messages that were sent one behind the other, by their times. -/
def mk : Nat → List Int → List Msg
  | _, [] => []
  | i, a :: r => ((i : Int) + 1, (i : Int).tmod 64, [], a) :: mk (i + 1) r
theorem mk_len : ∀ (l : List Int) (i : Nat), (mk i l).length = l.length
  | [], _ => rfl
  | a :: r, i => by simp [mk, mk_len r]
theorem mk_append : ∀ (l : List Int) (a : Int) (i : Nat), mk i (l ++ [a]) = mk i l ++ [(((i + l.length : Nat) : Int) + 1, ((i + l.length : Nat) : Int).tmod 64, [], a)]
  | [], a, i => rfl
  | b :: r, a, i => by
    have ih := mk_append r a (i + 1)
    simp only [mk, List.cons_append, ih, List.length_cons]
    rw [show i + 1 + r.length = i + (r.length + 1) by omega]
theorem mk_get : ∀ (l : List Int) (i j : Nat) (h : j < l.length), (mk i l)[j]'(by rw [mk_len]; exact h) = (((i + j : Nat) : Int) + 1, ((i + j : Nat) : Int).tmod 64, [], l[j])
  | a :: r, i, 0, h => rfl
  | a :: r, i, j + 1, h => by
    have ih := mk_get r (i + 1) j (by simpa using h)
    simp only [mk, List.getElem_cons_succ, ih]
    rw [show i + 1 + j = i + (j + 1) by omega]
theorem mk_good {l : List Int} {t : Int} (h1 : l.length ≤ 32) (h2 : ∀ a ∈ l, 0 ≤ a ∧ a ≤ t) (h3 : 0 ≤ t ∧ t ≤ 1099511627776) : goodNet (mk 0 l, (l.length : Int), t) = true := by
  refine (goodNet_iff _).2 ⟨by rw [mk_len]; exact h1, show 0 ≤ (l.length : Int) by omega, show (l.length : Int) ≤ _ by omega, h3.1, h3.2, ?_⟩
  rw [List.any_eq_false]
  intro m hm hb
  obtain ⟨j, hj, rfl⟩ := List.getElem_of_mem hm
  have hj' : j < l.length := by simpa [mk_len] using hj
  have hg := mk_get l 0 j hj'
  have ha := h2 l[j] (List.getElem_mem hj')
  rw [show (mk 0 l, (l.length : Int), t).1[j] = (mk 0 l)[j] from rfl, hg] at hb
  have ht1 : 0 ≤ ((0 + j : Nat) : Int).tmod 64 := Int.tmod_nonneg _ (by omega)
  have ht2 : ((0 + j : Nat) : Int).tmod 64 < 64 := Int.tmod_lt_of_pos _ (by omega)
  simp only [badMsg, Bool.or_eq_true, decide_eq_true_eq, List.length_nil] at hb
  omega
theorem mk_send {l : List Int} {t : Int} (h1 : l.length < 32) (h2 : ∀ a ∈ l, 0 ≤ a ∧ a ≤ t) (h3 : 0 ≤ t ∧ t ≤ 1099511627776) :
    sendN (mk 0 l, (l.length : Int), t) ((l.length : Int).tmod 64) [] = ((mk 0 (l ++ [t]), ((l.length + 1 : Nat) : Int), t), ((l.length + 1 : Nat) : Int), 0) := by
  have hg := mk_good (Nat.le_of_lt h1) h2 h3
  have ht1 : 0 ≤ (l.length : Int).tmod 64 := Int.tmod_nonneg _ (by omega)
  have ht2 : (l.length : Int).tmod 64 < 64 := Int.tmod_lt_of_pos _ (by omega)
  have e1 : ¬ (goodNet (mk 0 l, (l.length : Int), t) = false ∨ (l.length : Int).tmod 64 < 0 ∨ (l.length : Int).tmod 64 ≥ 64) := by
    rw [hg]; simp; omega
  have e2 : ¬ (([] : Str).length > 4096) := by simp
  have e3 : ¬ ((mk 0 l).length = 32 ∨ (l.length : Int) = 1099511627776) := by rw [mk_len]; omega
  rw [sendN, if_neg e1, if_neg e2, if_neg e3, mk_append]
  simp

/-- The places from i on, so many. -/
def ups : Nat → Nat → List Int
  | _, 0 => []
  | i, p + 1 => (i : Int) :: ups (i + 1) p
theorem ups_len : ∀ (p i : Nat), (ups i p).length = p
  | 0, _ => rfl
  | p + 1, i => by simp [ups, ups_len p]
theorem ups_get : ∀ (p i j : Nat) (h : j < p), (ups i p)[j]'(by rw [ups_len]; exact h) = ((i + j : Nat) : Int)
  | p + 1, i, 0, h => rfl
  | p + 1, i, j + 1, h => by
    simp only [ups, List.getElem_cons_succ]
    rw [ups_get p (i + 1) j (by omega), show i + 1 + j = i + (j + 1) by omega]
theorem lateFrom_none {now t : Int} : ∀ (l : List Int) (i k : Nat), (∀ a ∈ l, now - a < t) → lateFrom now t i (mk k l) = []
  | [], _, _, _ => rfl
  | a :: r, i, k, h => by
    have h1 := h a List.mem_cons_self
    simp only [mk, lateFrom]
    rw [if_neg (by omega)]
    exact lateFrom_none r _ _ fun b hb => h b (List.mem_cons_of_mem _ hb)
theorem lateFrom_mk {now t : Int} : ∀ (l : List Int) (i k : Nat), l.Pairwise (· ≤ ·) → ∃ p, p ≤ l.length ∧ lateFrom now t i (mk k l) = ups i p
  | [], i, _, _ => ⟨0, Nat.le_refl _, rfl⟩
  | a :: r, i, k, h => by
    rw [List.pairwise_cons] at h
    by_cases hc : now - a ≥ t
    · obtain ⟨p, h1, h2⟩ := lateFrom_mk r (i + 1) (k + 1) h.2
      refine ⟨p + 1, by simp; omega, ?_⟩
      simp only [mk, lateFrom]
      rw [if_pos hc, h2]
      rfl
    · refine ⟨0, Nat.zero_le _, ?_⟩
      simp only [mk, lateFrom]
      rw [if_neg hc]
      exact lateFrom_none r _ _ fun b hb => by have := h.1 b hb; omega
theorem lateFrom_anti {now t t' : Int} (h : t ≤ t') : ∀ (l : List Msg) (i : Nat), (lateFrom now t' i l).length ≤ (lateFrom now t i l).length
  | [], _ => Nat.le_refl _
  | m :: r, i => by
    have ih := lateFrom_anti (now := now) h r (i + 1)
    simp only [lateFrom]
    split <;> split <;> simp <;> omega
/-- What lies in a row without the thing at a place. -/
theorem gap_get {l : List Msg} {p j : Nat} (hp : p < l.length) (hj : j + 1 < l.length) : elt tMsg (l.take p ++ l.drop (p + 1)) j = if j < p then elt tMsg l j else elt tMsg l (j + 1) := by
  have hlen : (l.take p ++ l.drop (p + 1)).length = l.length - 1 := by simp; omega
  rw [eltM (show j < _ by omega)]
  split
  · rw [List.getElem_append_left (by simp; omega), eltM (by omega)]
    simp
  · rw [List.getElem_append_right (by simp; omega), eltM (by omega)]
    simp only [List.getElem_drop, List.length_take]
    congr 1
    omega
end Go.Proofs.Try
