/-
  Plain facts of the printed functions of layer 15: queues.
-/
import Derived.Test.YtmicdogcocbfoaaTQP
import Derived.Test.YtmicdogcocbfoaaFacts
import Derived.Test.YtmicdogcocbfoaaBMTrod
namespace Go.Plain
open Go.AM

abbrev tJ : Ty := .pair (.int .i64) (.pair .str (.pair .str (.pair (.int .i64) (.pair (.int .i64) (.pair (.int .i64) (.pair (.int .i64) (.int .i64)))))))
abbrev Job : Type := Int × (Str × (Str × (Int × (Int × (Int × (Int × Int))))))
abbrev Que : Type := List Job × (Int × Int)

theorem eltQ_mid (t : Ty) (a : List t.den) (x : t.den) (b : List t.den) : elt t (a ++ x :: b) a.length = x := by
  unfold elt
  simp [List.getD_eq_getElem?_getD]
theorem setQ_mid {α : Type} (a : List α) (x y : α) (b : List α) : (a ++ x :: b).set a.length y = a ++ y :: b := by
  rw [List.set_append_right _ _ (Nat.le_refl _), Nat.sub_self]
  rfl
theorem ifQ_mid {α β : Type} (a : List α) (x : α) (b : List α) (u v : β) : (if a.length < (a ++ x :: b).length then u else v) = u := if_pos (by simp)
theorem midQ_snoc {α : Type} (a : List α) (x : α) (b : List α) : a ++ x :: b = (a ++ [x]) ++ b := by simp
theorem snocQ_len {α : Type} (a : List α) (x : α) : ((a ++ [x]).length : Int) = (a.length : Int) + 1 := by simp

def win (n : Int) : Bool := decide (0 ≤ n) && decide (n ≤ 1099511627776)
theorem within_1_is (n : Int) : queue_within_1 n = some (!win n) := by
  unfold queue_within_1 win
  by_cases h : n < 0
  · rw [if_pos (decide_eq_true h), decide_eq_false (p := 0 ≤ n) (by omega)]
    rfl
  · rw [if_neg (by simpa using h), decide_eq_true (p := 0 ≤ n) (by omega)]
    by_cases g : n > 1099511627776
    · rw [decide_eq_true g, decide_eq_false (p := n ≤ 1099511627776) (by omega)]
      rfl
    · rw [decide_eq_false g, decide_eq_true (p := n ≤ 1099511627776) (by omega)]
      rfl
theorem within_is {l : List Int} (hl : l.length ≤ 1000000) : queue_within l = some (l.all win) := by
  have key : ∀ (b a : List Int), (a ++ b).length ≤ 1000000 →
      ∃ r, slices_IndexFunc_int_23l_l3 ((a.length : Int), (a ++ b, ((a ++ b).length : Int))) = some r ∧ ((b.all win = true ∧ r = .inr ()) ∨ (b.all win = false ∧ ∃ k, r = .inl k ∧ 0 ≤ k)) := by
    intro b
    induction b with
    | nil =>
      intro a hl
      rw [slices_IndexFunc_int_23l_l3_eq]
      unfold slices_IndexFunc_int_23l_l3F
      dsimp only
      rw [if_neg (by simp)]
      exact ⟨_, rfl, .inl ⟨rfl, rfl⟩⟩
    | cons x b ih =>
      intro a hl
      have hl2 : (a ++ x :: b).length = a.length + (b.length + 1) := by simp
      have hw : IntKind.wrap .i64 ((a.length : Int) + 1) = (a.length : Int) + 1 := wr64 (by omega)
      obtain ⟨r, h1, h2⟩ := ih (a ++ [x]) (by simp at hl ⊢; omega)
      rw [slices_IndexFunc_int_23l_l3_eq]
      unfold slices_IndexFunc_int_23l_l3F
      dsimp only
      rw [Int.toNat_natCast, eltQ_mid (.int .i64), if_pos (by rw [decide_eq_true_eq]; omega), if_pos (by omega), if_pos (by omega), within_1_is, sb, hw, List.all_cons]
      cases q : win x with
      | false =>
        rw [if_pos (by rfl)]
        exact ⟨_, rfl, .inr ⟨rfl, _, rfl, by omega⟩⟩
      | true =>
        rw [snocQ_len, ← midQ_snoc] at h1
        rw [if_neg (by decide), h1]
        exact ⟨r, rfl, h2⟩
  obtain ⟨r, h1, h2⟩ := key l [] (by simpa using hl)
  have h1 : slices_IndexFunc_int_23l_l3 ((0 : Int), (l, (l.length : Int))) = some r := h1
  unfold queue_within slices_ContainsFunc_int_23l slices_IndexFunc_int_23l
  rw [h1, sb]
  rcases h2 with ⟨e, rfl⟩ | ⟨e, k, rfl, hk⟩
  · rw [e]
    rfl
  · rw [e]
    show some (!decide (k ≥ 0)) = _
    rw [decide_eq_true hk]
    rfl

/-- A job that may be. -/
def Good (j : Job) : Prop := 1 ≤ j.1 ∧ j.1 ≤ 1099511627776 ∧ (0 ≤ j.2.2.2.2.2.1 ∧ j.2.2.2.2.2.1 ≤ 1099511627776) ∧ (0 ≤ j.2.2.2.2.2.2.1 ∧ j.2.2.2.2.2.2.1 ≤ 1099511627776) ∧ (0 ≤ j.2.2.2.2.2.2.2 ∧ j.2.2.2.2.2.2.2 ≤ 1099511627776) ∧
  j.2.1.length ≤ 200 ∧ j.2.2.1.length ≤ 200 ∧ (1 ≤ j.2.2.2.1 ∧ j.2.2.2.1 ≤ 5) ∧ 0 ≤ j.2.2.2.2.1 ∧ j.2.2.2.2.1 ≤ 10
theorem win_true {n : Int} (h : 0 ≤ n) (g : n ≤ 1099511627776) : win n = true := by simp [win, h, g]
theorem may_true {j : Job} (h : Good j) : queue_may j = some true := by
  obtain ⟨h1, h2, ⟨h3, h3'⟩, ⟨h4, h4'⟩, ⟨h5, h5'⟩, h6, h7, ⟨h8, h8'⟩, h9, h10⟩ := h
  unfold queue_may
  rw [if_pos (decide_eq_true h1), within_is (by simp), sb]
  have e : ([j.1, j.2.2.2.2.2.1, j.2.2.2.2.2.2.1, j.2.2.2.2.2.2.2].all win) = true := by
    simp only [List.all_cons, List.all_nil, win_true (n := j.1) (by omega) h2, win_true h3 h3', win_true h4 h4', win_true h5 h5']
    rfl
  rw [e, if_pos rfl, if_pos (by rw [decide_eq_true_eq]; omega), if_pos (by rw [decide_eq_true_eq]; omega), if_pos (decide_eq_true h8), if_pos (decide_eq_true h8'), if_pos (decide_eq_true h9), decide_eq_true h10]
def opn (j : Job) : Bool := j.2.2.2.1 == 1 || j.2.2.2.1 == 2
theorem open_is (j : Job) : queue_open j = some (opn j) := by
  unfold queue_open opn
  cases h : j.2.2.2.1 == 1 <;> rfl
def hold (key : Str) (id : Int) (j : Job) : Bool := opn j && (j.2.1 == key) && (j.1 != id)
theorem holds_1_is (j : Job) (key : Str) (id : Int) : queue_holds_1_94m (j, (key, id)) = some (hold key id j, (key, id)) := by
  unfold queue_holds_1_94m hold
  dsimp only
  rw [open_is, sb]
  cases opn j with
  | false => rfl
  | true =>
    rw [if_pos rfl]
    cases j.2.1 == key <;> rfl
theorem holds_is {q : Que} (hl : q.1.length ≤ 1000000) (key : Str) (id : Int) : queue_holds (q, (key, id)) = some (q.1.any (hold key id)) := by
  have kk : ∀ (b a : List Job), (a ++ b).length ≤ 1000000 →
      ∃ r, slices_IndexFunc_api_Job_8sr_l3 (((a.length : Int), (a ++ b, ((a ++ b).length : Int))), (key, id)) = some r ∧ ((b.any (hold key id) = false ∧ r = .inr (key, id)) ∨ (b.any (hold key id) = true ∧ ∃ k, r = .inl (k, (key, id)) ∧ 0 ≤ k)) := by
    intro b
    induction b with
    | nil =>
      intro a hl
      rw [slices_IndexFunc_api_Job_8sr_l3_eq]
      unfold slices_IndexFunc_api_Job_8sr_l3F
      dsimp only
      rw [if_neg (by simp)]
      exact ⟨_, rfl, .inl ⟨rfl, rfl⟩⟩
    | cons x b ih =>
      intro a hl
      have hl2 : (a ++ x :: b).length = a.length + (b.length + 1) := by simp
      have hw : IntKind.wrap .i64 ((a.length : Int) + 1) = (a.length : Int) + 1 := wr64 (by omega)
      obtain ⟨r, h1, h2⟩ := ih (a ++ [x]) (by simp at hl ⊢; omega)
      rw [slices_IndexFunc_api_Job_8sr_l3_eq]
      unfold slices_IndexFunc_api_Job_8sr_l3F
      dsimp only
      rw [Int.toNat_natCast, eltQ_mid tJ, if_pos (by rw [decide_eq_true_eq]; omega), if_pos (by omega), if_pos (by omega), holds_1_is, sb, hw, List.any_cons]
      cases q : hold key id x with
      | true =>
        rw [if_pos (by rfl)]
        exact ⟨_, rfl, .inr ⟨rfl, _, rfl, by omega⟩⟩
      | false =>
        rw [snocQ_len, ← midQ_snoc] at h1
        rw [if_neg (show ¬ (false = true) by decide), h1]
        exact ⟨r, rfl, h2⟩
  obtain ⟨r, h1, h2⟩ := kk q.1 [] (by simpa using hl)
  have h1 : slices_IndexFunc_api_Job_8sr_l3 (((0 : Int), (q.1, (q.1.length : Int))), (key, id)) = some r := h1
  unfold queue_holds slices_ContainsFunc_api_Job_8sr slices_IndexFunc_api_Job_8sr
  dsimp only
  rw [h1, sb]
  rcases h2 with ⟨e, rfl⟩ | ⟨e, k, rfl, hk⟩
  · rw [e]
    rfl
  · rw [e]
    show some (decide (k ≥ 0)) = _
    rw [decide_eq_true hk]

/-- A queue that may be. -/
structure RightQ (q : Que) : Prop where
  len : q.1.length ≤ 64
  all : ∀ j ∈ q.1, Good j ∧ j.1 ≤ q.2.1 ∧ j.2.2.2.2.2.1 ≤ q.2.2
  inc : q.1.Pairwise fun x y => x.1 < y.1
  keys : ((q.1.filter opn).map fun j => j.2.1).Nodup
  last : win q.2.1 = true
  tok : win q.2.2 = true
theorem key_inj : ∀ {l : List Job}, ((l.filter opn).map fun j => j.2.1).Nodup → ∀ x ∈ l, ∀ y ∈ l, opn x = true → opn y = true → x.2.1 = y.2.1 → x = y
  | [], _, x, hx, _, _, _, _, _ => by cases hx
  | z :: l, h, x, hx, y, hy, ox, oy, e => by
    have hm : ∀ w ∈ l, opn w = true → w.2.1 ∈ (l.filter opn).map fun j => j.2.1 := fun w hw ow => List.mem_map.2 ⟨w, List.mem_filter.2 ⟨hw, ow⟩, rfl⟩
    cases oz : opn z with
    | false =>
      rw [List.filter_cons, oz] at h
      have hx' : x ∈ l := by
        rcases List.mem_cons.1 hx with rfl | hx
        · rw [oz] at ox; cases ox
        · exact hx
      have hy' : y ∈ l := by
        rcases List.mem_cons.1 hy with rfl | hy
        · rw [oz] at oy; cases oy
        · exact hy
      exact key_inj h x hx' y hy' ox oy e
    | true =>
      rw [List.filter_cons, oz] at h
      have h : (z.2.1 :: (l.filter opn).map fun j => j.2.1).Nodup := h
      obtain ⟨h1, h2⟩ := List.nodup_cons.1 h
      rcases List.mem_cons.1 hx with hx1 | hx1 <;> rcases List.mem_cons.1 hy with hy1 | hy1
      · rw [hx1, hy1]
      · have := hm y hy1 oy
        rw [← e, hx1] at this
        exact absurd this h1
      · have := hm x hx1 ox
        rw [e, hy1] at this
        exact absurd this h1
      · exact key_inj h2 x hx1 y hy1 ox oy e
theorem Right_true {q : Que} (h : RightQ q) : queue_Right q = some true := by
  have hlen := h.len
  have kk : ∀ (b a : List Job) (last : Int), q.1 = a ++ b → (∀ y ∈ b, last < y.1) → b.Pairwise (fun x y => x.1 < y.1) →
      queue_Right_l4 (((a.length : Int), (last, (q.1, (q.1.length : Int)))), q) = some (.inr q) := by
    intro b
    induction b with
    | nil =>
      intro a last e _ _
      rw [queue_Right_l4_eq]
      unfold queue_Right_l4F
      dsimp only
      rw [if_neg (by rw [e]; simp)]
    | cons x b ih =>
      intro a last e hlast hp
      have hl2 : q.1.length = a.length + (b.length + 1) := by rw [e]; simp
      have hw : IntKind.wrap .i64 ((a.length : Int) + 1) = (a.length : Int) + 1 := wr64 (by omega)
      have he : elt tJ q.1 a.length = x := by rw [e]; exact eltQ_mid tJ a x b
      have hx : x ∈ q.1 := by rw [e]; simp
      obtain ⟨g1, g2, g3⟩ := h.all x hx
      obtain ⟨p1, p2⟩ := List.pairwise_cons.1 hp
      have hlx := hlast x (by simp)
      have ih := ih (a ++ [x]) x.1 (by rw [e]; simp) p1 p2
      rw [snocQ_len] at ih
      rw [queue_Right_l4_eq]
      unfold queue_Right_l4F
      dsimp only
      rw [Int.toNat_natCast, he, if_pos (by rw [decide_eq_true_eq]; omega), if_pos (by omega), if_pos (by omega), may_true g1, sb, if_neg (by decide)]
      rw [if_neg (fun h => absurd (of_decide_eq_true h) (show ¬ x.1 ≤ last by omega)), if_neg (fun h => absurd (of_decide_eq_true h) (show ¬ x.1 > q.2.1 by omega)), if_neg (fun h => absurd (of_decide_eq_true h) (show ¬ x.2.2.2.2.2.1 > q.2.2 by omega)), open_is, sb, hw]
      cases o : opn x with
      | false => rw [if_neg (by decide), ih]
      | true =>
        have hn : q.1.any (hold x.2.1 x.1) = false := by
          rw [List.any_eq_false]
          intro y hy hh
          simp only [hold, Bool.and_eq_true, beq_iff_eq, bne_iff_ne] at hh
          have := key_inj h.keys y hy x hx hh.1.1 o hh.1.2
          exact hh.2 (by rw [this])
        rw [if_pos rfl, holds_is (by omega), sb, hn, if_neg (by decide), ih]
  have h0 := kk q.1 [] 0 rfl (fun y hy => by have := (h.all y hy).1.1; omega) h.inc
  have h0 : queue_Right_l4 (((0 : Int), ((0 : Int), (q.1, (q.1.length : Int)))), q) = some (.inr q) := h0
  unfold queue_Right
  rw [h0, sb]
  dsimp only [Sum.elim_inr]
  rw [if_pos (by rw [decide_eq_true_eq]; omega), within_is (by simp), sb]
  simp [h.last, h.tok]

theorem Clone_is {l : List Job} (h : l.length ≤ 64) : slices_Clone_api_Job l = some l := if_pos (by omega)
/-- Putting a job in. -/
theorem Add_true {q : Que} (h : RightQ q) {key body : Str} (hk : key.length ≤ 200) (hb : body.length ≤ 200) (hh : q.1.any (hold key 0) = false) (hl : q.1.length < 64) (hm : q.2.1 < 1099511627776) :
    queue_Add (q, (key, body)) = some (((q.1 ++ [(q.2.1 + 1, (key, (body, (1, (0, (0, (0, 0)))))))], (q.2.1 + 1, q.2.2)), (q.2.1 + 1, 0))) := by
  have h0 : 0 ≤ q.2.1 := by
    have := h.last
    simp only [win, Bool.and_eq_true, decide_eq_true_eq] at this
    exact this.1
  have hw : IntKind.wrap .i64 (q.2.1 + 1) = q.2.1 + 1 := wr64 (by omega)
  unfold queue_Add
  dsimp only
  rw [Right_true h, sb, if_neg (by decide), if_neg (by rw [decide_eq_true_eq]; omega), if_neg (by rw [decide_eq_true_eq]; omega), holds_is (by omega), sb, hh, if_neg (by decide), Clone_is (by omega), sb, if_neg (by simp; omega), if_neg (by simp; omega), if_neg (by simp; omega), if_pos (by constructor <;> (simp; omega)), hw]
theorem Add_twice {q : Que} (h : RightQ q) {key body : Str} (hk : key.length ≤ 200) (hb : body.length ≤ 200) (hh : q.1.any (hold key 0) = true) : queue_Add (q, (key, body)) = some (([], (0, 0)), (0, 17)) := by
  have hl := h.len
  unfold queue_Add
  dsimp only
  rw [Right_true h, sb, if_neg (by decide), if_neg (by rw [decide_eq_true_eq]; omega), if_neg (by rw [decide_eq_true_eq]; omega), holds_is (by omega), sb, hh, if_pos rfl]

/-! leasing -/
def rdy (now : Int) (j : Job) : Bool := opn j && decide (j.2.2.2.2.2.2.1 ≤ now)
theorem ready_is (j : Job) (now : Int) : queue_Lease_1_e4g (j, now) = some (rdy now j, now) := by
  unfold queue_Lease_1_e4g rdy
  dsimp only
  rw [open_is, sb]
  cases opn j <;> rfl
theorem f3f_is {l : List Job} (hl : l.length ≤ 1000000) (now : Int) : slices_ContainsFunc_api_Job_f3f (l, now) = some (l.any (rdy now), now) := by
  have kk : ∀ (b a : List Job), (a ++ b).length ≤ 1000000 →
      ∃ r, slices_IndexFunc_api_Job_f3f_l3 (((a.length : Int), (a ++ b, ((a ++ b).length : Int))), now) = some r ∧ ((b.any (rdy now) = false ∧ r = .inr now) ∨ (b.any (rdy now) = true ∧ ∃ k, r = .inl (k, now) ∧ 0 ≤ k)) := by
    intro b
    induction b with
    | nil =>
      intro a hl
      rw [slices_IndexFunc_api_Job_f3f_l3_eq]
      unfold slices_IndexFunc_api_Job_f3f_l3F
      dsimp only
      rw [if_neg (by simp)]
      exact ⟨_, rfl, .inl ⟨rfl, rfl⟩⟩
    | cons x b ih =>
      intro a hl
      have hl2 : (a ++ x :: b).length = a.length + (b.length + 1) := by simp
      have hw : IntKind.wrap .i64 ((a.length : Int) + 1) = (a.length : Int) + 1 := wr64 (by omega)
      obtain ⟨r, h1, h2⟩ := ih (a ++ [x]) (by simp at hl ⊢; omega)
      rw [slices_IndexFunc_api_Job_f3f_l3_eq]
      unfold slices_IndexFunc_api_Job_f3f_l3F
      dsimp only
      rw [Int.toNat_natCast, eltQ_mid tJ, if_pos (by rw [decide_eq_true_eq]; omega), if_pos (by omega), if_pos (by omega), ready_is, sb, hw, List.any_cons]
      cases q : rdy now x with
      | true =>
        rw [if_pos (by rfl)]
        exact ⟨_, rfl, .inr ⟨rfl, _, rfl, by omega⟩⟩
      | false =>
        rw [snocQ_len, ← midQ_snoc] at h1
        rw [if_neg (show ¬ (false = true) by decide), h1]
        exact ⟨r, rfl, h2⟩
  obtain ⟨r, h1, h2⟩ := kk l [] (by simpa using hl)
  have h1 : slices_IndexFunc_api_Job_f3f_l3 (((0 : Int), (l, (l.length : Int))), now) = some r := h1
  unfold slices_ContainsFunc_api_Job_f3f slices_IndexFunc_api_Job_f3f
  dsimp only
  rw [h1, sb]
  rcases h2 with ⟨e, rfl⟩ | ⟨e, k, rfl, hk⟩
  · rw [e]
    rfl
  · rw [e]
    show some (decide (k ≥ 0), now) = _
    rw [decide_eq_true hk]
/-- A job that is handed out. -/
def leasedJ (j : Job) (tok til : Int) : Job := (j.1, (j.2.1, (j.2.2.1, (2, (j.2.2.2.2.1 + 1, (tok, (til, j.2.2.2.2.2.2.2)))))))
theorem Lease_l12_at (c : Que) (c1 : Job) (last tok now span : Int) (ht : 0 ≤ tok ∧ tok < 1099511627776) (hn : 0 ≤ now ∧ now ≤ 1099511627776) (hs : 0 ≤ span ∧ span ≤ 1099511627776) {j : Job} (hj : rdy now j = true) (h10 : 0 ≤ j.2.2.2.2.1 ∧ j.2.2.2.2.1 < 10) (B : List Job) :
    ∀ (A2 A1 : List Job), (A1 ++ A2 ++ j :: B).length ≤ 64 → (∀ x ∈ A2, rdy now x = false) →
    queue_Lease_l12 (((A1.length : Int), (span, ((A1 ++ A2 ++ j :: B).length : Int))), (c, (c1, ((last, tok), (now, A1 ++ A2 ++ j :: B))))) =
      some (.inl (0, ((last, tok + 1), (leasedJ j (tok + 1) (min (now + span) 1099511627776), A1 ++ A2 ++ leasedJ j (tok + 1) (min (now + span) 1099511627776) :: B)))) := by
  intro A2
  induction A2 with
  | nil =>
    intro A1 hl _
    rw [List.append_nil] at hl ⊢
    have hl2 : (A1 ++ j :: B).length = A1.length + (B.length + 1) := by simp
    have w1 : IntKind.wrap .i64 (tok + 1) = tok + 1 := wr64 (by omega)
    have w2 : IntKind.wrap .i64 (j.2.2.2.2.1 + 1) = j.2.2.2.2.1 + 1 := wr64 (by omega)
    have w3 : IntKind.wrap .i64 (now + span) = now + span := wr64 (by omega)
    rw [queue_Lease_l12_eq]
    unfold queue_Lease_l12F
    dsimp only
    rw [if_pos (by rw [decide_eq_true_eq]; omega), if_pos (by omega), if_pos (by omega)]
    simp only [Int.toNat_natCast, ifQ_mid, eltQ_mid tJ, ready_is, sb, hj, setQ_mid]
    rw [if_neg (by decide), if_neg (fun h => absurd (beq_iff_eq.1 h) (show ¬ j.2.2.2.2.1 = 10 by omega))]
    unfold queue_later
    simp only [sb, w1, w2, w3]
    rfl
  | cons x A2 ih =>
    intro A1 hl hA
    have e : A1 ++ x :: A2 ++ j :: B = A1 ++ x :: (A2 ++ j :: B) := by simp
    have e2 : (A1 ++ [x]) ++ A2 ++ j :: B = A1 ++ x :: (A2 ++ j :: B) := by simp
    have ih := ih (A1 ++ [x]) (by rw [e2, ← e]; exact hl) (fun y hy => hA y (by simp [hy]))
    have e3 : ∀ y : Job, (A1 ++ [x]) ++ A2 ++ y :: B = A1 ++ x :: A2 ++ y :: B := fun y => by simp
    rw [snocQ_len, e3, e3] at ih
    have hl2 : (A1 ++ x :: A2 ++ j :: B).length = A1.length + (A2.length + (B.length + 1) + 1) := by simp <;> omega
    have hw : IntKind.wrap .i64 ((A1.length : Int) + 1) = (A1.length : Int) + 1 := wr64 (by omega)
    have he : elt tJ (A1 ++ x :: A2 ++ j :: B) A1.length = x := by rw [e]; exact eltQ_mid tJ A1 x _
    rw [queue_Lease_l12_eq]
    unfold queue_Lease_l12F
    dsimp only
    rw [if_pos (by rw [decide_eq_true_eq]; omega), if_pos (by omega), if_pos (by omega), if_pos (by rw [Int.toNat_natCast]; omega)]
    rw [Int.toNat_natCast, he, ready_is, sb, hA x (by simp), if_pos (show (!false) = true by rfl), hw, ih]
theorem Lease_true {q : Que} (h : RightQ q) {now span : Int} (hn : 0 ≤ now ∧ now ≤ 1099511627776) (hs : 0 ≤ span ∧ span ≤ 1099511627776) {A B : List Job} {j : Job} (e : q.1 = A ++ j :: B) (hA : ∀ x ∈ A, rdy now x = false) (hj : rdy now j = true)
    (h10 : j.2.2.2.2.1 < 10) (ht : q.2.2 < 1099511627776) :
    queue_Lease (q, (now, span)) = some ((A ++ leasedJ j (q.2.2 + 1) (min (now + span) 1099511627776) :: B, (q.2.1, q.2.2 + 1)), (leasedJ j (q.2.2 + 1) (min (now + span) 1099511627776), 0)) := by
  have hl := h.len
  have h0 : 0 ≤ q.2.2 := by
    have := h.tok
    simp only [win, Bool.and_eq_true, decide_eq_true_eq] at this
    exact this.1
  have hjm : j ∈ q.1 := by rw [e]; simp
  have hj0 := (h.all j hjm).1.2.2.2.2.2.2.2.2.1
  have ha : q.1.any (rdy now) = true := by
    rw [List.any_eq_true]
    exact ⟨j, hjm, hj⟩
  have hk := Lease_l12_at ([], (0, 0)) (0, ([], ([], (0, (0, (0, (0, 0))))))) q.2.1 q.2.2 now span ⟨h0, ht⟩ hn hs hj ⟨hj0, h10⟩ B A [] (by rw [e] at hl; simpa using hl) hA
  simp only [List.nil_append] at hk
  rw [← e] at hk
  have hk : queue_Lease_l12 (((0 : Int), (span, (q.1.length : Int))), _) = _ := hk
  have hw : ([now, span].all win) = true := by simp [win, hn, hs]
  unfold queue_Lease
  dsimp only
  rw [Right_true h, sb, if_neg (by decide), within_is (by simp), sb, hw, if_neg (by decide), f3f_is (by omega), sb, ha, if_neg (show ¬ ((!true) = true) by decide), if_neg (fun h => absurd (beq_iff_eq.1 h) (show ¬ q.2.2 = 1099511627776 by omega)), Clone_is hl, sb]
  have hk : queue_Lease_l12 (((0 : Int), (span, (q.1.length : Int))), (([], ((0 : Int), (0 : Int))), (((0 : Int), ([], ([], ((0 : Int), ((0 : Int), ((0 : Int), ((0 : Int), (0 : Int)))))))), (q.2, (now, q.1))))) = _ := hk
  rw [hk, sb]
  rfl
theorem Lease_none {q : Que} (h : RightQ q) {now span : Int} (hn : 0 ≤ now ∧ now ≤ 1099511627776) (hs : 0 ≤ span ∧ span ≤ 1099511627776) (ha : q.1.any (rdy now) = false) : ∃ r, queue_Lease (q, (now, span)) = some r ∧ r.2.2 = 9 := by
  have hl := h.len
  have hw : ([now, span].all win) = true := by simp [win, hn, hs]
  unfold queue_Lease
  dsimp only
  rw [Right_true h, sb, if_neg (by decide), within_is (by simp), sb, hw, if_neg (by decide), f3f_is (by omega), sb, ha, if_pos (show (!false) = true by rfl)]
  exact ⟨_, rfl, rfl⟩

/-! ending -/
theorem sfo_is {A B : List Job} {j : Job} {id : Int} (hA : ∀ x ∈ A, x.1 ≠ id) (hj : j.1 = id) (hl : (A ++ j :: B).length ≤ 1000000) : slices_IndexFunc_api_Job_sfo (A ++ j :: B, id) = some ((A.length : Int), id) := by
  have kk : ∀ (A2 A1 : List Job), A = A1 ++ A2 → slices_IndexFunc_api_Job_sfo_l3 (((A1.length : Int), (A ++ j :: B, ((A ++ j :: B).length : Int))), id) = some (.inl ((A.length : Int), id)) := by
    intro A2
    induction A2 with
    | nil =>
      intro A1 e
      rw [List.append_nil] at e
      subst e
      rw [slices_IndexFunc_api_Job_sfo_l3_eq]
      unfold slices_IndexFunc_api_Job_sfo_l3F
      dsimp only
      have hc : queue_change_1_e4g (j, id) = some (true, id) := by
        unfold queue_change_1_e4g
        dsimp only
        rw [hj]
        simp
      rw [Int.toNat_natCast, eltQ_mid tJ, if_pos (by rw [decide_eq_true_eq]; simp; omega), if_pos (by omega), if_pos (by simp; omega), hc, sb, if_pos rfl]
    | cons x A2 ih =>
      intro A1 e
      have ih := ih (A1 ++ [x]) (by rw [e]; simp)
      have e2 : A ++ j :: B = A1 ++ x :: (A2 ++ j :: B) := by rw [e]; simp
      have hlt : A1.length < (A ++ j :: B).length := by rw [e2]; simp
      have hw : IntKind.wrap .i64 ((A1.length : Int) + 1) = (A1.length : Int) + 1 := wr64 (by omega)
      have he : elt tJ (A ++ j :: B) A1.length = x := by rw [e2]; exact eltQ_mid tJ A1 x _
      have hx : x.1 ≠ id := hA x (by rw [e]; simp)
      have hc : queue_change_1_e4g (x, id) = some (false, id) := by
        unfold queue_change_1_e4g
        simp [hx]
      rw [snocQ_len] at ih
      rw [slices_IndexFunc_api_Job_sfo_l3_eq]
      unfold slices_IndexFunc_api_Job_sfo_l3F
      dsimp only
      rw [Int.toNat_natCast, he, if_pos (by rw [decide_eq_true_eq]; omega), if_pos (by omega), if_pos (by omega), hc, sb, if_neg (show ¬ (false = true) by decide), hw, ih]
  have h := kk A [] rfl
  have h : slices_IndexFunc_api_Job_sfo_l3 (((0 : Int), (A ++ j :: B, ((A ++ j :: B).length : Int))), id) = _ := h
  unfold slices_IndexFunc_api_Job_sfo
  dsimp only
  rw [h, sb]
  rfl
def stateJ (j : Job) (s : Int) : Job := (j.1, (j.2.1, (j.2.2.1, (s, j.2.2.2.2))))
theorem Done_true {q : Que} (h : RightQ q) {A B : List Job} {j : Job} (e : q.1 = A ++ j :: B) (hA : ∀ x ∈ A, x.1 ≠ j.1) (hs : j.2.2.2.1 = 2) : queue_Done (q, (j.1, j.2.2.2.2.2.1)) = some ((A ++ stateJ j 3 :: B, q.2), 0) := by
  have hl := h.len
  have hlt : A.length < q.1.length := by rw [e]; simp
  unfold queue_Done queue_leased_8rr queue_change_01i
  dsimp only
  rw [Right_true h, sb, if_neg (by decide), if_neg (by decide), Clone_is hl, e, sfo_is hA rfl (by rw [← e]; omega), sb, if_neg (by rw [decide_eq_true_eq]; omega), sb, if_pos (by omega), if_pos (by simp; omega), Int.toNat_natCast]
  unfold queue_leased_1_ydq queue_Done_1_o19
  dsimp only
  simp only [Int.toNat_natCast, ifQ_mid, eltQ_mid tJ, setQ_mid, hs]
  rw [if_neg (by decide), if_neg (by simp), sb]
  rfl
theorem Stop_true {q : Que} (h : RightQ q) {A B : List Job} {j : Job} (e : q.1 = A ++ j :: B) (hA : ∀ x ∈ A, x.1 ≠ j.1) (ho : opn j = true) : queue_Stop (q, j.1) = some ((A ++ stateJ j 4 :: B, q.2), 0) := by
  have hl := h.len
  have hlt : A.length < q.1.length := by rw [e]; simp
  unfold queue_Stop queue_change_srr
  dsimp only
  rw [Right_true h, sb, if_neg (by decide), if_neg (by decide), Clone_is hl, e, sfo_is hA rfl (by rw [← e]; omega), sb, if_neg (by rw [decide_eq_true_eq]; omega), sb, if_pos (by omega), if_pos (by simp; omega), Int.toNat_natCast]
  unfold queue_Stop_1_o19
  dsimp only
  simp only [Int.toNat_natCast, ifQ_mid, eltQ_mid tJ, setQ_mid, open_is, sb, ho]
  rw [if_neg (by decide)]
  rfl
end Go.Plain

/-
  The plain law 'QueueTurns'.
-/
namespace Go.Plain
open Go.AM

/-- Jobs of keys, numbered from k on. -/
def en (f : Nat → Str → Job) : Nat → List Str → List Job
  | _, [] => []
  | k, x :: r => f k x :: en f (k + 1) r
theorem en_len (f : Nat → Str → Job) : ∀ (l : List Str) (k : Nat), (en f k l).length = l.length
  | [], _ => rfl
  | x :: r, k => by simp [en, en_len f r]
theorem en_app (f : Nat → Str → Job) : ∀ (l m : List Str) (k : Nat), en f k (l ++ m) = en f k l ++ en f (k + l.length) m
  | [], m, k => by simp [en]
  | x :: r, m, k => by
    have : k + (r.length + 1) = k + 1 + r.length := by omega
    simp [en, en_app f r, this]
theorem en_mem {f : Nat → Str → Job} : ∀ {l : List Str} {k : Nat} {j : Job}, j ∈ en f k l → ∃ i x, x ∈ l ∧ k ≤ i ∧ i < k + l.length ∧ j = f i x
  | [], _, _, h => by cases h
  | x :: r, k, j, h => by
    rcases List.mem_cons.1 h with rfl | h
    · exact ⟨k, x, by simp, Nat.le_refl _, by simp, rfl⟩
    · obtain ⟨i, y, h1, h2, h3, h4⟩ := en_mem h
      exact ⟨i, y, by simp [h1], by omega, by simp; omega, h4⟩
theorem en_inc {f : Nat → Str → Job} {c : Int} (hf : ∀ k x, (f k x).1 = c + (k : Int)) : ∀ (l : List Str) (k : Nat), (en f k l).Pairwise fun x y => x.1 < y.1
  | [], _ => List.Pairwise.nil
  | x :: r, k => by
    refine List.pairwise_cons.2 ⟨fun y hy => ?_, en_inc hf r (k + 1)⟩
    obtain ⟨i, z, _, h2, _, rfl⟩ := en_mem hy
    show (f k x).1 < (f i z).1
    rw [hf, hf]
    omega
theorem en_none {f : Nat → Str → Job} (hf : ∀ k x, opn (f k x) = false) (l : List Str) (k : Nat) : (en f k l).filter opn = [] := by
  rw [List.filter_eq_nil_iff]
  intro j hj
  obtain ⟨i, x, _, _, _, rfl⟩ := en_mem hj
  rw [hf]
  decide
theorem en_open {f : Nat → Str → Job} (hf : ∀ k x, opn (f k x) = true) (hk : ∀ k x, (f k x).2.1 = x) : ∀ (l : List Str) (k : Nat), ((en f k l).filter opn).map (fun j => j.2.1) = l
  | [], _ => rfl
  | x :: r, k => by
    have ih := en_open hf hk r (k + 1)
    unfold en
    rw [List.filter_cons, hf, if_pos rfl, List.map_cons, hk, ih]

def bB : Str := [98]
def bA : Str := [97, 103, 97, 105, 110]
/-- Pending; done; stopped. -/
def Pj (k : Nat) (x : Str) : Job := ((k : Int), (x, (bB, (1, (0, (0, (0, 0)))))))
def Dj (k : Nat) (x : Str) : Job := ((k : Int), (x, (bB, (3, (1, ((k : Int), (12, 0)))))))
def Sj (n k : Nat) (x : Str) : Job := (((n + k : Nat) : Int), (x, (bA, (4, (0, (0, (0, 0)))))))
def jobsAt (a b : List Str) : List Job := en Dj 1 a ++ (en Pj (a.length + 1) b ++ en (Sj (a.length + b.length)) 1 a)
theorem Dj_not (k : Nat) (x : Str) : opn (Dj k x) = false := rfl
theorem Sj_not (n k : Nat) (x : Str) : opn (Sj n k x) = false := rfl
theorem Pj_open (k : Nat) (x : Str) : opn (Pj k x) = true := rfl

/-- Queues that are met on the way: jobs that are done, some that are open, jobs that are stopped, and some further. -/
structure Met (a b : List Str) : Prop where
  len : a.length + b.length ≤ 20
  keys : ∀ x ∈ a ++ b, x.length ≤ 100
  nd : (a ++ b).Nodup
theorem right_at {a b : List Str} (h : Met a b) {M E : List Job} {last tok : Int} (hM : ∀ j ∈ M, Good j ∧ (a.length : Int) + 1 ≤ j.1 ∧ j.1 ≤ ((a.length + b.length : Nat) : Int) ∧ j.2.2.2.2.2.1 ≤ tok) (hMi : M.Pairwise fun x y => x.1 < y.1) (hMl : M.length ≤ b.length)
    {k : Nat} (hk : k ≤ a.length) {s : List Str} (hs : s.length = k) (hss : ∀ x ∈ s, x.length ≤ 100) (hE : E.length ≤ 1) (hEg : ∀ j ∈ E, Good j ∧ ((a.length + b.length + k : Nat) : Int) < j.1 ∧ j.1 ≤ last ∧ j.2.2.2.2.2.1 ≤ tok)
    (ht : (a.length : Int) ≤ tok ∧ tok ≤ 1000) (hl : ((a.length + b.length + k : Nat) : Int) ≤ last ∧ last ≤ 1000) (hkeys : (((M ++ E).filter opn).map fun j => j.2.1).Nodup) :
    RightQ (en Dj 1 a ++ (M ++ (en (Sj (a.length + b.length)) 1 s ++ E)), (last, tok)) := by
  have hlen := h.len
  have hka : ∀ x ∈ a, x.length ≤ 100 := fun x hx => h.keys x (by simp [hx])
  have d1 : ∀ j ∈ en Dj 1 a, Good j ∧ 1 ≤ j.1 ∧ j.1 ≤ (a.length : Int) ∧ j.2.2.2.2.2.1 ≤ tok := fun j hj => by
    obtain ⟨i, x, hx, h1, h2, rfl⟩ := en_mem hj
    have := hka x hx
    have hb : bB.length = 1 := rfl
    refine ⟨?_, ?_⟩
    · unfold Good Dj
      dsimp only
      omega
    · unfold Dj
      dsimp only
      omega
  have s1 : ∀ j ∈ en (Sj (a.length + b.length)) 1 s, Good j ∧ ((a.length + b.length : Nat) : Int) < j.1 ∧ j.1 ≤ ((a.length + b.length + k : Nat) : Int) ∧ j.2.2.2.2.2.1 = 0 := fun j hj => by
    obtain ⟨i, x, hx, h1, h2, rfl⟩ := en_mem hj
    have := hss x hx
    have hb : bA.length = 5 := rfl
    refine ⟨?_, ?_⟩
    · unfold Good Sj
      dsimp only
      omega
    · unfold Sj
      dsimp only
      omega
  refine ⟨?_, fun j hj => ?_, ?_, ?_, by simp [win]; omega, by simp [win]; omega⟩
  · simp only [List.length_append, en_len]
    omega
  · show Good j ∧ j.1 ≤ last ∧ j.2.2.2.2.2.1 ≤ tok
    rcases List.mem_append.1 hj with hj | hj
    · obtain ⟨g, _, g2, g3⟩ := d1 j hj
      exact ⟨g, by omega, g3⟩
    rcases List.mem_append.1 hj with hj | hj
    · obtain ⟨g, _, g2, g3⟩ := hM j hj
      exact ⟨g, by omega, g3⟩
    rcases List.mem_append.1 hj with hj | hj
    · obtain ⟨g, _, g2, g3⟩ := s1 j hj
      exact ⟨g, by omega, by omega⟩
    · obtain ⟨g, _, g2, g3⟩ := hEg j hj
      exact ⟨g, g2, g3⟩
  · rw [List.pairwise_append]
    refine ⟨en_inc (c := 0) (fun k x => by show ((k : Int)) = _; omega) a 1, ?_, fun x hx y hy => ?_⟩
    · rw [List.pairwise_append]
      refine ⟨hMi, ?_, fun x hx y hy => ?_⟩
      · rw [List.pairwise_append]
        refine ⟨en_inc (c := ((a.length + b.length : Nat) : Int)) (fun k x => by show (((a.length + b.length + k : Nat) : Int)) = _; omega) s 1, ?_, fun x hx y hy => ?_⟩
        · match E, hE with
          | [], _ => exact List.Pairwise.nil
          | [e], _ => exact List.pairwise_singleton _ _
        · have q1 := (s1 x hx).2.2.1
          have q2 := (hEg y hy).2.1
          omega
      · have q1 := (hM x hx).2.2.1
        rcases List.mem_append.1 hy with hy | hy
        · have q2 := (s1 y hy).2.1
          omega
        · have q2 := (hEg y hy).2.1
          omega
    · have q1 := (d1 x hx).2.2.1
      rcases List.mem_append.1 hy with hy | hy
      · have q2 := (hM y hy).2.1
        omega
      rcases List.mem_append.1 hy with hy | hy
      · have q2 := (s1 y hy).2.1
        omega
      · have q2 := (hEg y hy).2.1
        omega
  · have e1 : (en Dj 1 a).filter opn = [] := en_none Dj_not a 1
    have e2 : (en (Sj (a.length + b.length)) 1 s).filter opn = [] := en_none (Sj_not _) s 1
    rw [List.filter_append, List.filter_append, List.filter_append, e1, e2, List.nil_append, List.nil_append, ← List.filter_append]
    exact hkeys
theorem P_good {a b : List Str} (h : Met a b) {tok : Int} (ht : 0 ≤ tok) : ∀ j ∈ en Pj (a.length + 1) b, Good j ∧ (a.length : Int) + 1 ≤ j.1 ∧ j.1 ≤ ((a.length + b.length : Nat) : Int) ∧ j.2.2.2.2.2.1 ≤ tok := fun j hj => by
  obtain ⟨i, x, hx, h1, h2, rfl⟩ := en_mem hj
  have := h.keys x (by simp [hx])
  have hlen := h.len
  have hb : bB.length = 1 := rfl
  refine ⟨?_, ?_⟩
  · unfold Good Pj
    dsimp only
    omega
  · unfold Pj
    dsimp only
    omega
theorem P_inc (b : List Str) (k : Nat) : (en Pj k b).Pairwise fun x y => x.1 < y.1 := en_inc (c := 0) (fun k x => by show ((k : Int)) = _; omega) b k
theorem P_keys (b : List Str) (k : Nat) : ((en Pj k b).filter opn).map (fun j => j.2.1) = b := en_open Pj_open (fun _ _ => rfl) b k
theorem right_jobs {a b : List Str} (h : Met a b) : RightQ (jobsAt a b, (((a.length + b.length + a.length : Nat) : Int), (a.length : Int))) := by
  have hlen := h.len
  have := right_at h (M := en Pj (a.length + 1) b) (E := []) (last := ((a.length + b.length + a.length : Nat) : Int)) (tok := (a.length : Int)) (P_good h (by omega)) (P_inc _ _) (by rw [en_len]; omega) (k := a.length) (Nat.le_refl _) (s := a) rfl
    (fun x hx => h.keys x (by simp [hx])) (by simp) (fun _ hj => by cases hj) (by omega) (by omega) (by rw [List.append_nil, P_keys]; exact (List.nodup_append.1 h.nd).2.1)
  rw [List.append_nil] at this
  exact this
theorem hold_D (key : Str) (id : Int) (a : List Str) : (en Dj 1 a).any (hold key id) = false := by
  rw [List.any_eq_false]
  intro j hj
  obtain ⟨i, x, _, _, _, rfl⟩ := en_mem hj
  simp [hold, Dj_not]
theorem hold_S (key : Str) (id : Int) (n : Nat) (a : List Str) (k : Nat) : (en (Sj n) k a).any (hold key id) = false := by
  rw [List.any_eq_false]
  intro j hj
  obtain ⟨i, x, _, _, _, rfl⟩ := en_mem hj
  simp [hold, Sj_not]
theorem hold_P (key : Str) (b : List Str) (k : Nat) (hk : 1 ≤ k) : (en Pj k b).any (hold key 0) = b.contains key := by
  induction b generalizing k with
  | nil => rfl
  | cons x b ih =>
    unfold en
    rw [List.any_cons, ih (k + 1) (by omega), List.contains_cons]
    have e : hold key 0 (Pj k x) = (key == x) := by
      have h0 : ((k : Int) != 0) = true := by simp; omega
      unfold hold
      rw [Pj_open]
      show (true && (x == key) && ((k : Int) != 0)) = _
      rw [h0, Bool.and_true, Bool.true_and, Bool.beq_comm]
    rw [e]
theorem rdy_D (now : Int) (a : List Str) : ∀ j ∈ en Dj 1 a, rdy now j = false := fun j hj => by
  obtain ⟨i, x, _, _, _, rfl⟩ := en_mem hj
  simp [rdy, Dj_not]

/-- A turn of the second loop. -/
theorem turn {a : List Str} {x : Str} {b : List Str} (h : Met a (x :: b)) :
    queue_Lease ((jobsAt a (x :: b), (((a.length + (x :: b).length + a.length : Nat) : Int), (a.length : Int))), (7, 5)) =
      some ((en Dj 1 a ++ (((a.length + 1 : Nat) : Int), (x, (bB, (2, (1, (((a.length + 1 : Nat) : Int), (12, 0))))))) :: (en Pj (a.length + 2) b ++ en (Sj (a.length + (x :: b).length)) 1 a), (((a.length + (x :: b).length + a.length : Nat) : Int), ((a.length + 1 : Nat) : Int))),
        ((((a.length + 1 : Nat) : Int), (x, (bB, (2, (1, (((a.length + 1 : Nat) : Int), (12, 0))))))), 0)) ∧
    queue_Done ((en Dj 1 a ++ (((a.length + 1 : Nat) : Int), (x, (bB, (2, (1, (((a.length + 1 : Nat) : Int), (12, 0))))))) :: (en Pj (a.length + 2) b ++ en (Sj (a.length + (x :: b).length)) 1 a), (((a.length + (x :: b).length + a.length : Nat) : Int), ((a.length + 1 : Nat) : Int))), (((a.length + 1 : Nat) : Int), ((a.length + 1 : Nat) : Int))) =
      some ((en Dj 1 (a ++ [x]) ++ (en Pj (a.length + 2) b ++ en (Sj (a.length + (x :: b).length)) 1 a), (((a.length + (x :: b).length + a.length : Nat) : Int), ((a.length + 1 : Nat) : Int))), 0) ∧
    queue_Add ((en Dj 1 (a ++ [x]) ++ (en Pj (a.length + 2) b ++ en (Sj (a.length + (x :: b).length)) 1 a), (((a.length + (x :: b).length + a.length : Nat) : Int), ((a.length + 1 : Nat) : Int))), (x, bA)) =
      some ((en Dj 1 (a ++ [x]) ++ (en Pj (a.length + 2) b ++ (en (Sj (a.length + (x :: b).length)) 1 a ++ [(((a.length + (x :: b).length + a.length + 1 : Nat) : Int), (x, (bA, (1, (0, (0, (0, 0)))))))])), (((a.length + (x :: b).length + a.length + 1 : Nat) : Int), ((a.length + 1 : Nat) : Int))), (((a.length + (x :: b).length + a.length + 1 : Nat) : Int), 0)) ∧
    queue_Stop ((en Dj 1 (a ++ [x]) ++ (en Pj (a.length + 2) b ++ (en (Sj (a.length + (x :: b).length)) 1 a ++ [(((a.length + (x :: b).length + a.length + 1 : Nat) : Int), (x, (bA, (1, (0, (0, (0, 0)))))))])), (((a.length + (x :: b).length + a.length + 1 : Nat) : Int), ((a.length + 1 : Nat) : Int))), ((a.length + (x :: b).length + a.length + 1 : Nat) : Int)) =
      some ((jobsAt (a ++ [x]) b, ((((a ++ [x]).length + b.length + (a ++ [x]).length : Nat) : Int), ((a ++ [x]).length : Int))), 0) := by
  have hlen := h.len
  have hxk : x.length ≤ 100 := h.keys x (by simp)
  have hxl : (x :: b).length = b.length + 1 := rfl
  have hba : bA.length = 5 := rfl
  have hbb : bB.length = 1 := rfl
  have hal : (a ++ [x]).length = a.length + 1 := by simp
  have hm2 : Met (a ++ [x]) b := ⟨by rw [hal]; omega, by rw [List.append_assoc]; exact h.keys, by rw [List.append_assoc]; exact h.nd⟩
  have hnd : (x :: b).Nodup := (List.nodup_append.1 h.nd).2.1
  have hxb : x ∉ b := (List.nodup_cons.1 hnd).1
  have hcast : ((a.length + 1 : Nat) : Int) = (a.length : Int) + 1 := by omega
  have hn : (a ++ [x]).length + b.length = a.length + (x :: b).length := by rw [hal]; simp only [List.length_cons]; omega
  have hD : en Dj 1 (a ++ [x]) = en Dj 1 a ++ [Dj (a.length + 1) x] := by
    rw [en_app, Nat.add_comm 1 a.length]
    rfl
  -- the leased job's queue
  have hR1 : RightQ (en Dj 1 a ++ (((a.length + 1 : Nat) : Int), (x, (bB, (2, (1, (((a.length + 1 : Nat) : Int), (12, 0))))))) :: (en Pj (a.length + 2) b ++ en (Sj (a.length + (x :: b).length)) 1 a), (((a.length + (x :: b).length + a.length : Nat) : Int), ((a.length + 1 : Nat) : Int))) := by
    have hp := P_good hm2 (tok := ((a.length + 1 : Nat) : Int)) (by omega)
    rw [hn, hal] at hp
    have := right_at h (M := (((a.length + 1 : Nat) : Int), (x, (bB, (2, (1, (((a.length + 1 : Nat) : Int), (12, 0))))))) :: en Pj (a.length + 2) b) (E := []) (last := ((a.length + (x :: b).length + a.length : Nat) : Int)) (tok := ((a.length + 1 : Nat) : Int))
      (fun j hj => by
        rcases List.mem_cons.1 hj with rfl | hj
        · refine ⟨?_, ?_⟩
          · unfold Good
            dsimp only
            omega
          · dsimp only
            omega
        · obtain ⟨g1, g2, g3, g4⟩ := hp j hj
          exact ⟨g1, by omega, g3, g4⟩)
      (List.pairwise_cons.2 ⟨fun y hy => by
        have := (hp y hy).2.1
        show ((a.length + 1 : Nat) : Int) < y.1
        omega, P_inc _ _⟩) (by simp [en_len]) (k := a.length) (Nat.le_refl _) (s := a) rfl (fun y hy => h.keys y (by simp [hy])) (by simp) (fun _ hj => by cases hj) (by omega) (by omega) (by
        rw [List.append_nil, List.filter_cons]
        show (x :: ((en Pj (a.length + 2) b).filter opn).map fun j => j.2.1).Nodup
        rw [P_keys]
        exact hnd)
    rw [List.append_nil] at this
    exact this
  have hsa : ∀ y ∈ a, y.length ≤ 100 := fun y hy => h.keys y (by simp [hy])
  have hR2 : ∀ E : List Job, E.length ≤ 1 → (last : Int) → ((a.length + (x :: b).length + a.length : Nat) : Int) ≤ last → last ≤ 1000 → (∀ j ∈ E, Good j ∧ ((a.length + (x :: b).length + a.length : Nat) : Int) < j.1 ∧ j.1 ≤ last ∧ j.2.2.2.2.2.1 ≤ ((a.length + 1 : Nat) : Int)) →
      (((en Pj (a.length + 2) b ++ E).filter opn).map fun j => j.2.1).Nodup → RightQ (en Dj 1 (a ++ [x]) ++ (en Pj (a.length + 2) b ++ (en (Sj (a.length + (x :: b).length)) 1 a ++ E)), (last, ((a.length + 1 : Nat) : Int))) := by
    intro E hE last h1 h2 hEg hk
    have hp := P_good hm2 (tok := ((a.length + 1 : Nat) : Int)) (by omega)
    have hpa : (a ++ [x]).length + 1 = a.length + 2 := by rw [hal]
    rw [hpa] at hp
    have := right_at hm2 (M := en Pj (a.length + 2) b) (E := E) (last := last) (tok := ((a.length + 1 : Nat) : Int)) hp (P_inc _ _) (by simp [en_len]) (k := a.length) (by omega) (s := a) rfl hsa hE (by rw [hn]; exact hEg) (by omega) (by rw [hn]; omega) hk
    rw [hn] at this
    exact this
  have hPd : (((en Pj (a.length + 2) b).filter opn).map fun j => j.2.1).Nodup := by rw [P_keys]; exact (List.nodup_cons.1 hnd).2
  refine ⟨?_, ?_, ?_, ?_⟩
  · have := Lease_true (right_jobs h) (now := 7) (span := 5) (by omega) (by omega) (A := en Dj 1 a) (j := Pj (a.length + 1) x) (B := en Pj (a.length + 2) b ++ en (Sj (a.length + (x :: b).length)) 1 a) rfl (rdy_D 7 a) (by rfl) (by show (0 : Int) < 10; omega) (by show (a.length : Int) < _; omega)
    rw [this, hcast]
    rfl
  · have := Done_true hR1 (A := en Dj 1 a) (j := (((a.length + 1 : Nat) : Int), (x, (bB, (2, (1, (((a.length + 1 : Nat) : Int), (12, 0)))))))) (B := en Pj (a.length + 2) b ++ en (Sj (a.length + (x :: b).length)) 1 a) rfl (fun j hj => by
      obtain ⟨i, y, _, _, h3, rfl⟩ := en_mem hj
      show ((i : Int)) ≠ ((a.length + 1 : Nat) : Int)
      omega) rfl
    have this : queue_Done (_, (((a.length + 1 : Nat) : Int), ((a.length + 1 : Nat) : Int))) = _ := this
    rw [this, hD, List.append_assoc]
    rfl
  · have hR := hR2 [] (by simp) ((a.length + (x :: b).length + a.length : Nat) : Int) (Int.le_refl _) (by omega) (fun _ hj => by cases hj) (by rw [List.append_nil]; exact hPd)
    rw [List.append_nil] at hR
    have := Add_true hR (key := x) (body := bA) (by omega) (by omega) (by
      show (en Dj 1 (a ++ [x]) ++ (en Pj (a.length + 2) b ++ en (Sj (a.length + (x :: b).length)) 1 a)).any (hold x 0) = false
      rw [List.any_append, List.any_append, hold_D, hold_S, hold_P _ _ _ (by omega)]
      have : b.contains x = false := by
        rw [← Bool.not_eq_true, List.contains_iff_mem]
        exact hxb
      rw [this]
      rfl) (by simp only [List.length_append, en_len, hal]; omega) (by show ((a.length + (x :: b).length + a.length : Nat) : Int) < _; omega)
    rw [this]
    have e : ((a.length + (x :: b).length + a.length + 1 : Nat) : Int) = ((a.length + (x :: b).length + a.length : Nat) : Int) + 1 := by omega
    rw [e]
    simp
  · have hR := hR2 [(((a.length + (x :: b).length + a.length + 1 : Nat) : Int), (x, (bA, (1, (0, (0, (0, 0)))))))] (by simp) ((a.length + (x :: b).length + a.length + 1 : Nat) : Int) (by omega) (by omega) (fun j hj => by
        rw [List.mem_singleton.1 hj]
        refine ⟨?_, ?_⟩
        · unfold Good
          dsimp only
          omega
        · dsimp only
          omega) (by
        rw [List.filter_append, List.map_append, P_keys]
        show (b ++ [x]).Nodup
        rw [List.nodup_append]
        refine ⟨(List.nodup_cons.1 hnd).2, by simp, fun y hy z hz => ?_⟩
        rw [List.mem_singleton.1 hz]
        exact fun q => hxb (q ▸ hy))
    have := Stop_true hR (A := en Dj 1 (a ++ [x]) ++ (en Pj (a.length + 2) b ++ en (Sj (a.length + (x :: b).length)) 1 a)) (j := (((a.length + (x :: b).length + a.length + 1 : Nat) : Int), (x, (bA, (1, (0, (0, (0, 0)))))))) (B := []) (by simp) (fun j hj => by
      show j.1 ≠ ((a.length + (x :: b).length + a.length + 1 : Nat) : Int)
      rcases List.mem_append.1 hj with hj | hj
      · obtain ⟨i, y, _, _, h3, rfl⟩ := en_mem hj
        rw [hal] at h3
        show ((i : Int)) ≠ _
        omega
      rcases List.mem_append.1 hj with hj | hj
      · obtain ⟨i, y, _, _, h3, rfl⟩ := en_mem hj
        show ((i : Int)) ≠ _
        omega
      · obtain ⟨i, y, _, _, h3, rfl⟩ := en_mem hj
        show (((a.length + (x :: b).length + i : Nat) : Int)) ≠ _
        omega) rfl
    have this : queue_Stop (_, ((a.length + (x :: b).length + a.length + 1 : Nat) : Int)) = _ := this
    rw [this]
    have e1 : jobsAt (a ++ [x]) b = en Dj 1 (a ++ [x]) ++ (en Pj (a.length + 2) b ++ en (Sj (a.length + (x :: b).length)) 1 a) ++ [stateJ (((a.length + (x :: b).length + a.length + 1 : Nat) : Int), (x, (bA, (1, (0, (0, (0, 0))))))) 4] := by
      unfold jobsAt
      rw [hn, hal, en_app (Sj (a.length + (x :: b).length))]
      simp only [List.append_assoc]
      have : en (Sj (a.length + (x :: b).length)) (1 + a.length) [x] = [stateJ (((a.length + (x :: b).length + a.length + 1 : Nat) : Int), (x, (bA, (1, (0, (0, (0, 0))))))) 4] := by
        show [((((a.length + (x :: b).length) + (1 + a.length) : Nat) : Int), (x, (bA, ((4 : Int), ((0 : Int), ((0 : Int), ((0 : Int), (0 : Int))))))))] = _
        have e : (a.length + (x :: b).length) + (1 + a.length) = a.length + (x :: b).length + a.length + 1 := by omega
        rw [e]
        rfl
      rw [this]
    have e2 : (a ++ [x]).length + b.length + (a ++ [x]).length = a.length + (x :: b).length + a.length + 1 := by rw [hn, hal]; omega
    rw [e1, e2, hal]
end Go.Plain

/-
  The plain law 'QueueTurns': its loops, and the law.
-/
namespace Go.Plain
open Go.AM

theorem mgetQ (x y : Str) : ∀ c : List (Str × Bool), mget .str .bool x (mset .str .bool y true c) = (decide (x = y) || mget .str .bool x c)
  | [] => by
    show (match ((x : Str) == y) with | true => true | false => (false : Bool)) = _
    by_cases e : x = y
    · simp [e]
    · have e2 : ((x : Str) == y) = false := beq_eq_false_iff_ne.2 e
      rw [e2, decide_eq_false e]
      rfl
  | (a, b) :: r => by
    have ih := mgetQ x y r
    show mget .str .bool x (match ((y : Str) == a) with | true => (a, true) :: r | false => (a, b) :: mset .str .bool y true r) = (decide (x = y) || (match ((x : Str) == a) with | true => b | false => mget .str .bool x r))
    by_cases e : y = a
    · have e1 : ((y : Str) == a) = true := beq_iff_eq.2 e
      rw [e1]
      show (match ((x : Str) == a) with | true => true | false => mget .str .bool x r) = _
      by_cases g : x = a
      · have g1 : ((x : Str) == a) = true := beq_iff_eq.2 g
        rw [g1, e, decide_eq_true g]
        rfl
      · have g1 : ((x : Str) == a) = false := beq_eq_false_iff_ne.2 g
        rw [g1, e, decide_eq_false g]
        rfl
    · have e1 : ((y : Str) == a) = false := beq_eq_false_iff_ne.2 e
      rw [e1]
      show (match ((x : Str) == a) with | true => b | false => mget .str .bool x (mset .str .bool y true r)) = _
      by_cases g : x = a
      · have g1 : ((x : Str) == a) = true := beq_iff_eq.2 g
        have g2 : ¬ x = y := fun h => e (h ▸ g)
        rw [g1, decide_eq_false g2]
        rfl
      · have g1 : ((x : Str) == a) = false := beq_eq_false_iff_ne.2 g
        rw [g1]
        exact ih

def idl (n : Nat) : List Int := (List.range n).map fun i => ((i + 1 : Nat) : Int)
theorem idl_len (n : Nat) : (idl n).length = n := by simp [idl]
theorem idl_succ (n : Nat) : idl (n + 1) = idl n ++ [((n + 1 : Nat) : Int)] := by simp [idl, List.range_succ]
theorem idl_at {n i : Nat} (h : i < n) : elt (.int .i64) (idl n) i = ((i + 1 : Nat) : Int) := by
  unfold elt idl
  simp [List.getD_eq_getElem?_getD, h]
def begun (ks : List Str) : Que := (en Pj 1 ks, ((ks.length : Int), 0))
theorem begun_right {ks : List Str} (h : Met [] ks) : RightQ (begun ks) := by
  have := right_jobs h
  have e : jobsAt [] ks = en Pj 1 ks := by simp [jobsAt, en]
  rw [e] at this
  simp only [List.length_nil, Nat.zero_add, Nat.add_zero] at this
  exact this
theorem l6_at (keys : List Str) (hk : keys.length ≤ 9223372036854775807) (hs : ∀ x ∈ keys, x.length ≤ 9223372036854775807) : ∀ (b a ks : List Str) (seen : List (Str × Bool)), keys = a ++ b → Met [] ks → ks.length ≤ a.length → (∀ x, mget .str .bool x seen = decide (x ∈ ks)) →
    ∃ ks', law15_QueueTurns_l6 (((a.length : Int), (keys, (keys.length : Int))), (begun ks, (idl ks.length, seen))) = some (.inl (begun ks', idl ks'.length)) ∧ Met [] ks' := by
  intro b
  induction b with
  | nil =>
    intro a ks seen e hm hle hg
    rw [List.append_nil] at e
    rw [law15_QueueTurns_l6_eq]
    unfold law15_QueueTurns_l6F
    dsimp only
    rw [if_neg (by rw [e]; simp)]
    exact ⟨ks, rfl, hm⟩
  | cons x b ih =>
    intro a ks seen e hm hle hg
    have hl2 : keys.length = a.length + (b.length + 1) := by rw [e]; simp
    have hw : IntKind.wrap .i64 ((a.length : Int) + 1) = (a.length : Int) + 1 := wr64 (by omega)
    have he : elt .str keys a.length = x := by rw [e]; exact eltQ_mid .str a x b
    have hx : x.length ≤ 9223372036854775807 := hs x (by rw [e]; simp)
    have hmin : min (x.length : Int) (100 : Int) = ((min x.length 100 : Nat) : Int) := by omega
    rw [law15_QueueTurns_l6_eq]
    unfold law15_QueueTurns_l6F
    dsimp only
    rw [Int.toNat_natCast, he, hmin, Int.toNat_natCast, if_pos (by rw [decide_eq_true_eq]; omega), if_pos (by omega), if_pos (by omega)]
    by_cases c20 : a.length ≥ 20
    · rw [if_pos (by rw [decide_eq_true_eq]; omega)]
      exact ⟨ks, rfl, hm⟩
    · rw [if_neg (by rw [decide_eq_true_eq]; omega), if_pos (by omega), if_pos (by omega), hw]
      obtain ⟨k, hke⟩ : ∃ k, k = x.take (min x.length 100) := ⟨_, rfl⟩
      have hkl : k.length ≤ 100 := by rw [hke, List.length_take]; omega
      rw [← hke]
      have hbl : bB.length = 1 := rfl
      have hr := begun_right hm
      have hlen := hm.len
      have hh : (begun ks).1.any (hold k 0) = ks.contains k := hold_P k ks 1 (Nat.le_refl _)
      by_cases hin : k ∈ ks
      · have hc : ks.contains k = true := List.contains_iff_mem.2 hin
        have ha := Add_twice hr (key := k) (body := bB) (by omega) (by omega) (by rw [hh, hc])
        have ha : queue_Add (begun ks, (k, ([98] : Str))) = _ := ha
        obtain ⟨ks', q1, q2⟩ := ih (a ++ [x]) ks (mset .str .bool k true seen) (by rw [e]; simp) hm (by simp; omega) (fun y => by
          rw [mgetQ, hg]
          by_cases h : y = k
          · simp [h, hin]
          · simp [h])
        rw [snocQ_len] at q1
        rw [ha, sb, hg, decide_eq_true hin, if_neg (by simp), if_neg (by decide), if_neg (by simp)]
        exact ⟨ks', q1, q2⟩
      · have hc : ks.contains k = false := by
          rw [← Bool.not_eq_true, List.contains_iff_mem]
          exact hin
        have hll : (begun ks).1.length = ks.length := en_len _ _ _
        have hln : ks.length ≤ 20 := by simpa using hlen
        have ha := Add_true hr (key := k) (body := bB) (by omega) (by omega) (by rw [hh, hc]) (by omega) (by show (ks.length : Int) < _; omega)
        have ha : queue_Add (begun ks, (k, ([98] : Str))) = _ := ha
        have e2 : en Pj 1 ks ++ [((ks.length : Int) + 1, (k, (bB, ((1 : Int), ((0 : Int), ((0 : Int), ((0 : Int), (0 : Int))))))))] = en Pj 1 (ks ++ [k]) := by
          rw [en_app]
          have : en Pj (1 + ks.length) [k] = [((ks.length : Int) + 1, (k, (bB, ((1 : Int), ((0 : Int), ((0 : Int), ((0 : Int), (0 : Int))))))))] := by
            show [(((1 + ks.length : Nat) : Int), _)] = _
            have : ((1 + ks.length : Nat) : Int) = (ks.length : Int) + 1 := by omega
            rw [this]
          rw [this]
        have e3 : (((begun ks).1 ++ [((begun ks).2.1 + 1, (k, (bB, ((1 : Int), ((0 : Int), ((0 : Int), ((0 : Int), (0 : Int))))))))], ((begun ks).2.1 + 1, (begun ks).2.2)) : Que) = begun (ks ++ [k]) := by
          show ((en Pj 1 ks ++ [((ks.length : Int) + 1, (k, (bB, ((1 : Int), ((0 : Int), ((0 : Int), ((0 : Int), (0 : Int))))))))], ((ks.length : Int) + 1, (0 : Int))) : Que) = _
          rw [e2]
          unfold begun
          rw [snocQ_len]
        rw [e3] at ha
        have hm2 : Met [] (ks ++ [k]) := ⟨by simp; omega, fun y hy => by
          rw [List.nil_append] at hy
          rcases List.mem_append.1 hy with hy | hy
          · exact hm.keys y (by simp [hy])
          · rw [List.mem_singleton.1 hy]; exact hkl, by
          rw [List.nil_append, List.nodup_append]
          refine ⟨by have := hm.nd; simpa using this, by simp, fun y hy z hz => ?_⟩
          rw [List.mem_singleton.1 hz]
          exact fun q => hin (q ▸ hy)⟩
        obtain ⟨ks', q1, q2⟩ := ih (a ++ [x]) (ks ++ [k]) (mset .str .bool k true seen) (by rw [e]; simp) hm2 (by simp; omega) (fun y => by
          rw [mgetQ, hg]
          by_cases h : y = k
          · simp [h]
          · simp [h])
        have e4 : (ks ++ [k]).length = ks.length + 1 := by simp
        rw [snocQ_len, e4, idl_succ] at q1
        have e5 : (begun ks).2.1 + 1 = ((ks.length + 1 : Nat) : Int) := by
          show (ks.length : Int) + 1 = _
          omega
        rw [ha, sb, hg, decide_eq_false hin, if_neg (by simp), if_pos (by rfl), if_neg (by simp), if_pos (by rfl), if_pos (by constructor <;> (simp [idl_len]; omega))]
        dsimp only
        rw [e5]
        exact ⟨ks', q1, q2⟩
theorem l22_at : ∀ (b a : List Str), Met a b →
    law15_QueueTurns_l22 (((a.length : Int), (((a ++ b).length : Nat) : Int)), ((jobsAt a b, (((a.length + b.length + a.length : Nat) : Int), (a.length : Int))), idl (a ++ b).length)) =
      some (.inr (idl (a ++ b).length, (jobsAt (a ++ b) [], ((((a ++ b).length + (a ++ b).length : Nat) : Int), ((a ++ b).length : Int))))) := by
  intro b
  induction b with
  | nil =>
    intro a h
    rw [law15_QueueTurns_l22_eq]
    unfold law15_QueueTurns_l22F
    dsimp only
    rw [if_neg (by simp)]
    simp
  | cons x b ih =>
    intro a h
    have hlen := h.len
    have hl2 : (a ++ x :: b).length = a.length + (b.length + 1) := by simp
    have hxl : (x :: b).length = b.length + 1 := rfl
    have hal : (a ++ [x]).length = a.length + 1 := by simp
    have hw : IntKind.wrap .i64 ((a.length : Int) + 1) = ((a.length + 1 : Nat) : Int) := by rw [wr64 (by omega)]; omega
    obtain ⟨t1, t2, t3, t4⟩ := turn h
    have ih := ih (a ++ [x]) ⟨by rw [hal]; omega, by rw [List.append_assoc]; exact h.keys, by rw [List.append_assoc]; exact h.nd⟩
    rw [← midQ_snoc, hal] at ih
    rw [law15_QueueTurns_l22_eq]
    unfold law15_QueueTurns_l22F
    dsimp only
    rw [if_pos (by rw [decide_eq_true_eq]; omega), if_pos (by omega), if_pos (by rw [idl_len]; omega), if_pos (by rw [idl_len]; omega), t1, sb, if_neg (by simp), Int.toNat_natCast, idl_at (by omega), if_neg (by simp), hw, if_neg (by simp)]
    dsimp only
    rw [t2, sb]
    dsimp only
    have t3 : queue_Add (_, (x, ([97, 103, 97, 105, 110] : Str))) = _ := t3
    rw [t3, sb, if_neg (by simp), if_neg (by simp), if_neg (by rw [decide_eq_true_eq]; simp only []; omega)]
    dsimp only
    rw [t4, sb, if_neg (by simp)]
    dsimp only
    rw [hal]
    exact ih

/-! counting -/
def cnt (s : Int) (l : List Job) : Nat := (l.filter fun j => j.2.2.2.1 == s).length
theorem cnt_cons (s : Int) (j : Job) (l : List Job) : cnt s (j :: l) = cnt s l + (if j.2.2.2.1 = s then 1 else 0) := by
  unfold cnt
  rw [List.filter_cons]
  by_cases h : j.2.2.2.1 = s
  · rw [if_pos (beq_iff_eq.2 h), if_pos h, List.length_cons]
  · rw [if_neg (by simpa using h), if_neg h, Nat.add_zero]
theorem cnt_app (s : Int) (l m : List Job) : cnt s (l ++ m) = cnt s l + cnt s m := by simp [cnt]
theorem cnt_en {f : Nat → Str → Job} {t : Int} (hf : ∀ k x, (f k x).2.2.2.1 = t) (s : Int) : ∀ (l : List Str) (k : Nat), cnt s (en f k l) = if t = s then l.length else 0
  | [], _ => by split <;> rfl
  | x :: r, k => by
    unfold en
    rw [cnt_cons, cnt_en hf s r (k + 1), hf]
    split <;> simp
theorem Count_l4_at (c1 : Int × (Int × (Int × (Int × (Int × Int))))) : ∀ (b a : List Job) (c : Int × (Int × (Int × (Int × (Int × Int))))), (a ++ b).length ≤ 1000 → (∀ j ∈ b, j.2.2.2.1 = 3 ∨ j.2.2.2.1 = 4) → (0 ≤ c.2.2.2.1 ∧ c.2.2.2.1 ≤ a.length) → (0 ≤ c.2.2.2.2.1 ∧ c.2.2.2.2.1 ≤ a.length) →
    queue_Count_l4 (((a.length : Int), (a ++ b, ((a ++ b).length : Int))), (c, c1)) = some (c1, (c.1, (c.2.1, (c.2.2.1, (c.2.2.2.1 + (cnt 3 b : Int), (c.2.2.2.2.1 + (cnt 4 b : Int), c.2.2.2.2.2)))))) := by
  intro b
  induction b with
  | nil =>
    intro a c hl _ _ _
    rw [queue_Count_l4_eq]
    unfold queue_Count_l4F
    dsimp only
    rw [if_neg (by simp)]
    simp [cnt]
  | cons x b ih =>
    intro a c hl hs h3 h4
    have hl2 : (a ++ x :: b).length = a.length + (b.length + 1) := by simp
    have hw : IntKind.wrap .i64 ((a.length : Int) + 1) = (a.length : Int) + 1 := wr64 (by omega)
    have hal : (a ++ [x]).length = a.length + 1 := by simp
    have w3 : IntKind.wrap .i64 (c.2.2.2.1 + 1) = c.2.2.2.1 + 1 := wr64 (by omega)
    have w4 : IntKind.wrap .i64 (c.2.2.2.2.1 + 1) = c.2.2.2.2.1 + 1 := wr64 (by omega)
    rw [queue_Count_l4_eq]
    unfold queue_Count_l4F
    dsimp only
    rw [Int.toNat_natCast, eltQ_mid tJ, if_pos (by rw [decide_eq_true_eq]; omega), if_pos (by omega), if_pos (by omega), hw, w3, w4, cnt_cons, cnt_cons]
    rcases hs x (by simp) with e | e
    · have ih := ih (a ++ [x]) (c.1, (c.2.1, (c.2.2.1, (c.2.2.2.1 + 1, (c.2.2.2.2.1, c.2.2.2.2.2))))) (by simp at hl ⊢; omega) (fun j hj => hs j (by simp [hj])) (by rw [hal]; dsimp only; omega) (by rw [hal]; dsimp only; omega)
      rw [snocQ_len, ← midQ_snoc] at ih
      rw [e, if_pos (by rfl), if_pos (by rfl), if_neg (by decide), if_neg (by decide), if_pos (by rfl), if_pos rfl, if_neg (by decide), ih]
      have e2 : c.2.2.2.1 + 1 + (cnt 3 b : Int) = c.2.2.2.1 + ((cnt 3 b + 1 : Nat) : Int) := by omega
      rw [e2]
      rfl
    · have ih := ih (a ++ [x]) (c.1, (c.2.1, (c.2.2.1, (c.2.2.2.1, (c.2.2.2.2.1 + 1, c.2.2.2.2.2))))) (by simp at hl ⊢; omega) (fun j hj => hs j (by simp [hj])) (by rw [hal]; dsimp only; omega) (by rw [hal]; dsimp only; omega)
      rw [snocQ_len, ← midQ_snoc] at ih
      rw [e, if_pos (by rfl), if_pos (by rfl), if_neg (by decide), if_pos (by rfl), if_neg (by decide), if_pos rfl, ih]
      have e2 : c.2.2.2.2.1 + 1 + (cnt 4 b : Int) = c.2.2.2.2.1 + ((cnt 4 b + 1 : Nat) : Int) := by omega
      rw [e2]
      rfl
theorem alive15_is : law15_alive () = some true := by
  have h0 : RightQ (([], (0, 0)) : Que) := ⟨by simp, (fun _ h => by cases h), List.Pairwise.nil, by simp, rfl, rfl⟩
  have m1 : Met [] [([107] : Str)] := ⟨by simp, fun x hx => by
    rw [List.nil_append] at hx
    rw [List.mem_singleton.1 hx]
    simp, by simp⟩
  have a1 := Add_true h0 (key := [107]) (body := bB) (by simp) (by simp [bB]) rfl (by simp) (by simp)
  have a1 : queue_Add (([], ((0 : Int), (0 : Int))), (([107] : Str), ([98] : Str))) = some (begun [[107]], (1, 0)) := a1
  have a2 := Lease_true (begun_right m1) (now := 0) (span := 5) (by omega) (by omega) (A := []) (j := Pj 1 [107]) (B := []) rfl (fun _ h => by cases h) rfl (by show (0 : Int) < 10; omega) (by show (0 : Int) < _; omega)
  have a2 : queue_Lease (begun [[107]], ((0 : Int), (5 : Int))) = some (([((1 : Int), (([107] : Str), (bB, ((2 : Int), ((1 : Int), ((1 : Int), ((5 : Int), (0 : Int))))))))], ((1 : Int), (1 : Int))), (((1 : Int), (([107] : Str), (bB, ((2 : Int), ((1 : Int), ((1 : Int), ((5 : Int), (0 : Int)))))))), (0 : Int))) := a2
  have hR : RightQ (([((1 : Int), (([107] : Str), (bB, ((2 : Int), ((1 : Int), ((1 : Int), ((5 : Int), (0 : Int))))))))], ((1 : Int), (1 : Int))) : Que) := ⟨by simp, fun j hj => by
    rw [List.mem_singleton.1 hj]
    have hb : bB.length = 1 := rfl
    have hk : ([107] : Str).length = 1 := rfl
    refine ⟨?_, by dsimp only; omega, by dsimp only; omega⟩
    unfold Good
    dsimp only
    omega, List.pairwise_singleton _ _, by
    show ([[107]] : List Str).Nodup
    simp, rfl, rfl⟩
  have a3 := Done_true hR (A := []) (j := ((1 : Int), (([107] : Str), (bB, ((2 : Int), ((1 : Int), ((1 : Int), ((5 : Int), (0 : Int))))))))) (B := []) rfl (fun _ h => by cases h) rfl
  unfold law15_alive
  rw [a1, sb]
  dsimp only
  rw [a2, sb]
  dsimp only
  have a3 : queue_Done (([((1 : Int), (([107] : Str), (bB, ((2 : Int), ((1 : Int), ((1 : Int), ((5 : Int), (0 : Int))))))))], ((1 : Int), (1 : Int))), ((1 : Int), (1 : Int))) = _ := a3
  rw [a3, sb, if_pos (by rfl), if_pos (by rfl), if_pos (by rfl), if_pos (by rfl), if_pos (by rfl), if_pos (by rfl), if_pos (by simp)]
  have he : elt tJ ([stateJ ((1 : Int), (([107] : Str), (bB, ((2 : Int), ((1 : Int), ((1 : Int), ((5 : Int), (0 : Int)))))))) 3] : List Job) 0 = stateJ ((1 : Int), (([107] : Str), (bB, ((2 : Int), ((1 : Int), ((1 : Int), ((5 : Int), (0 : Int)))))))) 3 := eltQ_mid tJ [] _ []
  show some ((elt tJ ([stateJ ((1 : Int), (([107] : Str), (bB, ((2 : Int), ((1 : Int), ((1 : Int), ((5 : Int), (0 : Int)))))))) 3] : List Job) 0).2.2.2.1 == (3 : Int)) = _
  rw [he]
  rfl
theorem QueueTurns_holds {keys : List Str} (hk : keys.length ≤ 9223372036854775807) (hs : ∀ x ∈ keys, x.length ≤ 9223372036854775807) : law15_QueueTurns keys = some true := by
  have m0 : Met [] [] := ⟨by simp, (fun x hx => by cases hx), by simp⟩
  obtain ⟨ks, h1, hm⟩ := l6_at keys hk hs keys [] [] [] rfl m0 (Nat.le_refl _) (fun x => by simp [mget, Ty.zero])
  have h1 : law15_QueueTurns_l6 (((0 : Int), (keys, (keys.length : Int))), (([], ((0 : Int), (0 : Int))), ([], []))) = _ := h1
  have h2 := l22_at ks [] hm
  have e0 : jobsAt [] ks = en Pj 1 ks := by simp [jobsAt, en]
  rw [e0] at h2
  simp only [List.length_nil, Nat.zero_add, Nat.add_zero, List.nil_append] at h2
  have h2 : law15_QueueTurns_l22 (((0 : Int), (ks.length : Int)), (begun ks, idl ks.length)) = _ := h2
  have hlen := hm.len
  have hln : ks.length ≤ 20 := by simpa using hlen
  have hm' : Met ks [] := ⟨by simpa using hln, by have := hm.keys; simpa using this, by have := hm.nd; simpa using this⟩
  have hr := right_jobs hm'
  simp only [List.length_nil, Nat.add_zero] at hr
  have hj : jobsAt ks [] = en Dj 1 ks ++ en (Sj ks.length) 1 ks := by simp [jobsAt, en]
  have hno : (jobsAt ks []).any (rdy 7) = false := by
    rw [hj, List.any_append, Bool.or_eq_false_iff]
    constructor
    · rw [List.any_eq_false]
      intro j hj
      rw [rdy_D 7 ks j hj]
      decide
    · rw [List.any_eq_false]
      intro j hj
      obtain ⟨i, x, _, _, _, rfl⟩ := en_mem hj
      simp [rdy, Sj_not]
  obtain ⟨l, h3, h4⟩ := Lease_none hr (now := 7) (span := 5) (by omega) (by omega) hno
  have hc := Count_l4_at ((0 : Int), ((0 : Int), ((0 : Int), ((0 : Int), ((0 : Int), (0 : Int)))))) (jobsAt ks []) [] ((0 : Int), ((0 : Int), ((0 : Int), ((0 : Int), ((0 : Int), (0 : Int)))))) (by rw [hj]; simp [en_len]; omega) (fun j hjm => by
    rw [hj] at hjm
    rcases List.mem_append.1 hjm with h | h
    · obtain ⟨i, x, _, _, _, rfl⟩ := en_mem h
      exact .inl rfl
    · obtain ⟨i, x, _, _, _, rfl⟩ := en_mem h
      exact .inr rfl) (by simp) (by simp)
  have hc : queue_Count_l4 (((0 : Int), (jobsAt ks [], ((jobsAt ks []).length : Int))), _) = _ := hc
  have c3 : cnt 3 (jobsAt ks []) = ks.length := by
    rw [hj, cnt_app, cnt_en (t := 3) (fun _ _ => rfl), cnt_en (t := 4) (fun _ _ => rfl)]
    simp
  have c4 : cnt 4 (jobsAt ks []) = ks.length := by
    rw [hj, cnt_app, cnt_en (t := 3) (fun _ _ => rfl), cnt_en (t := 4) (fun _ _ => rfl)]
    simp
  unfold law15_QueueTurns
  rw [h1, sb]
  dsimp only [Sum.elim_inl]
  rw [idl_len, h2, sb]
  dsimp only [Sum.elim_inr]
  rw [h3, sb, alive15_is, sb, if_pos rfl, if_pos (by rw [h4]; rfl)]
  unfold queue_Count
  dsimp only
  rw [hc, sb, sb, c3, c4, idl_len]
  simp [sb]
end Go.Plain
