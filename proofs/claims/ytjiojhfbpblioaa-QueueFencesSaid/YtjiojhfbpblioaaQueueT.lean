import Derived.Test.YtjiojhfbpblioaaQueueS
namespace Go.Proofs.Try
open Go.AM

def fen (kind id token : Int) (j k : Job) : Prop := k.1 = j.1 ∧ (¬ (kind = 7 ∧ k.1 = id) → j.2.2.2.2.2.1 ≤ k.2.2.2.2.2.1 ∧ j.2.2.2.2.2.2.2 ≤ k.2.2.2.2.2.2.2 ∧ j.2.2.2.2.1 ≤ k.2.2.2.2.1 ∧ k.2.1 = j.2.1 ∧ (opn j = true ∨ k = j) ∧ (2 ≤ kind → kind ≤ 5 → k = j ∨ (j.2.2.2.2.2.1 = token ∧ j.2.2.2.1 = 2)))
theorem fen_refl {kind id token : Int} {j : Job} : fen kind id token j j := ⟨rfl, fun _ => ⟨Int.le_refl _, Int.le_refl _, Int.le_refl _, rfl, .inr rfl, fun _ _ => .inl rfl⟩⟩
def fenR (kind id token : Int) (Q X : Queue) : Prop := goodQ X = true ∧ Q.1.length ≤ X.1.length ∧ X.1.length ≤ Q.1.length + 1 ∧ ∀ n, n < Q.1.length → fen kind id token (elt tJob Q.1 n) (elt tJob X.1 n)
theorem fenR_set {kind id token : Int} {Q : Queue} {i : Nat} {k : Job} (hg : goodQ (Q.1.set i k, Q.2.1, Q.2.2) = true) (_hi : i < Q.1.length) (hk : fen kind id token (elt tJob Q.1 i) k) : fenR kind id token Q (Q.1.set i k, Q.2.1, Q.2.2) := by
  refine ⟨hg, by simp, by simp, fun n hn => ?_⟩
  rw [show elt tJob ((Q.1.set i k, Q.2.1, Q.2.2) : Queue).1 n = elt tJob (Q.1.set i k) n from rfl, eltJ (l := Q.1.set i k) (by simpa using hn), List.getElem_set]
  split
  · rename_i h; subst h; exact hk
  · rw [← eltJ hn]; exact fen_refl
def fenL (kind id token : Int) : List Job → List Job → Prop
  | [], [] => True
  | j :: r, k :: s => fen kind id token j k ∧ fenL kind id token r s
  | _, _ => False
theorem fenL_refl {kind id token : Int} : ∀ {l : List Job}, fenL kind id token l l
  | [] => trivial
  | _ :: _ => ⟨fen_refl, fenL_refl⟩
theorem fenL_at {kind id token : Int} : ∀ {l m : List Job}, fenL kind id token l m → ∀ n (hn : n < l.length) (hm : n < m.length), fen kind id token l[n] m[n]
  | j :: r, k :: s, h, 0, _, _ => h.1
  | j :: r, k :: s, h, n + 1, hn, hm => fenL_at h.2 n (by simpa using hn) (by simpa using hm)
theorem fenL_lease {id token tok now span : Int} : ∀ (l : List Job), (∀ j ∈ l, j.2.2.2.2.2.1 ≤ tok) → fenL 1 id token l (leaseL tok now span l).1
  | [], _ => trivial
  | j :: r, h => by
    have hj := h j List.mem_cons_self
    simp only [leaseL]
    split
    · rename_i hc
      have ho := hc.1
      simp only [rdy, Bool.and_eq_true] at ho
      exact ⟨⟨rfl, fun _ => ⟨by show _ ≤ tok + 1; omega, Int.le_refl _, by show _ ≤ j.2.2.2.2.1 + 1; omega, rfl, .inl ho.1, fun h1 _ => absurd h1 (by decide)⟩⟩, fenL_refl⟩
    · refine ⟨?_, fenL_lease r fun k hk => h k (List.mem_cons_of_mem _ hk)⟩
      unfold deadJ
      split
      · rename_i hc
        have ho := hc.1
        simp only [rdy, Bool.and_eq_true] at ho
        exact ⟨rfl, fun _ => ⟨Int.le_refl _, Int.le_refl _, Int.le_refl _, rfl, .inl ho.1, fun h1 _ => absurd h1 (by decide)⟩⟩
      · exact fen_refl
def opN (Q : Queue) (kind id token now by' : Int) (key : Str) (ever : Bool) : Queue × Int :=
  if kind = 0 then ((addN Q key [98]).1, (addN Q key [98]).2.2) else if kind = 1 then ((leaseN Q now 5).1, (leaseN Q now 5).2.2) else if kind = 2 then renewN Q id token now 5 else if kind = 3 then markN Q id token by' else if kind = 4 then doneN Q id token
  else if kind = 5 then failN Q id token now ever else if kind = 6 then stopN Q id else againN Q id
theorem op2 {j : Job} (h : j.2.2.2.1 = 2) : opn j = true := by simp [opn, h]
theorem op_fen {Q : Queue} {kind id token now by' : Int} {key : Str} {ever : Bool} (hk : 0 ≤ kind ∧ kind ≤ 7) (hl : Q.1.length < 64) (h : (opN Q kind id token now by' key ever).2 = 0) : fenR kind id token Q (opN Q kind id token now by' key ever).1 := by
  unfold opN at h ⊢
  have hc : kind = 0 ∨ kind = 1 ∨ kind = 2 ∨ kind = 3 ∨ kind = 4 ∨ kind = 5 ∨ kind = 6 ∨ kind = 7 := by omega
  rcases hc with rfl | rfl | rfl | rfl | rfl | rfl | rfl | rfl
  · obtain ⟨g, e, _, g2⟩ := add_ok hl h
    show fenR 0 id token Q (addN Q key [98]).1
    refine ⟨g2, by rw [e]; simp, by rw [e]; simp, fun n hn => ?_⟩
    rw [e, show elt tJob ((Q.1 ++ [newJ (Q.2.1 + 1) key [98]], Q.2.1 + 1, Q.2.2) : Queue).1 n = elt tJob Q.1 n by rw [eltJ hn, eltJ (l := Q.1 ++ [newJ (Q.2.1 + 1) key [98]]) (by simp; omega), List.getElem_append_left hn]]
    exact fen_refl
  · have h : (leaseN Q now 5).2.2 = 0 := h
    show fenR 1 id token Q (leaseN Q now 5).1
    obtain ⟨g, ll⟩ := lease_good h
    obtain ⟨g0, _, _, _, _, e⟩ := lease_ok h
    have hR : (leaseN Q now 5).1.1 = (leaseL Q.2.2 now 5 Q.1).1 := by rw [e]; cases (leaseL Q.2.2 now 5 Q.1).2 <;> rfl
    refine ⟨g, by omega, by omega, fun n hn => ?_⟩
    have := fenL_at (fenL_lease (id := id) (token := token) (tok := Q.2.2) (now := now) (span := 5) Q.1 fun j hj => (goodQ_mem g0 hj).2.1) n hn (by rw [← hR]; omega)
    rw [eltJ hn, eltJ (by omega)]
    simpa [hR] using this
  · have h : (renewN Q id token now 5).2 = 0 := h
    show fenR 2 id token Q (renewN Q id token now 5).1
    obtain ⟨g, _, _, i, _, hi, h1, h2, h3, e, g2⟩ := renew_ok h
    rw [e] at g2 ⊢
    exact fenR_set g2 hi ⟨rfl, fun _ => ⟨Int.le_refl _, Int.le_refl _, Int.le_refl _, rfl, .inl (op2 h2), fun _ _ => .inr ⟨h3, h2⟩⟩⟩
  · have h : (markN Q id token by').2 = 0 := h
    show fenR 3 id token Q (markN Q id token by').1
    obtain ⟨g, i, _, hi, h1, h2, h3, h4, _, e, g2⟩ := mark_ok h
    rw [e] at g2 ⊢
    exact fenR_set g2 hi ⟨rfl, fun _ => ⟨Int.le_refl _, h4, Int.le_refl _, rfl, .inl (op2 h2), fun _ _ => .inr ⟨h3, h2⟩⟩⟩
  · have h : (doneN Q id token).2 = 0 := h
    show fenR 4 id token Q (doneN Q id token).1
    obtain ⟨g, _, i, _, hi, h1, h2, e⟩ := change_ok (F := lF token (fun _ => 0)) (G := lG token (stG 3)) h
    obtain ⟨k1, k2, _⟩ := lF_0 h2
    have e' : doneN Q id token = ((Q.1.set i (stG 3 (elt tJob Q.1 i)), Q.2.1, Q.2.2), 0) := by unfold doneN; rw [e, lG_of k1 k2]
    obtain ⟨m1, m2, _⟩ := goodQ_elt g hi
    have g2 := goodQ_set (k := stG 3 (elt tJob Q.1 i)) g hi ⟨rfl, rfl, may_stG m1 (by decide) (by decide), m2, fun _ => op2 k1⟩
    rw [e']
    exact fenR_set g2 hi ⟨rfl, fun _ => ⟨Int.le_refl _, Int.le_refl _, Int.le_refl _, rfl, .inl (op2 k1), fun _ _ => .inr ⟨k2, k1⟩⟩⟩
  · have h : (failN Q id token now ever).2 = 0 := h
    show fenR 5 id token Q (failN Q id token now ever).1
    obtain ⟨g, ht, i, _, hi, h1, h2, e⟩ := change_ok (F := lF token (fun _ => 0)) (G := lG token (failG ever now)) h
    obtain ⟨k1, k2, _⟩ := lF_0 h2
    have e' : failN Q id token now ever = ((Q.1.set i (failG ever now (elt tJob Q.1 i)), Q.2.1, Q.2.2), 0) := by unfold failN; rw [e, lG_of k1 k2]
    obtain ⟨m1, m2, _⟩ := goodQ_elt g hi
    have ht' : ([now].any out) = false := by simpa using ht
    simp only [List.any_cons, List.any_nil, Bool.or_false] at ht'
    obtain ⟨n1, n2⟩ := inT_of ht'
    obtain ⟨j, hj⟩ : ∃ j : Job, elt tJob Q.1 i = j := ⟨_, rfl⟩
    rw [hj] at m1 m2 k1 k2 e'
    have hw := waitN_in (j.2.2.2.2.1 - 1).toNat
    obtain ⟨a1, a2, a3, a4, a5, a6, a7, a8, a9, a10, a11⟩ := mayJ_iff m1
    have hr : jr Q.2.2 j (failG ever now j) ∧ fen 5 id token j (failG ever now j) := by
      unfold failG
      split
      · exact ⟨⟨rfl, rfl, may_stG m1 (by decide) (by decide), m2, fun _ => op2 k1⟩, ⟨rfl, fun _ => ⟨Int.le_refl _, Int.le_refl _, Int.le_refl _, rfl, .inl (op2 k1), fun _ _ => .inr ⟨k2, k1⟩⟩⟩⟩
      · refine ⟨⟨rfl, rfl, mayJ_mk a1 a2 a3 ⟨?_, ?_⟩ a5 a6 a7 (show (1 : Int) ≤ 1 by decide) (show (1 : Int) ≤ 5 by decide) a10 a11, m2, fun _ => op2 k1⟩, ⟨rfl, fun _ => ⟨Int.le_refl _, Int.le_refl _, Int.le_refl _, rfl, .inl (op2 k1), fun _ _ => .inr ⟨k2, k1⟩⟩⟩⟩
        · show 0 ≤ min (now + waitI j.2.2.2.2.1) 1099511627776
          unfold waitI; omega
        · show min (now + waitI j.2.2.2.2.1) 1099511627776 ≤ 1099511627776
          omega
    have g2 := goodQ_set (k := failG ever now j) g hi (by rw [hj]; exact hr.1)
    rw [e']
    exact fenR_set g2 hi (by rw [hj]; exact hr.2)
  · have h : (stopN Q id).2 = 0 := h
    show fenR 6 id token Q (stopN Q id).1
    obtain ⟨g, _, i, _, hi, h1, h2, e⟩ := change_ok (F := stopF) (G := stopG) h
    have ho : opn (elt tJob Q.1 i) = true := by
      unfold stopF at h2
      split at h2
      · assumption
      · omega
    have e' : stopN Q id = ((Q.1.set i (stG 4 (elt tJob Q.1 i)), Q.2.1, Q.2.2), 0) := by unfold stopN; rw [e, stopG, if_pos ho]
    obtain ⟨m1, m2, _⟩ := goodQ_elt g hi
    have g2 := goodQ_set (k := stG 4 (elt tJob Q.1 i)) g hi ⟨rfl, rfl, may_stG m1 (by decide) (by decide), m2, fun _ => ho⟩
    rw [e']
    exact fenR_set g2 hi ⟨rfl, fun _ => ⟨Int.le_refl _, Int.le_refl _, Int.le_refl _, rfl, .inl ho, fun _ h2 => absurd h2 (by decide)⟩⟩
  · have h : (againN Q id).2 = 0 := h
    show fenR 7 id token Q (againN Q id).1
    obtain ⟨g, i, hi, h1, e, g2⟩ := again_ok h
    rw [e] at g2 ⊢
    exact fenR_set g2 hi ⟨rfl, fun hn => absurd ⟨rfl, h1⟩ hn⟩
end Go.Proofs.Try
