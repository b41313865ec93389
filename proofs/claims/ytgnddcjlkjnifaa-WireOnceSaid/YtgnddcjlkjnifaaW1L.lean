/-
  The plain law 'WireOnce': messages that are sent, and taken in whatever order, come each once.
-/
import Derived.Test.YtgnddcjlkjnifaaW1A
namespace Go.Plain
open Go.AM

theorem mget_mset (v : Ty) (x y : Int) (z : v.den) : ∀ c : List (Int × v.den), mget (.int .i64) v x (mset (.int .i64) v y z c) = if x = y then z else mget (.int .i64) v x c
  | [] => by
    show (match keyB (.int .i64) x y with | true => z | false => v.zero) = if x = y then z else v.zero
    by_cases e : x = y
    · rw [if_pos e, show keyB (.int .i64) x y = true from decide_eq_true e]
    · rw [if_neg e, show keyB (.int .i64) x y = false from decide_eq_false e]
  | (a, b) :: r => by
    have ih := mget_mset v x y z r
    show mget (.int .i64) v x (match keyB (.int .i64) y a with | true => (a, z) :: r | false => (a, b) :: mset (.int .i64) v y z r) = if x = y then z else (match keyB (.int .i64) x a with | true => b | false => mget (.int .i64) v x r)
    by_cases e : y = a
    · rw [show keyB (.int .i64) y a = true from decide_eq_true e]
      show (match keyB (.int .i64) x a with | true => z | false => mget (.int .i64) v x r) = _
      by_cases g : x = a
      · rw [show keyB (.int .i64) x a = true from decide_eq_true g, if_pos (g.trans e.symm)]
      · rw [show keyB (.int .i64) x a = false from decide_eq_false g, if_neg (fun h => g (h.trans e))]
    · rw [show keyB (.int .i64) y a = false from decide_eq_false e]
      show (match keyB (.int .i64) x a with | true => b | false => mget (.int .i64) v x (mset (.int .i64) v y z r)) = _
      by_cases g : x = a
      · rw [show keyB (.int .i64) x a = true from decide_eq_true g, if_neg (fun h => e (h.symm.trans g))]
      · rw [show keyB (.int .i64) x a = false from decide_eq_false g]
        exact ih
theorem mset_keys (v : Ty) (y : Int) (z : v.den) : ∀ c : List (Int × v.den), (mset (.int .i64) v y z c).map Prod.fst = if y ∈ c.map Prod.fst then c.map Prod.fst else c.map Prod.fst ++ [y]
  | [] => by simp [mset]
  | (a, b) :: r => by
    have ih := mset_keys v y z r
    show List.map Prod.fst (match keyB (.int .i64) y a with | true => (a, z) :: r | false => (a, b) :: mset (.int .i64) v y z r) = _
    by_cases e : y = a
    · rw [show keyB (.int .i64) y a = true from decide_eq_true e]
      simp [e]
    · rw [show keyB (.int .i64) y a = false from decide_eq_false e]
      simp only [List.map_cons, ih, List.mem_cons, e, false_or]
      split <;> simp
theorem mset_nodup (v : Ty) (y : Int) (z : v.den) {c : List (Int × v.den)} (h : (c.map Prod.fst).Nodup) : ((mset (.int .i64) v y z c).map Prod.fst).Nodup := by
  rw [mset_keys]
  split
  · exact h
  · rename_i hn
    rw [List.nodup_append]
    refine ⟨h, by simp, fun a ha b hb => ?_⟩
    rw [List.mem_singleton.1 hb]
    exact fun q => hn (q ▸ ha)
theorem mget_mem (v : Ty) : ∀ {c : List (Int × v.den)}, (c.map Prod.fst).Nodup → ∀ p ∈ c, mget (.int .i64) v p.1 c = p.2
  | [], _, p, hp => by cases hp
  | (a, b) :: r, h, p, hp => by
    rw [List.map_cons, List.nodup_cons] at h
    show (match keyB (.int .i64) p.1 a with | true => b | false => mget (.int .i64) v p.1 r) = p.2
    rcases List.mem_cons.1 hp with rfl | hp
    · rw [show keyB (.int .i64) a a = true from decide_eq_true rfl]
    · have hne : p.1 ≠ a := fun q => h.1 (by rw [← q]; exact List.mem_map.2 ⟨p, hp, rfl⟩)
      rw [show keyB (.int .i64) p.1 a = false from decide_eq_false hne]
      exact mget_mem v h.2 p hp

/-- How many messages have that number. -/
def cntW (id : Int) : List MsgD → Nat
  | [] => 0
  | m :: r => (if m.1 = id then 1 else 0) + cntW id r
theorem cntW_app (id : Int) : ∀ (a b : List MsgD), cntW id (a ++ b) = cntW id a + cntW id b
  | [], b => by simp [cntW]
  | m :: r, b => by simp only [List.cons_append, cntW, cntW_app id r b]; omega
theorem cntW_le (id : Int) : ∀ (a : List MsgD), cntW id a ≤ a.length
  | [] => Nat.le_refl _
  | m :: r => by have := cntW_le id r; simp only [cntW, List.length_cons]; split <;> omega
theorem cntW_none {id : Int} : ∀ {a : List MsgD}, (∀ m ∈ a, m.1 ≠ id) → cntW id a = 0
  | [], _ => rfl
  | m :: r, h => by
    have ih : cntW id r = 0 := cntW_none fun x hx => h x (List.mem_cons_of_mem _ hx)
    simp only [cntW, if_neg (h m List.mem_cons_self), ih]

/-- What holds between messages. -/
structure Inv (K : Nat) (left : List (Int × Int)) (n : NetD) (sent : List (Int × Str)) : Prop where
  hK : K ≤ 20
  last : n.2 = ((K : Int), 0)
  len : n.1.length ≤ 32
  good : ∀ m ∈ n.1, 1 ≤ m.1 ∧ m.1 ≤ (K : Int) ∧ m.2.1 = Int.tmod (m.1 - 1) 64 ∧ m.2.2.2 = 0 ∧ m.2.2.1 = mget (.int .i64) .str m.1 sent ∧ m.2.2.1.length ≤ 100
  cnt : ∀ id, mget (.int .i64) (.int .i64) id left = (cntW id n.1 : Int)
  nd : (left.map Prod.fst).Nodup
theorem tmod_small {m : Int} (h : 0 ≤ m) (g : m < 64) : Int.tmod m 64 = m := Int.tmod_eq_of_lt h g
theorem Inv.right {K : Nat} {left : List (Int × Int)} {n : NetD} {sent : List (Int × Str)} (h : Inv K left n sent) : RightN n := by
  have hK := h.hK
  have e := h.last
  refine ⟨h.len, by rw [e]; dsimp only; omega, by rw [e]; dsimp only; omega, by rw [e]; exact Int.le_refl _, by rw [e]; dsimp only; omega, fun m hm => ?_⟩
  obtain ⟨h1, h2, h3, h4, h5, h6⟩ := h.good m hm
  rw [tmod_small (by omega) (by omega)] at h3
  rw [e]
  refine ⟨h1, h2, by omega, by omega, by omega, by omega, by dsimp only; omega⟩

theorem l6_at (bodies : List Str) (acts : List Int) (hk : bodies.length ≤ 9223372036854775807) : ∀ (b a : List Str) (left : List (Int × Int)) (n : NetD) (sent : List (Int × Str)), bodies = a ++ b → Inv a.length left n sent → n.1.length = a.length →
    ∃ K left' n' sent', law13_WireOnce_l6 ((acts, ((a.length : Int), (bodies, (bodies.length : Int)))), (left, (n, sent))) = some (.inl (acts, (left', (n', sent')))) ∧ Inv K left' n' sent' := by
  intro b
  induction b with
  | nil =>
    intro a left n sent e hI hn
    rw [List.append_nil] at e
    rw [law13_WireOnce_l6_eq]
    unfold law13_WireOnce_l6F
    dsimp only
    rw [if_neg (by rw [e]; simp)]
    exact ⟨_, _, _, _, rfl, hI⟩
  | cons x b ih =>
    intro a left n sent e hI hn
    have hl2 : bodies.length = a.length + (b.length + 1) := by rw [e]; simp
    have hw : IntKind.wrap .i64 ((a.length : Int) + 1) = (a.length : Int) + 1 := wrW (by omega)
    have he : elt .str bodies a.length = x := by rw [e]; exact eltW_mid .str a x b
    have hmin : min (x.length : Int) (100 : Int) = ((min x.length 100 : Nat) : Int) := by omega
    rw [law13_WireOnce_l6_eq]
    unfold law13_WireOnce_l6F
    dsimp only
    rw [Int.toNat_natCast, he, hmin, Int.toNat_natCast, if_pos (by rw [decide_eq_true_eq]; omega), if_pos (by omega), if_pos (by omega)]
    by_cases c20 : a.length ≥ 20
    · rw [if_pos (by rw [decide_eq_true_eq]; omega)]
      exact ⟨_, _, _, _, rfl, hI⟩
    · rw [if_neg (by rw [decide_eq_true_eq]; omega), if_pos (by omega), if_pos (by omega), hw]
      obtain ⟨k, hke⟩ : ∃ k, k = x.take (min x.length 100) := ⟨_, rfl⟩
      have hkl : k.length ≤ 100 := by rw [hke, List.length_take]; omega
      rw [← hke]
      have hlast := hI.last
      have hl1 : n.2.1 = (a.length : Int) := by rw [hlast]
      have hl0 : n.2.2 = 0 := by rw [hlast]
      have hto : Int.tmod (a.length : Int) 64 = (a.length : Int) := tmod_small (by omega) (by omega)
      have hs := Send_is hI.right (to := (a.length : Int)) (body := k) (by omega) (by omega) (by omega) (by omega) (by rw [hl1]; omega)
      have hnone : cntW ((a.length : Int) + 1) n.1 = 0 := cntW_none fun m hm => by
        have := (hI.good m hm).2.1
        omega
      have hz : mget (.int .i64) (.int .i64) ((a.length : Int) + 1) left = 0 := by rw [hI.cnt, hnone]; rfl
      rw [hto, hs, sbW]
      dsimp only
      rw [hl1, hz, if_neg (by simp), if_neg (by simp), hl0]
      have e4 : (a ++ [x]).length = a.length + 1 := by simp
      obtain ⟨K, left', n', sent', q1, q2⟩ := ih (a ++ [x]) (mset (.int .i64) (.int .i64) ((a.length : Int) + 1) 1 left) (n.1 ++ [((a.length : Int) + 1, ((a.length : Int), (k, 0)))], ((a.length : Int) + 1, 0))
        (mset (.int .i64) .str ((a.length : Int) + 1) k sent) (by rw [e]; simp) ⟨by rw [e4]; omega, by rw [e4]; simp, by simp; omega, fun m hm => by
          rw [e4]
          rcases List.mem_append.1 hm with hm | hm
          · obtain ⟨h1, h2, h3, h4, h5, h6⟩ := hI.good m hm
            refine ⟨h1, by omega, h3, h4, ?_, h6⟩
            rw [mget_mset, if_neg (by omega)]
            exact h5
          · rw [List.mem_singleton.1 hm]
            dsimp only
            refine ⟨by omega, by omega, ?_, rfl, ?_, hkl⟩
            · rw [tmod_small (by omega) (by omega)]; omega
            · rw [mget_mset, if_pos rfl], fun id => by
          rw [mget_mset, hI.cnt, cntW_app]
          by_cases h : id = (a.length : Int) + 1
          · rw [if_pos h, h, hnone]
            simp [cntW]
          · rw [if_neg h]
            simp [cntW, Ne.symm h], mset_nodup (.int .i64) _ _ hI.nd⟩ (by simp [hn])
      rw [snocW_len] at q1
      exact ⟨K, left', n', sent', q1, q2⟩

theorem place_ok (x : Int) {k : Nat} (h : 0 < k) (h2 : k ≤ 32) : ∃ p : Nat, Int.tmod (IntKind.wrap .i64 (Int.tmod x (k : Int) + (k : Int))) (k : Int) = (p : Int) ∧ p < k := by
  have h1 : Int.tmod x (k : Int) < (k : Int) := Int.tmod_lt_of_pos x (by omega)
  have h3 : -(k : Int) < Int.tmod x (k : Int) := by
    have := Int.lt_tmod_of_pos x (b := (k : Int)) (by omega)
    omega
  rw [wrW (by omega)]
  have h4 : 0 ≤ Int.tmod (Int.tmod x (k : Int) + (k : Int)) (k : Int) := Int.tmod_nonneg _ (by omega)
  have h5 := Int.tmod_lt_of_pos (Int.tmod x (k : Int) + (k : Int)) (b := (k : Int)) (by omega)
  exact ⟨(Int.tmod (Int.tmod x (k : Int) + (k : Int)) (k : Int)).toNat, by omega, by omega⟩
/-- One message fewer. -/
theorem Inv.fewer {K : Nat} {left : List (Int × Int)} {a b : List MsgD} {m : MsgD} {r : Int × Int} {sent : List (Int × Str)} (h : Inv K left (a ++ m :: b, r) sent) :
    Inv K (mset (.int .i64) (.int .i64) m.1 (IntKind.wrap .i64 (mget (.int .i64) (.int .i64) m.1 left - 1)) left) (a ++ b, r) sent := by
  have hl := h.len
  have hl2 : (a ++ m :: b).length = a.length + (b.length + 1) := by simp
  refine ⟨h.hK, h.last, by simp; simp at hl; omega, fun x hx => h.good x ?_, fun id => ?_, mset_nodup (.int .i64) _ _ h.nd⟩
  · rcases List.mem_append.1 hx with hx | hx
    · simp [hx]
    · simp [hx]
  · have hc := h.cnt id
    rw [mget_mset, h.cnt m.1]
    rw [cntW_app] at hc ⊢
    rw [cntW_app]
    have l1 := cntW_le m.1 a
    have l2 := cntW_le m.1 b
    simp only [cntW, if_true] at hc ⊢
    dsimp only at hl
    rw [wrW (by omega)]
    by_cases e : id = m.1
    · rw [if_pos e, e]
      show ((cntW m.1 a + (1 + cntW m.1 b) : Nat) : Int) - 1 = ((cntW m.1 a + cntW m.1 b : Nat) : Int)
      omega
    · rw [if_neg e, hc, if_neg (Ne.symm e)]
      show ((cntW id a + (0 + cntW id b) : Nat) : Int) = ((cntW id a + cntW id b : Nat) : Int)
      omega
/-- One message more. -/
theorem Inv.more {K : Nat} {left : List (Int × Int)} {l : List MsgD} {m : MsgD} {r : Int × Int} {sent : List (Int × Str)} (h : Inv K left (l, r) sent) (hm : m ∈ l) (hl : l.length ≠ 32) :
    Inv K (mset (.int .i64) (.int .i64) m.1 (IntKind.wrap .i64 (mget (.int .i64) (.int .i64) m.1 left + 1)) left) (l ++ [m], r) sent := by
  have hl3 := h.len
  dsimp only at hl3
  have hl4 : (l ++ [m]).length = l.length + 1 := List.length_append
  refine ⟨h.hK, h.last, by dsimp only; omega, fun x hx => h.good x ?_, fun id => ?_, mset_nodup (.int .i64) _ _ h.nd⟩
  · rcases List.mem_append.1 hx with hx | hx
    · exact hx
    · rw [List.mem_singleton.1 hx]; exact hm
  · have hc := h.cnt id
    have hc1 := h.cnt m.1
    dsimp only at hc hc1 ⊢
    have l1 := cntW_le m.1 l
    rw [mget_mset, hc1, cntW_app]
    rw [wrW (by omega)]
    by_cases e : id = m.1
    · rw [if_pos e, e]
      simp only [cntW, if_true]
      show ((cntW m.1 l : Nat) : Int) + 1 = ((cntW m.1 l + (1 + 0) : Nat) : Int)
      omega
    · rw [if_neg e, hc]
      simp only [cntW, if_neg (Ne.symm e)]
      rfl

theorem l20_at (acts : List Int) (hk : acts.length ≤ 9223372036854775807) : ∀ (b a : List Int) (K : Nat) (left : List (Int × Int)) (n : NetD) (sent : List (Int × Str)), acts = a ++ b → Inv K left n sent →
    ∃ left' n', law13_WireOnce_l20 (((a.length : Int), (acts, (acts.length : Int))), (left, (n, sent))) = some (.inl (left', n')) ∧ Inv K left' n' sent := by
  intro b
  induction b with
  | nil =>
    intro a K left n sent e hI
    rw [List.append_nil] at e
    rw [law13_WireOnce_l20_eq]
    unfold law13_WireOnce_l20F
    dsimp only
    rw [if_neg (by rw [e]; simp)]
    exact ⟨_, _, rfl, hI⟩
  | cons x b ih =>
    intro a K left n sent e hI
    have hl2 : acts.length = a.length + (b.length + 1) := by rw [e]; simp
    have hw : IntKind.wrap .i64 ((a.length : Int) + 1) = (a.length : Int) + 1 := wrW (by omega)
    have he : elt (.int .i64) acts a.length = x := by rw [e]; exact eltW_mid (.int .i64) a x b
    have ih := fun left n hI => ih (a ++ [x]) K left n sent (by rw [e]; simp) hI
    rw [snocW_len] at ih
    rw [law13_WireOnce_l20_eq]
    unfold law13_WireOnce_l20F
    dsimp only
    rw [Int.toNat_natCast, he, hw, if_pos (by rw [decide_eq_true_eq]; omega), if_pos (by omega), if_pos (by omega)]
    by_cases c60 : a.length ≥ 60
    · rw [if_pos (by rw [decide_eq_true_eq]; omega)]
      exact ⟨_, _, rfl, hI⟩
    rw [if_neg (by rw [decide_eq_true_eq]; omega)]
    by_cases c0 : n.1.length = 0
    · rw [if_pos (by rw [beq_iff_eq]; omega)]
      exact ⟨_, _, rfl, hI⟩
    rw [if_neg (by rw [beq_iff_eq]; omega), if_pos (by omega), if_pos (by omega)]
    obtain ⟨p, hp, hpl⟩ := place_ok (IntKind.wrap .i64 (Int.tdiv x 3)) (k := n.1.length) (by omega) hI.len
    rw [hp, if_pos (by omega), if_pos (by omega), Int.toNat_natCast]
    obtain ⟨u, m, v, hn, hu⟩ : ∃ u m v, n.1 = u ++ m :: v ∧ u.length = p := ⟨n.1.take p, n.1[p], n.1.drop (p + 1), by rw [← List.drop_eq_getElem_cons hpl, List.take_append_drop], by rw [List.length_take]; omega⟩
    obtain ⟨l, r⟩ := n
    dsimp only at hn hpl c0 ⊢
    subst hn
    subst hu
    rw [eltW_mid tM]
    have hr := hI.right
    obtain ⟨g1, g2, g3, g4, g5, g6⟩ := hI.good m (by simp)
    have hK := hI.hK
    have hcm : mget (.int .i64) (.int .i64) m.1 left = (cntW m.1 (u ++ m :: v) : Int) := hI.cnt m.1
    have hcp : 1 ≤ cntW m.1 (u ++ m :: v) := by rw [cntW_app]; simp [cntW]; omega
    split
    · rw [Take_is u m v r hr, sbW]
      dsimp only
      rw [if_neg (by simp), ← g5, if_neg (by simp), if_neg (by simp), if_neg (by rw [decide_eq_true_eq, hcm]; show ¬ ((cntW m.1 (u ++ m :: v) : Nat) : Int) < 1; omega), wrW (n := m.1 - 1) (by omega), ← g3, if_neg (by simp)]
      exact ih _ _ hI.fewer
    · split
      · rw [Twice_is u m v r hr]
        by_cases c : (u ++ m :: v).length = 32
        · rw [if_pos c, sbW]
          dsimp only
          rw [if_neg (by decide)]
          exact ih _ _ hI
        · rw [if_neg c, sbW]
          dsimp only
          rw [if_pos (by rfl)]
          exact ih _ _ (hI.more (by simp) c)
      · rw [Lose_is u m v r hr, sbW]
        dsimp only
        rw [if_neg (by decide)]
        exact ih _ _ hI.fewer

theorem l48_at (n : NetD) : ∀ (b a : List MsgD) (left : List (Int × Int)), n.1 = a ++ b → n.1.length ≤ 32 → (∀ id, mget (.int .i64) (.int .i64) id left = (cntW id b : Int)) → (left.map Prod.fst).Nodup →
    ∃ left', law13_WireOnce_l48 (((a.length : Int), (n.1, (n.1.length : Int))), (left, n)) = some (n, left') ∧ (∀ id, mget (.int .i64) (.int .i64) id left' = 0) ∧ (left'.map Prod.fst).Nodup := by
  intro b
  induction b with
  | nil =>
    intro a left e hl hc hd
    rw [List.append_nil] at e
    rw [law13_WireOnce_l48_eq]
    unfold law13_WireOnce_l48F
    dsimp only
    rw [if_neg (by rw [e]; simp)]
    exact ⟨_, rfl, fun id => by rw [hc]; rfl, hd⟩
  | cons m b ih =>
    intro a left e hl hc hd
    have hl2 : n.1.length = a.length + (b.length + 1) := by rw [e]; simp
    have hw : IntKind.wrap .i64 ((a.length : Int) + 1) = (a.length : Int) + 1 := wrW (by omega)
    have he : elt tM n.1 a.length = m := by rw [e]; exact eltW_mid tM a m b
    have lb := cntW_le m.1 b
    have hcm := hc m.1
    simp only [cntW, if_pos] at hcm
    have ih := ih (a ++ [m]) (mset (.int .i64) (.int .i64) m.1 (IntKind.wrap .i64 (mget (.int .i64) (.int .i64) m.1 left - 1)) left) (by rw [e]; simp) hl (fun id => by
      rw [mget_mset, hcm, wrW (by omega)]
      have hci := hc id
      simp only [cntW] at hci
      by_cases g : id = m.1
      · rw [if_pos g, g]
        show ((1 + cntW m.1 b : Nat) : Int) - 1 = ((cntW m.1 b : Nat) : Int)
        omega
      · rw [if_neg g, hci, if_neg (Ne.symm g)]
        show ((0 + cntW id b : Nat) : Int) = ((cntW id b : Nat) : Int)
        omega) (mset_nodup (.int .i64) _ _ hd)
    rw [snocW_len] at ih
    rw [law13_WireOnce_l48_eq]
    unfold law13_WireOnce_l48F
    dsimp only
    rw [Int.toNat_natCast, he, hw, if_pos (by rw [decide_eq_true_eq]; omega), if_pos (by omega), if_pos (by omega)]
    exact ih

theorem l55_at (n : NetD) : ∀ (k : Nat) (c : List ((Bool × Int) × Int)), c.tail.length = k → (∀ x ∈ c.tail, x.2 = 0) → law13_WireOnce_l55 (c, n) = some (.inl n) := by
  intro k
  induction k with
  | zero =>
    intro c hc _
    rw [law13_WireOnce_l55_eq]
    unfold law13_WireOnce_l55F
    dsimp only
    rw [if_pos (by rw [List.isEmpty_iff]; exact List.eq_nil_of_length_eq_zero hc)]
  | succ k ih =>
    intro c hc hz
    rw [law13_WireOnce_l55_eq]
    unfold law13_WireOnce_l55F
    dsimp only
    rw [if_neg (by rw [List.isEmpty_iff]; intro h; rw [h] at hc; simp at hc)]
    refine agree_is (by omega) fun j hj => ?_
    have e : (itGet (.int .i64) (.int .i64) c j).2 = 0 := by
      unfold itGet
      rw [List.getElem?_eq_getElem hj]
      exact hz _ (List.getElem_mem hj)
    rw [e, if_neg (by decide)]
    refine ih _ ?_ fun x hx => ?_
    · show (c.tail.eraseIdx j).length = k
      rw [List.length_eraseIdx_of_lt hj]
      omega
    · exact hz x (List.mem_of_mem_eraseIdx hx)

theorem alive_is : law13_alive () = some true := by
  unfold law13_alive
  have h1 : RightN (([] : List MsgD), ((0 : Int), (0 : Int))) := ⟨by simp, by simp, by simp, by simp, by simp, fun m hm => by cases hm⟩
  have s := Send_is h1 (to := 3) (body := [120]) (by decide) (by decide) (by decide) (by decide) (by decide)
  have h2 : RightN (([] : List MsgD) ++ ((1 : Int), ((3 : Int), (([120] : Str), (0 : Int)))) :: [], ((1 : Int), (0 : Int))) := ⟨by simp, by simp, by simp, by simp, by simp, fun m hm => by
    rw [List.nil_append, List.mem_singleton] at hm
    rw [hm]
    exact ⟨by decide, by decide, by decide, by decide, by decide, by decide, by decide⟩⟩
  have t := Take_is [] ((1 : Int), ((3 : Int), (([120] : Str), (0 : Int)))) [] ((1 : Int), (0 : Int)) h2
  have s : wire_Send (([], ((0 : Int), (0 : Int))), ((3 : Int), ([120] : Str))) = some (([((1 : Int), ((3 : Int), (([120] : Str), (0 : Int))))], ((1 : Int), (0 : Int))), ((1 : Int), (0 : Int))) := s
  have t : wire_Take (([((1 : Int), ((3 : Int), (([120] : Str), (0 : Int))))], ((1 : Int), (0 : Int))), (0 : Int)) = some (([], ((1 : Int), (0 : Int))), (((1 : Int), ((3 : Int), (([120] : Str), (0 : Int)))), (0 : Int))) := t
  rw [s, sbW]
  dsimp only
  rw [t, sbW]
  rfl

theorem WireOnce_holds {bodies : List Str} {acts : List Int} (h1 : bodies.length ≤ 9223372036854775807) (h2 : acts.length ≤ 9223372036854775807) : law13_WireOnce (bodies, acts) = some true := by
  have i0 : Inv 0 [] (([] : List MsgD), ((0 : Int), (0 : Int))) [] := ⟨by omega, rfl, by simp, fun m hm => (by cases hm), fun id => rfl, List.nodup_nil⟩
  obtain ⟨K, left, n, sent, q1, i1⟩ := l6_at bodies acts h1 bodies [] [] _ [] rfl i0 rfl
  obtain ⟨left2, n2, q2, i2⟩ := l20_at acts h2 acts [] K left n sent rfl i1
  obtain ⟨left3, q3, i3, i4⟩ := l48_at n2 n2.1 [] left2 rfl i2.len i2.cnt i2.nd
  have q4 := l55_at n2 left3.length (itNew (.int .i64) (.int .i64) left3) (by simp [itNew]) (fun x hx => by
    have hx : x ∈ left3.map fun x => ((false, x.1), x.2) := hx
    obtain ⟨y, hy, rfl⟩ := List.mem_map.1 hx
    have := mget_mem (.int .i64) i4 y hy
    rw [i3] at this
    exact this.symm)
  have q1 : law13_WireOnce_l6 ((acts, ((0 : Int), (bodies, (bodies.length : Int)))), ([], (([], ((0 : Int), (0 : Int))), []))) = _ := q1
  have q2 : law13_WireOnce_l20 (((0 : Int), (acts, (acts.length : Int))), (left, (n, sent))) = _ := q2
  have q3 : law13_WireOnce_l48 (((0 : Int), (n2.1, (n2.1.length : Int))), (left2, n2)) = _ := q3
  unfold law13_WireOnce
  dsimp only
  rw [q1, sbW]
  dsimp only [Sum.elim_inl]
  rw [q2, sbW]
  dsimp only [Sum.elim_inl]
  rw [q3, sbW]
  dsimp only
  rw [q4, sbW]
  dsimp only [Sum.elim_inl]
  rw [alive_is, sbW, if_pos rfl, Right_true i2.right, sbW]
end Go.Plain
