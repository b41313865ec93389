import Derived.Test.YtjiojhfbpblioaaQueueR
namespace Go.Proofs.Try
open Go.AM

def bk (j : Job) : Int := if 0 < j.2.2.2.1 ∧ j.2.2.2.1 < 6 then j.2.2.2.1 else 0
def cn (k : Int) : List Job → Int
  | [] => 0
  | j :: r => (if bk j = k then 1 else 0) + cn k r
theorem cn_app (k : Int) : ∀ (l m : List Job), cn k (l ++ m) = cn k l + cn k m
  | [], m => by simp [cn]
  | j :: r, m => by simp only [List.cons_append, cn, cn_app k r m]; omega
theorem cn_le (k : Int) : ∀ (l : List Job), 0 ≤ cn k l ∧ cn k l ≤ l.length
  | [] => by simp [cn]
  | j :: r => by
    have := cn_le k r
    simp only [cn, List.length_cons]
    split <;> omega
theorem cn_take (k : Int) {l : List Job} {i : Nat} (hi : i < l.length) : cn k (l.take (i + 1)) = cn k (l.take i) + (if bk (elt tJob l i) = k then 1 else 0) := by
  rw [eltJ hi, List.take_succ_eq_append_getElem hi, cn_app]
  simp [cn]
abbrev cntV (l : List Job) : List AV := [.int .i64 (cn 0 l), .int .i64 (cn 1 l), .int .i64 (cn 2 l), .int .i64 (cn 3 l), .int .i64 (cn 4 l), .int .i64 (cn 5 l)]
set_option maxRecDepth 100000 in
theorem c22 (q : Queue) (hl : q.1.length ≤ 1099511627776) : ACall E 22 [queueV q] [] (fun r h' => r = .ret (.agg (cntV q.1)) ∧ h' = []) := by
  refine ACall.body envOK func22 rfl rfl rfl ?_
  conv => whnf
  refine ⟨Nat, ⟨fun i => i ≤ q.1.length, fun i => ([(2, .ptr 0 0), (3, .ptr 1 0), (7, .sl tJob q.1 false), (8, .int .i64 (q.1.length : Int)), (9, .int .i64 (i : Int))],
    [.var [.int .i64 0, .int .i64 0, .int .i64 0, .int .i64 0, .int .i64 0, .int .i64 0], .var (cntV (q.1.take i))]), fun i => q.1.length - i⟩, 0, [], [.old 1, .old 2], Nat.zero_le _, ?_, fun i hi => ?_⟩
  · repeat' (first | exact trivial | exact rfl | exact .inl rfl | (exact .inr rfl) | refine And.intro ?_ ?_)
  · have i1 : i ≤ q.1.length := hi
    conv => whnf
    first | refine aIf_dec (fun h4 => ?_) (fun h4 => ?_) | refine aIf_beq (fun h4 => ?_) (fun h4 => ?_) | refine aIf_bne (fun h4 => ?_) (fun h4 => ?_) | refine aIf_not (fun h4 => ?_) (fun h4 => ?_) | refine aIf_mk (fun h4 => ?_) (fun h4 => ?_)
    · have hlt : i < q.1.length := by omega
      conv => whnf
      refine And.intro (by omega) (And.intro (by omega) ?_)
      rw [show ((i : Int)).toNat = i from rfl]
      have b0 := cn_le 0 (q.1.take i)
      have b1 := cn_le 1 (q.1.take i)
      have b2 := cn_le 2 (q.1.take i)
      have b3 := cn_le 3 (q.1.take i)
      have b4 := cn_le 4 (q.1.take i)
      have b5 := cn_le 5 (q.1.take i)
      rw [List.length_take] at b0 b1 b2 b3 b4 b5
      have t0 := cn_take 0 hlt
      have t1 := cn_take 1 hlt
      have t2 := cn_take 2 hlt
      have t3 := cn_take 3 hlt
      have t4 := cn_take 4 hlt
      have t5 := cn_take 5 hlt
      obtain ⟨j, hj⟩ : ∃ j : Job, elt tJob q.1 i = j := ⟨_, rfl⟩
      rw [hj] at t0 t1 t2 t3 t4 t5 ⊢
      obtain ⟨ja, jb, jc, st, jr⟩ := j
      conv => whnf
      first | refine aIf_dec (fun h5 => ?_) (fun h5 => ?_) | refine aIf_beq (fun h5 => ?_) (fun h5 => ?_) | refine aIf_bne (fun h5 => ?_) (fun h5 => ?_) | refine aIf_not (fun h5 => ?_) (fun h5 => ?_) | refine aIf_mk (fun h5 => ?_) (fun h5 => ?_)
      · conv => whnf
        first | refine aIf_dec (fun h6 => ?_) (fun h6 => ?_) | refine aIf_beq (fun h6 => ?_) (fun h6 => ?_) | refine aIf_bne (fun h6 => ?_) (fun h6 => ?_) | refine aIf_not (fun h6 => ?_) (fun h6 => ?_) | refine aIf_mk (fun h6 => ?_) (fun h6 => ?_)
        · have hst : st = 1 ∨ st = 2 ∨ st = 3 ∨ st = 4 ∨ st = 5 := by
            have h5' : 0 < st := by omega
            have h6' : st < 6 := by omega
            omega
          rcases hst with rfl | rfl | rfl | rfl | rfl
          all_goals (conv => whnf)
          all_goals (refine And.intro (by first | decide | (dsimp only; decide)) (And.intro (by first | decide | (dsimp only; decide)) ?_); (conv => whnf); refine And.intro (by first | decide | (dsimp only; decide)) (And.intro (by first | decide | (dsimp only; decide)) ?_); (conv => whnf))
          all_goals (refine ⟨i + 1, [], [.old 0, .old 1], (show i + 1 ≤ q.1.length by omega), (show q.1.length - (i + 1) < q.1.length - i by omega), ?_⟩)
          all_goals (repeat' (first | exact trivial | exact rfl | exact .inl rfl | (exact .inr rfl) | refine And.intro ?_ ?_))
          all_goals (simp [bk] at t0 t1 t2 t3 t4 t5)
          all_goals (first | omega | exact i64_at (by omega) (by omega))
        · have hb : bk (ja, jb, jc, st, jr) = 0 := by
            have h6' : ¬ st < 6 := h6
            simp [bk, h6']
          conv => whnf
          refine And.intro (by first | decide | (dsimp only; decide)) (And.intro (by first | decide | (dsimp only; decide)) ?_)
          conv => whnf
          refine And.intro (by first | decide | (dsimp only; decide)) (And.intro (by first | decide | (dsimp only; decide)) ?_)
          conv => whnf
          refine ⟨i + 1, [], [.old 0, .old 1], (show i + 1 ≤ q.1.length by omega), (show q.1.length - (i + 1) < q.1.length - i by omega), ?_⟩
          repeat' (first | exact trivial | exact rfl | exact .inl rfl | (exact .inr rfl) | refine And.intro ?_ ?_)
          all_goals (rw [hb] at t0 t1 t2 t3 t4 t5; simp at t0 t1 t2 t3 t4 t5)
          all_goals (first | omega | exact i64_at (by omega) (by omega))
      · have hb : bk (ja, jb, jc, st, jr) = 0 := by
          have h5' : ¬ 0 < st := h5
          simp [bk, h5']
        conv => whnf
        refine And.intro (by first | decide | (dsimp only; decide)) (And.intro (by first | decide | (dsimp only; decide)) ?_)
        conv => whnf
        refine And.intro (by first | decide | (dsimp only; decide)) (And.intro (by first | decide | (dsimp only; decide)) ?_)
        conv => whnf
        refine ⟨i + 1, [], [.old 0, .old 1], (show i + 1 ≤ q.1.length by omega), (show q.1.length - (i + 1) < q.1.length - i by omega), ?_⟩
        repeat' (first | exact trivial | exact rfl | exact .inl rfl | (exact .inr rfl) | refine And.intro ?_ ?_)
        all_goals (rw [hb] at t0 t1 t2 t3 t4 t5; simp at t0 t1 t2 t3 t4 t5)
        all_goals (first | omega | exact i64_at (by omega) (by omega))
    · rw [show cntV q.1 = cntV (q.1.take i) by rw [List.take_of_length_le (by omega)]]
      conv => whnf
      refine ⟨[], _, _, ?_, rfl, rfl⟩
      repeat' (first | exact trivial | exact rfl | exact .inl rfl | (exact .inr rfl) | refine And.intro ?_ ?_)

def rmv : Bool → List Job → List Job
  | _, [] => []
  | off, j :: r => if off = false ∧ ended j = true then rmv true r else j :: rmv off r
theorem rmv_true : ∀ (l : List Job), rmv true l = l
  | [] => rfl
  | j :: r => by simp [rmv, rmv_true r]
theorem rmv_drop {off : Bool} {l : List Job} {i : Nat} (hi : i < l.length) : rmv off (l.drop i) = if off = false ∧ ended (elt tJob l i) = true then rmv true (l.drop (i + 1)) else elt tJob l i :: rmv off (l.drop (i + 1)) := by
  rw [List.drop_eq_getElem_cons hi, rmv, eltJ hi]
theorem rmv_at : ∀ (l : List Job) (i : Nat) (hi : i < l.length), ended l[i] = true → (∀ j (h : j < i), ended (l[j]'(Nat.lt_trans h hi)) = false) → rmv false l = l.take i ++ l.drop (i + 1)
  | j :: r, 0, _, h, _ => by
    have h' : ended j = true := h
    simp [rmv, h', rmv_true]
  | j :: r, i + 1, hi, h, h0 => by
    have e0 : ended j = false := h0 0 (by omega)
    have := rmv_at r i (by simpa using hi) (by simpa using h) (fun k hk => by simpa using h0 (k + 1) (by omega))
    simp [rmv, e0, this]
theorem rmv_none : ∀ (l : List Job), (∀ x ∈ l, ended x = false) → rmv false l = l
  | [], _ => rfl
  | j :: r, h => by
    have e0 : ended j = false := h j (by simp)
    simp [rmv, e0, rmv_none r (fun x hx => h x (by simp [hx]))]
theorem rmv_room {l : List Job} (hl : l.length ≤ 64) : rmv (decide ((l.length : Int) < 64)) l = roomL l := by
  by_cases h : l.length = 64
  · rw [decide_eq_false (by omega)]
    by_cases h2 : 0 ≤ idxOf ended l
    · obtain ⟨i, e, hi, h3, h4⟩ := idxOf_lt h2
      rw [roomL, if_pos ⟨h, h2⟩, e, rmv_at l i hi h3 h4]
      rfl
    · rw [roomL, if_neg (fun hh => h2 hh.2), rmv_none l (idxOf_neg h2).2]
  · rw [roomL, if_neg (fun hh => h hh.1), decide_eq_true (by omega), rmv_true]

structure AD where
  i : Nat
  acc : List Job
  off : Bool
  f : Bool
def adInv (L : List Job) (off : Bool) (x : AD) : Prop := x.i ≤ L.length ∧ x.acc ++ rmv x.off (L.drop x.i) = rmv off L ∧ x.acc.length ≤ x.i
set_option maxRecDepth 100000 in
theorem c26 (q : Queue) (key body : Str) (hg : goodQ q = true) : ACall E 26 [queueV q, .str key, .str body] [] (fun r h' => r = .ret (.tup [queueV (addN q key body).1, .int .i64 (addN q key body).2.2]) ∧ h' = []) := by
  obtain ⟨g1, g2, g3, g4⟩ := goodQ_iff hg
  obtain ⟨g5, g6⟩ := g3
  refine ACall.body envOK func26 rfl rfl rfl ?_
  conv => whnf
  first | refine aIf_dec (fun h1 => ?_) (fun h1 => ?_) | refine aIf_beq (fun h1 => ?_) (fun h1 => ?_) | refine aIf_bne (fun h1 => ?_) (fun h1 => ?_) | refine aIf_not (fun h1 => ?_) (fun h1 => ?_) | refine aIf_mk (fun h1 => ?_) (fun h1 => ?_)
  · rw [show addN q key body = (([], 0, 0), 0, 2) by rw [addN, if_neg (by rw [hg]; simp), if_pos (.inl (by omega))]]
    conv => whnf
    refine ⟨[], _, _, ?_, rfl, rfl⟩
    repeat' (first | exact trivial | exact rfl | exact .inl rfl | (exact .inr rfl) | refine And.intro ?_ ?_)
  · conv => whnf
    first | refine aIf_dec (fun h2 => ?_) (fun h2 => ?_) | refine aIf_beq (fun h2 => ?_) (fun h2 => ?_) | refine aIf_bne (fun h2 => ?_) (fun h2 => ?_) | refine aIf_not (fun h2 => ?_) (fun h2 => ?_) | refine aIf_mk (fun h2 => ?_) (fun h2 => ?_)
    · rw [show addN q key body = (([], 0, 0), 0, 2) by rw [addN, if_neg (by rw [hg]; simp), if_pos (.inr (by omega))]]
      conv => whnf
      refine ⟨[], _, _, ?_, rfl, rfl⟩
      repeat' (first | exact trivial | exact rfl | exact .inl rfl | (exact .inr rfl) | refine And.intro ?_ ?_)
    · have hlen : ¬ (key.length > 200 ∨ body.length > 200) := by omega
      conv => whnf
      refine ACall.use0 (c30 q key 0 (by omega)) rfl ?_
      conv => whnf
      first | refine aIf_dec (fun h4 => ?_) (fun h4 => ?_) | refine aIf_beq (fun h4 => ?_) (fun h4 => ?_) | refine aIf_bne (fun h4 => ?_) (fun h4 => ?_) | refine aIf_not (fun h4 => ?_) (fun h4 => ?_) | refine aIf_mk (fun h4 => ?_) (fun h4 => ?_)
      · rw [show addN q key body = (([], 0, 0), 0, 17) by rw [addN, if_neg (by rw [hg]; simp), if_neg hlen, if_pos h4]]
        conv => whnf
        refine ⟨[], _, _, ?_, rfl, rfl⟩
        repeat' (first | exact trivial | exact rfl | exact .inl rfl | (exact .inr rfl) | refine And.intro ?_ ?_)
      · conv => whnf
        refine ⟨AD, ⟨fun x => adInv q.1 (decide ((q.1.length : Int) < 64)) x, fun x => ([(1, .str key), (2, .str body), (3, .ptr 0 0), (6, .ptr 1 0), (8, .own tJob 2 x.f), (9, .bool x.off), (31, .sl tJob q.1 false), (32, .int .i64 (q.1.length : Int)), (33, .int .i64 (x.i : Int))],
          [.var [.sl tJob q.1 false, .int .i64 q.2.1, .int .i64 q.2.2], .var [.sl tJob [] true, .int .i64 0, .int .i64 0], .arr tJob x.acc true]), fun x => q.1.length - x.i⟩, ⟨0, [], decide ((q.1.length : Int) < 64), true⟩, [], [.old 0, .old 1, .old 2], ⟨Nat.zero_le _, rfl, Nat.le_refl _⟩, ?_, fun x hx => ?_⟩
        · repeat' (first | exact trivial | exact rfl | exact .inl rfl | (exact .inr rfl) | refine And.intro ?_ ?_)
        · obtain ⟨x1, x2, x3⟩ : adInv q.1 (decide ((q.1.length : Int) < 64)) x := hx
          rw [rmv_room g2] at x2
          obtain ⟨i, acc, off, f⟩ := x
          conv => whnf
          first | refine aIf_dec (fun h5 => ?_) (fun h5 => ?_) | refine aIf_beq (fun h5 => ?_) (fun h5 => ?_) | refine aIf_bne (fun h5 => ?_) (fun h5 => ?_) | refine aIf_not (fun h5 => ?_) (fun h5 => ?_) | refine aIf_mk (fun h5 => ?_) (fun h5 => ?_)
          · have hlt : i < q.1.length := by
              have : (i : Int) < (q.1.length : Int) := h5
              omega
            have hi0 : (0 : Int) ≤ (i : Int) := by omega
            have x2' : acc ++ rmv off (q.1.drop i) = roomL q.1 := x2
            have x3' : acc.length ≤ i := x3
            rw [rmv_drop hlt] at x2'
            conv => whnf
            refine And.intro hi0 (And.intro h5 ?_)
            rw [show ((i : Int)).toNat = i from rfl]
            obtain ⟨j, hj⟩ : ∃ j : Job, elt tJob q.1 i = j := ⟨_, rfl⟩
            rw [hj] at x2' ⊢
            conv => whnf
            refine aIf_not (fun h9 => ?_) (fun h9 => ?_)
            rotate_left
            · have h9' : off = true := h9
              subst h9'
              rw [if_neg (by simp)] at x2'
              conv => whnf
              refine And.intro (sumOk_le (m := 64) (b := 80) (by (try dsimp only); simp; omega) rfl (by decide) (by decide)) ?_
              conv => whnf
              refine ⟨⟨i + 1, acc ++ [j], true, false⟩, [], [.old 0, .old 1, .old 5], ⟨(show i + 1 ≤ q.1.length by omega), ?_, (show (acc ++ [j]).length ≤ i + 1 by simp; omega)⟩, (show q.1.length - (i + 1) < q.1.length - i by omega), ?_⟩
              rotate_left
              · repeat' (first | exact trivial | exact rfl | exact .inl rfl | (exact .inr rfl) | refine And.intro ?_ ?_)
                · exact i64_at rfl (by omega)
              · rw [rmv_room g2, ← x2']
                simp
            · have h9' : off = false := h9
              subst h9'
              conv => whnf
              first | refine aIf_dec (fun h6 => ?_) (fun h6 => ?_) | refine aIf_beq (fun h6 => ?_) (fun h6 => ?_) | refine aIf_bne (fun h6 => ?_) (fun h6 => ?_) | refine aIf_not (fun h6 => ?_) (fun h6 => ?_) | refine aIf_mk (fun h6 => ?_) (fun h6 => ?_)
              · have h6' : ended j = true := by simp [ended]; left; exact h6
                rw [if_pos ⟨rfl, h6'⟩] at x2'
                conv => whnf
                refine ⟨⟨i + 1, acc, true, f⟩, [], [.old 0, .old 1, .old 2], ⟨(show i + 1 ≤ q.1.length by omega), ?_, (show acc.length ≤ i + 1 by omega)⟩, (show q.1.length - (i + 1) < q.1.length - i by omega), ?_⟩
                · rw [rmv_room g2, ← x2']
                · repeat' (first | exact trivial | exact rfl | exact .inl rfl | (exact .inr rfl) | refine And.intro ?_ ?_)
                  exact i64_at rfl (by omega)
              · conv => whnf
                first | refine aIf_dec (fun h7 => ?_) (fun h7 => ?_) | refine aIf_beq (fun h7 => ?_) (fun h7 => ?_) | refine aIf_bne (fun h7 => ?_) (fun h7 => ?_) | refine aIf_not (fun h7 => ?_) (fun h7 => ?_) | refine aIf_mk (fun h7 => ?_) (fun h7 => ?_)
                · have h7' : ended j = true := by simp [ended]; right; exact h7
                  rw [if_pos ⟨rfl, h7'⟩] at x2'
                  conv => whnf
                  refine ⟨⟨i + 1, acc, true, f⟩, [], [.old 0, .old 1, .old 2], ⟨(show i + 1 ≤ q.1.length by omega), ?_, (show acc.length ≤ i + 1 by omega)⟩, (show q.1.length - (i + 1) < q.1.length - i by omega), ?_⟩
                  · rw [rmv_room g2, ← x2']
                  · repeat' (first | exact trivial | exact rfl | exact .inl rfl | (exact .inr rfl) | refine And.intro ?_ ?_)
                    exact i64_at rfl (by omega)
                · have h8 : ended j = false := by
                    have h6' : ¬ j.2.2.2.1 = 3 := h6
                    have h7' : ¬ j.2.2.2.1 = 4 := h7
                    simp [ended, h6', h7']
                  rw [if_neg (by rw [h8]; simp)] at x2'
                  conv => whnf
                  refine And.intro (sumOk_le (m := 64) (b := 80) (by (try dsimp only); simp; omega) rfl (by decide) (by decide)) ?_
                  conv => whnf
                  refine ⟨⟨i + 1, acc ++ [j], false, false⟩, [], [.old 0, .old 1, .old 5], ⟨(show i + 1 ≤ q.1.length by omega), ?_, (show (acc ++ [j]).length ≤ i + 1 by simp; omega)⟩, (show q.1.length - (i + 1) < q.1.length - i by omega), ?_⟩
                  rotate_left
                  · repeat' (first | exact trivial | exact rfl | exact .inl rfl | (exact .inr rfl) | refine And.intro ?_ ?_)
                    · exact i64_at rfl (by omega)
                  · rw [rmv_room g2, ← x2']
                    simp
          · have hroom : roomL q.1 = acc := by
              have x2' : acc ++ rmv off (q.1.drop i) = roomL q.1 := x2
              have h5' : ¬ (i : Int) < (q.1.length : Int) := h5
              rw [List.drop_eq_nil_of_le (by omega)] at x2'
              simpa [rmv] using x2'.symm
            have hal : acc.length ≤ 64 := by
              have x3' : acc.length ≤ i := x3
              have x1' : i ≤ q.1.length := x1
              omega
            have ha : (addN q key body).1 = (if acc.length = 64 ∨ q.2.1 = 1099511627776 then ([], 0, 0) else (acc ++ [newJ (q.2.1 + 1) key body], q.2.1 + 1, q.2.2)) ∧ (addN q key body).2.2 = (if acc.length = 64 ∨ q.2.1 = 1099511627776 then 13 else 0) := by
              rw [addN, if_neg (by rw [hg]; simp), if_neg hlen, if_neg (by rw [h4]; simp), hroom]
              split <;> exact ⟨rfl, rfl⟩
            rw [ha.1, ha.2]
            conv => whnf
            first | refine aIf_dec (fun k1 => ?_) (fun k1 => ?_) | refine aIf_beq (fun k1 => ?_) (fun k1 => ?_) | refine aIf_bne (fun k1 => ?_) (fun k1 => ?_) | refine aIf_not (fun k1 => ?_) (fun k1 => ?_) | refine aIf_mk (fun k1 => ?_) (fun k1 => ?_)
            · rw [if_pos (.inl (show acc.length = 64 by have k1' : (acc.length : Int) = 64 := k1; omega)), if_pos (.inl (show acc.length = 64 by have k1' : (acc.length : Int) = 64 := k1; omega))]
              conv => whnf
              refine ⟨[], _, _, ?_, rfl, rfl⟩
              repeat' (first | exact trivial | exact rfl | exact .inl rfl | (exact .inr rfl) | refine And.intro ?_ ?_)
            · conv => whnf
              first | refine aIf_dec (fun k2 => ?_) (fun k2 => ?_) | refine aIf_beq (fun k2 => ?_) (fun k2 => ?_) | refine aIf_bne (fun k2 => ?_) (fun k2 => ?_) | refine aIf_not (fun k2 => ?_) (fun k2 => ?_) | refine aIf_mk (fun k2 => ?_) (fun k2 => ?_)
              · rw [if_pos (.inr k2), if_pos (.inr k2)]
                conv => whnf
                refine ⟨[], _, _, ?_, rfl, rfl⟩
                repeat' (first | exact trivial | exact rfl | exact .inl rfl | (exact .inr rfl) | refine And.intro ?_ ?_)
              · have hn : ¬ (acc.length = 64 ∨ q.2.1 = 1099511627776) := by
                  have k1' : ¬ (acc.length : Int) = 64 := k1
                  have k2' : ¬ q.2.1 = 1099511627776 := k2
                  omega
                rw [if_neg hn, if_neg hn]
                have w1 : IntKind.i64.wrap (q.2.1 + 1) = q.2.1 + 1 := i64_at rfl (by omega)
                conv => whnf
                rw [w1]
                refine And.intro (sumOk_le (m := 1000) (b := 80) (by (try dsimp only); simp; omega) rfl (by decide) (by decide)) ?_
                conv => whnf
                refine ⟨[], _, _, ?_, rfl, rfl⟩
                repeat' (first | exact trivial | exact rfl | exact .inl rfl | (exact .inr rfl) | refine And.intro ?_ ?_)
end Go.Proofs.Try
