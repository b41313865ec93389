/-
  AM, part 21: what a call does over few blocks, it does over many.
-/
import Derived.Test.YtfcigmcjgaipmaaDoorBMView
namespace Go.AM
set_option linter.unusedSectionVars false
variable [Lay] [Dfr]

/-- Where a block of the few lies among the many (n: how many there are). -/
def unN (ρ : List Nat) (n k : Nat) : Nat := match ρ[k]? with | some m => m | none => n + (k - ρ.length)
def unV (ρ : List Nat) (n : Nat) : AV → AV
  | .own t b f => .own t (unN ρ n b) f
  | .ptr b j => .ptr (unN ρ n b) j
  | .mptr b => .mptr (unN ρ n b)
  | .eptr t b i j => .eptr t (unN ρ n b) i j
  | .agg cs => .agg (unL cs)
  | .tup cs => .tup (unL cs)
  | .fn f as cs => .fn f (unL as) (unL cs)
  | .iface t v => .iface t (unV ρ n v)
  | v => v
where unL : List AV → List AV
  | [] => []
  | v :: r => unV ρ n v :: unL r
def unB (ρ : List Nat) (n : Nat) : AB → AB
  | .var cs => .var (unV.unL ρ n cs)
  | x => x
def unH (ρ : List Nat) (n : Nat) : Nat → Heap → List (Nat × AB)
  | _, [] => []
  | k, x :: r => (unN ρ n k, unB ρ n x) :: unH ρ n (k + 1) r
def unR (ρ : List Nat) (n : Nat) : ARes → ARes
  | .ret v => .ret (unV ρ n v)
  | .panic v => .panic (unV ρ n v)

def liveL : Heap → Bool
  | [] => true
  | .hole :: _ => false
  | .gone :: _ => false
  | _ :: r => liveL r

section
variable {E : Env} {F : Fp} {w w' w0 : World} {I I' I0 : Nat → Nat → Prop} {h h0 h' hs hs' : Heap} {μ μ' μ0 ν : Nat → Option Nat} {a : Act} {s s' : Slots} {ρ : List Nat} {n : Nat}

theorem liveL_get : ∀ {h : Heap}, liveL h = true → ∀ (k : Nat) (x : AB), h[k]? = some x → live x
  | [], _, k, x, hx => by simp at hx
  | y :: r, hl, k, x, hx => by
    cases k with
    | zero =>
      simp at hx
      subst hx
      cases y <;> first | trivial | (simp [liveL] at hl)
    | succ k =>
      refine liveL_get (h := r) ?_ k x (by simpa using hx)
      cases y <;> first | exact hl | (simp [liveL] at hl)

theorem unL_len : ∀ (l : List AV), (unV.unL ρ n l).length = l.length
  | [] => rfl
  | v :: r => by simp [unV.unL, unL_len r]
theorem unL_get : ∀ (l : List AV) (i : Nat), (unV.unL ρ n l)[i]? = (l[i]?).map (unV ρ n)
  | [], i => by simp [unV.unL]
  | v :: r, 0 => by simp [unV.unL]
  | v :: r, i + 1 => by simpa [unV.unL] using unL_get r i

theorem hput_lt (v : AB) : ∀ (h : Heap) (b : Nat), b < h.length → (hput h b v).length = h.length
  | [], _, hb => by simp at hb
  | x :: r, 0, _ => by simp [hput]
  | x :: r, b + 1, hb => by simpa [hput] using hput_lt v r b (by simpa using hb)
theorem hput_end (v : AB) : ∀ (h : Heap), (hput h h.length v).length = h.length + 1
  | [] => rfl
  | x :: r => by simpa [hput] using hput_end v r

theorem unN_inj (hnd : nodupB (ρ.map Src.old) = true) (hlt : ∀ m ∈ ρ, m < n) {i j : Nat} (h : unN ρ n i = unN ρ n j) : i = j := by
  have lt : ∀ i m, ρ[i]? = some m → m < n := fun i m hm => hlt m (List.mem_of_getElem? hm)
  have ge : ∀ {i : Nat}, ρ[i]? = none → ρ.length ≤ i := fun hi => List.getElem?_eq_none_iff.1 hi
  unfold unN at h
  cases hi : ρ[i]? with
  | some m =>
    rw [hi] at h
    simp only at h
    cases hj : ρ[j]? with
    | some m' =>
      rw [hj] at h
      simp only at h
      subst h
      exact nodupB_get hnd i j m (by simp [hi]) (by simp [hj])
    | none =>
      rw [hj] at h
      simp only at h
      have := lt i m hi
      omega
  | none =>
    rw [hi] at h
    simp only at h
    cases hj : ρ[j]? with
    | some m' =>
      rw [hj] at h
      simp only at h
      have := lt j m' hj
      omega
    | none =>
      rw [hj] at h
      simp only at h
      have := ge hi
      have := ge hj
      omega

theorem unN_old {k m : Nat} (hk : ρ[k]? = some m) : unN ρ n k = m := by simp [unN, hk]
theorem unN_new {k : Nat} (hk : ρ.length ≤ k) : unN ρ n k = n + (k - ρ.length) := by simp [unN, List.getElem?_eq_none_iff.2 hk]

theorem unH_get (hnd : nodupB (ρ.map Src.old) = true) (hlt : ∀ m ∈ ρ, m < n) : ∀ (r : Heap) (k : Nat) (hc : Heap), hc.length = n + (k - ρ.length) →
    (∀ (j : Nat) (y : AB), r[j]? = some y → (hputs hc (unH ρ n k r))[unN ρ n (k + j)]? = some (unB ρ n y)) ∧ (∀ b, (∀ j, j < r.length → unN ρ n (k + j) ≠ b) → (hputs hc (unH ρ n k r))[b]? = hc[b]?)
  | [], k, hc, _ => ⟨fun j y hj => by simp at hj, fun b _ => rfl⟩
  | x :: r, k, hc, hl => by
    have hle : unN ρ n k ≤ hc.length ∧ (hput hc (unN ρ n k) (unB ρ n x)).length = n + (k + 1 - ρ.length) := by
      by_cases hk : k < ρ.length
      · have e : ρ[k]? = some ρ[k] := List.getElem?_eq_getElem hk
        rw [unN_old e]
        have := hlt ρ[k] (List.getElem_mem hk)
        rw [hput_lt _ _ _ (by omega)]
        omega
      · rw [unN_new (by omega), ← hl, hput_end]
        omega
    obtain ⟨ih1, ih2⟩ := unH_get hnd hlt r (k + 1) (hput hc (unN ρ n k) (unB ρ n x)) hle.2
    have e0 : (hput hc (unN ρ n k) (unB ρ n x))[unN ρ n k]? = some (unB ρ n x) := by rw [hput_get _ _ _ _ hle.1, if_pos rfl]
    refine ⟨fun j y hj => ?_, fun b hb => ?_⟩
    · cases j with
      | zero =>
        simp at hj
        subst hj
        simp only [unH, hputs, Nat.add_zero]
        rw [ih2 _ fun j hj e => by have := unN_inj hnd hlt e; omega]
        exact e0
      | succ j =>
        have := ih1 j y (by simpa using hj)
        simp only [unH, hputs]
        rwa [show k + (j + 1) = k + 1 + j by omega]
    · simp only [unH, hputs]
      rw [ih2 b fun j hj e => hb (j + 1) (by simpa using hj) (by rw [← e]; congr 1; omega)]
      rw [hput_get _ _ _ _ hle.1, if_neg]
      rintro rfl
      exact hb 0 (by simp) rfl

def WrB (x : Option AB) (o : Nat) : Prop := (∃ cs, x = some (.var cs)) ∨ (∃ t l, x = some (.arr t l true)) ∨ (∃ t l, x = some (.arr t l false) ∧ l.length * t.sz ≤ o) ∨ (∃ k v l, x = some (.mp k v l))
theorem unB_wr {z : AB} {o : Nat} (hx : WrB (some (unB ρ n z)) o) : WrB (some z) o := by
  unfold WrB at *
  cases z with
  | hole => rcases hx with ⟨_, hx⟩ | ⟨_, _, hx⟩ | ⟨_, _, hx, _⟩ | ⟨_, _, _, hx⟩ <;> cases hx
  | gone => rcases hx with ⟨_, hx⟩ | ⟨_, _, hx⟩ | ⟨_, _, hx, _⟩ | ⟨_, _, _, hx⟩ <;> cases hx
  | mp k v l => exact hx
  | var cs => exact .inl ⟨_, rfl⟩
  | arr t l f => exact hx
theorem rw_some {h : Heap} {b o : Nat} {y : AB} (hy : h[b]? = some y) (hx : WrB (h[b]?) o) : WrB (some y) o := hy ▸ hx
theorem unB_live {y : AB} (l : live (unB ρ n y)) : live y := by cases y <;> first | trivial | exact l

/-- A value over the few blocks, told over the many. -/
theorem un_rep (P1 : ∀ (k : Nat) (y : AB), hs[k]? = some y → h[unN ρ n k]? = some (unB ρ n y)) (P2 : ∀ (k : Nat) (y : AB), hs[k]? = some y → μ (unN ρ n k) = ν k) {v : Value} {x : AV}
    (r : Rep w I hs ν v x) : Rep w I h μ v (unV ρ n x) := by
  have own : ∀ {t : Ty} {b : Nat} {full : Bool} {a : Option Addr} {m cap : Nat}, OwnAt w hs ν t b full a m cap → OwnAt w h μ t (unN ρ n b) full a m cap := by
    rintro t b full a m cap ⟨x, hx, h1, h2⟩
    refine ⟨unB ρ n x, P1 b x hx, ?_, ?_⟩
    · cases x <;> simp [unB] at h1 ⊢
    · intro t' l fr e
      have e : x = .arr t' l fr := by cases x <;> simp [unB] at e ⊢ <;> exact e
      have := h2 t' l fr e
      rw [P2 b x hx]
      exact this
  have ptr : ∀ {b g : Nat}, PtrAt hs ν b g → PtrAt h μ (unN ρ n b) g := by
    rintro b g ⟨x, hx, h1, h2⟩
    refine ⟨unB ρ n x, P1 b x hx, ?_, fun hg => ?_⟩
    · cases x <;> simp [unB] at h1 ⊢
    · rw [P2 b x hx]
      refine h2 ?_
      rintro rfl
      exact hg rfl
  induction r with
  | junk v => exact .junk v
  | t => exact .t
  | f => exact .f
  | bool b => exact .bool b
  | int k n => exact .int k n
  | str l => exact .str l
  | nilsl => exact .nilsl
  | sl t l full a n cap hr hf => exact .sl t l full a n cap hr hf
  | own t b full a n cap ho => exact .own t _ full a n cap (own ho)
  | ptr b j g hp => exact .ptr _ j g (ptr hp)
  | eptr t b i j g hp => exact .eptr t _ i j g (ptr hp)
  | iptr t x j g o cs hr hcs => exact .iptr t x j g o cs hr hcs
  | nilptr => exact .nilptr
  | agg vs cs hl hcs ih =>
    refine .agg vs _ (by rw [unL_len]; exact hl) fun i v c e1 e2 => ?_
    rw [unL_get] at e2
    cases hq : cs[i]? with
    | none => rw [hq] at e2; cases e2
    | some c0 => rw [hq] at e2; simp at e2; subst e2; exact ih i v c0 e1 hq
  | tup vs cs hl hcs ih =>
    refine .tup vs _ (by rw [unL_len]; exact hl) fun i v c e1 e2 => ?_
    rw [unL_get] at e2
    cases hq : cs[i]? with
    | none => rw [hq] at e2; cases e2
    | some c0 => rw [hq] at e2; simp at e2; subst e2; exact ih i v c0 e1 hq
  | fn f as cs xs ys ha hb h1 h2 ih1 ih2 =>
    refine .fn f as cs _ _ (by rw [unL_len]; exact ha) (by rw [unL_len]; exact hb) (fun i v c e1 e2 => ?_) (fun i v c e1 e2 => ?_)
    · rw [unL_get] at e2
      cases hq : xs[i]? with
      | none => rw [hq] at e2; cases e2
      | some c0 => rw [hq] at e2; simp at e2; subst e2; exact ih1 i v c0 e1 hq
    · rw [unL_get] at e2
      cases hq : ys[i]? with
      | none => rw [hq] at e2; cases e2
      | some c0 => rw [hq] at e2; simp at e2; subst e2; exact ih2 i v c0 e1 hq
  | nilfn => exact .nilfn
  | iface t v x hv ih => exact .iface t v _ ih
  | niliface => exact .niliface
  | mptr b g hp => exact .mptr _ g (ptr hp)
  | fmap k v l g es c hi hg hd => exact .fmap k v l g es c hi hg hd

/-- What the few blocks have turned into, laid among the many. -/
theorem lift_world {Is : Nat → Nat → Prop} (R : RelH w I μ h) (hl : liveL hs = true) (hnd : nodupB (ρ.map Src.old) = true) (hv : viewH (ρ.map Src.old) h (ρ.map Src.old) hs)
    {ν' : Nat → Option Nat} (R' : RelH w' Is ν' hs') (fr : Fr w (Wr hs (nuOf (ρ.map Src.old) μ)) I w' (Wr hs' ν') Is) (m : HM hs (nuOf (ρ.map Src.old) μ) hs' ν') :
    ∃ μ'', (∀ (v : Value) (x : AV), Rep w' Is hs' ν' v x → Rep w' Is (hputs h (unH ρ h.length 0 hs')) μ'' v (unV ρ h.length x)) ∧ RelH w' Is μ'' (hputs h (unH ρ h.length 0 hs')) ∧
      Fr w (Wr h μ) I w' (Wr (hputs h (unH ρ h.length 0 hs')) μ'') Is ∧ HM h μ (hputs h (unH ρ h.length 0 hs')) μ'' := by
  obtain ⟨Rs, hWr, V⟩ := view_rel R hv hnd
  have hlen : ρ.length = hs.length := by have := V.len; simpa using this
  -- the few as they were
  have few : ∀ (k m : Nat), ρ[k]? = some m → ∃ y, hs[k]? = some y ∧ live y ∧ viewB (ρ.map Src.old) (hget h m) y ∧ h[m]? = some (hget h m) ∧ live (hget h m) := by
    intro k m hk
    obtain ⟨y, hy, hvy⟩ := V.old k m (by simp [hk])
    have ly := liveL_get hl k y hy
    have lx := viewB_live hvy ly
    exact ⟨y, hy, ly, hvy, hget_live lx, lx⟩
  have hlt : ∀ m ∈ ρ, m < h.length := by
    intro m hm
    obtain ⟨k, hk⟩ := List.getElem?_of_mem hm
    obtain ⟨_, _, _, _, e, _⟩ := few k m hk
    exact (List.getElem?_eq_some_iff.1 e).1
  have inj : ∀ {i j : Nat}, unN ρ h.length i = unN ρ h.length j → i = j := fun e => unN_inj hnd hlt e
  have hnu : ∀ (k m : Nat), ρ[k]? = some m → nuOf (ρ.map Src.old) μ k = μ m := fun k m hk => by simp [nuOf, hk]
  have hnu0 : ∀ (k g : Nat), nuOf (ρ.map Src.old) μ k = some g → ∃ m, ρ[k]? = some m ∧ μ m = some g := by
    intro k g hg
    cases hk : ρ[k]? with
    | none => simp [nuOf, hk] at hg
    | some m => exact ⟨m, rfl, by rw [← hnu k m hk]; exact hg⟩
  have hN : hs.length ≤ hs'.length := by
    rcases Nat.lt_or_ge hs'.length hs.length with h1 | h1
    · obtain ⟨y, hy, _⟩ := m.kept hs'.length hs[hs'.length] (List.getElem?_eq_getElem h1)
      simp at hy
    · exact h1
  obtain ⟨g1, g2⟩ := unH_get hnd hlt hs' 0 h (by simp)
  simp only [Nat.zero_add] at g1 g2
  generalize hputs h (unH ρ h.length 0 hs') = h'' at g1 g2
  classical
  let μ'' : Nat → Option Nat := fun b => if hb : ∃ k, k < hs'.length ∧ unN ρ h.length k = b then ν' hb.choose else μ b
  have mu1 : ∀ k, k < hs'.length → μ'' (unN ρ h.length k) = ν' k := by
    intro k hk
    have hb : ∃ j, j < hs'.length ∧ unN ρ h.length j = unN ρ h.length k := ⟨k, hk, rfl⟩
    show (if hb : _ then _ else _) = _
    rw [dif_pos hb]
    rw [inj hb.choose_spec.2]
  have mu2 : ∀ b, (∀ k, k < hs'.length → unN ρ h.length k ≠ b) → μ'' b = μ b := by
    intro b hb
    show (if hb : _ then _ else _) = _
    rw [dif_neg]
    rintro ⟨k, h1, h2⟩
    exact hb k h1 h2
  have P2 : ∀ (k : Nat) (y : AB), hs'[k]? = some y → μ'' (unN ρ h.length k) = ν' k := fun k y hy => mu1 k (List.getElem?_eq_some_iff.1 hy).1
  -- a block of the many, behind it
  have look : ∀ (b : Nat) (y : AB), h''[b]? = some y → (∃ k z, b = unN ρ h.length k ∧ hs'[k]? = some z ∧ y = unB ρ h.length z) ∨ ((∀ k, k < hs'.length → unN ρ h.length k ≠ b) ∧ h[b]? = some y) := by
    intro b y hy
    by_cases hb : ∃ k, k < hs'.length ∧ unN ρ h.length k = b
    · obtain ⟨k, hk, rfl⟩ := hb
      have := g1 k _ (List.getElem?_eq_getElem hk)
      rw [this] at hy
      cases hy
      exact .inl ⟨k, _, rfl, List.getElem?_eq_getElem hk, rfl⟩
    · have hb' : ∀ k, k < hs'.length → unN ρ h.length k ≠ b := fun k h1 h2 => hb ⟨k, h1, h2⟩
      rw [g2 b hb'] at hy
      exact .inr ⟨hb', hy⟩
  -- a block outside does not share an address with one of the few
  have apart : ∀ (i : Nat) (x : AB) (g o : Nat), (∀ k, k < hs'.length → unN ρ h.length k ≠ i) → h[i]? = some x → live x → μ i = some g → ¬ Wr hs (nuOf (ρ.map Src.old) μ) g o := by
    rintro i x g o hi hx lx hg ⟨k, hk, hx2⟩
    obtain ⟨mm, hm, hg2⟩ := hnu0 k g hk
    obtain ⟨y, hy, ly, _, e2, lm⟩ := few k mm hm
    have := R.inj i mm x _ g hx e2 lx lm hg hg2
    subst this
    have hk' : k < hs.length := (List.getElem?_eq_some_iff.1 hy).1
    exact hi k (by omega) (unN_old hm)
  have wrO : ∀ (k : Nat) (z : AB) (g : Nat), hs'[k]? = some z → live z → ν' k = some g → ∃ o, Wr hs' ν' g o := by
    intro k z g hz lz hg
    cases z with
    | hole => cases lz
    | gone => cases lz
    | var cs => exact ⟨0, k, hg, .inl ⟨cs, hz⟩⟩
    | arr t l f =>
      cases f with
      | true => exact ⟨0, k, hg, .inr (.inl ⟨t, l, hz⟩)⟩
      | false => exact ⟨l.length * t.sz, k, hg, .inr (.inr (.inl ⟨t, l, hz, Nat.le_refl _⟩))⟩
    | mp kt vt l => exact ⟨0, k, hg, .inr (.inr (.inr ⟨kt, vt, l, hz⟩))⟩
  have mixed : ∀ (i : Nat) (x : AB) (k : Nat) (z : AB) (g : Nat), (∀ k, k < hs'.length → unN ρ h.length k ≠ i) → h[i]? = some x → live x → μ i = some g → hs'[k]? = some z → live z → ν' k = some g → False := by
    intro i x k z g hi hx lx hg hz lz hg2
    obtain ⟨o, ho⟩ := wrO k z g hz lz hg2
    rcases fr.wr g o ho with h1 | h1
    · exact apart i x g o hi hx lx hg h1
    · have := R.lt i x g hx lx hg
      omega
  have reps : ∀ (v : Value) (x : AV), Rep w' Is hs' ν' v x → Rep w' Is h'' μ'' v (unV ρ h.length x) := fun v x r => un_rep g1 P2 r
  have HMh : HM h μ h'' μ'' := by
    refine ⟨fun b x hx => ?_, fun b x y hx hy lx ly => ?_⟩
    · by_cases hb : ∃ k, k < hs'.length ∧ unN ρ h.length k = b
      · obtain ⟨k, hk, rfl⟩ := hb
        refine ⟨_, g1 k _ (List.getElem?_eq_getElem hk), ?_⟩
        have hbn : unN ρ h.length k < h.length := (List.getElem?_eq_some_iff.1 hx).1
        have hkr : k < ρ.length := by
          rcases Nat.lt_or_ge k ρ.length with h1 | h1
          · exact h1
          · rw [unN_new h1] at hbn; omega
        have ek : ρ[k]? = some ρ[k] := List.getElem?_eq_getElem hkr
        obtain ⟨y, hy, ly, hvy, e2, lm⟩ := few k _ ek
        rw [unN_old ek] at hx
        rw [e2] at hx
        cases hx
        obtain ⟨z, hz, kz⟩ := m.kept k y hy
        rw [List.getElem?_eq_getElem hk] at hz
        cases hz
        generalize hget h ρ[k] = x at hvy
        generalize hs'[k] = z at kz
        cases y with
        | hole => cases ly
        | gone => cases ly
        | var ys =>
          cases x with
          | var xs => obtain ⟨cs, rfl⟩ := kz; exact ⟨_, rfl⟩
          | _ => exact hvy.elim
        | arr t l f =>
          have hvy : x = .arr t l f := hvy
          subst hvy
          rcases kz with rfl | ⟨l', f', rfl, hl'⟩
          · exact .inl rfl
          · exact .inr ⟨l', f', rfl, hl'⟩
        | mp kt vt l =>
          have hvy : x = .mp kt vt l := hvy
          subst hvy
          rcases kz with rfl | ⟨l', rfl⟩
          · exact .inl rfl
          · exact .inr ⟨l', rfl⟩
      · refine ⟨x, by rw [g2 b fun k h1 h2 => hb ⟨k, h1, h2⟩]; exact hx, ?_⟩
        cases x with
        | hole => trivial
        | gone => rfl
        | var cs => exact ⟨cs, rfl⟩
        | arr t l f => exact .inr ⟨l, f, rfl, rfl⟩
        | mp kt vt l => exact .inr ⟨l, rfl⟩
    · rcases look b y hy with ⟨k, z, rfl, hz, rfl⟩ | ⟨hb, _⟩
      · rw [P2 k z hz]
        have hbn : unN ρ h.length k < h.length := (List.getElem?_eq_some_iff.1 hx).1
        have hkr : k < ρ.length := by
          rcases Nat.lt_or_ge k ρ.length with h1 | h1
          · exact h1
          · rw [unN_new h1] at hbn; omega
        have ek : ρ[k]? = some ρ[k] := List.getElem?_eq_getElem hkr
        obtain ⟨y0, hy0, ly0, _, _, _⟩ := few k _ ek
        rw [unN_old ek, m.mu k y0 z hy0 hz ly0 (unB_live ly), hnu k _ ek]
      · exact mu2 b hb
  refine ⟨μ'', reps, ⟨?_, ?_, ?_, ?_, R'.ilt, R'.laid⟩, ?_, HMh⟩
  · intro i j x y g hi hj lx ly gi gj
    rcases look i x hi with ⟨k, z, rfl, hz, rfl⟩ | ⟨hbi, hxi⟩
    · rw [P2 k z hz] at gi
      rcases look j y hj with ⟨k2, z2, rfl, hz2, rfl⟩ | ⟨hbj, hxj⟩
      · rw [P2 k2 z2 hz2] at gj
        rw [R'.inj k k2 z z2 g hz hz2 (unB_live lx) (unB_live ly) gi gj]
      · rw [mu2 j hbj] at gj
        exact (mixed j y k z g hbj hxj ly gj hz (unB_live lx) gi).elim
    · rw [mu2 i hbi] at gi
      rcases look j y hj with ⟨k2, z2, rfl, hz2, rfl⟩ | ⟨hbj, hxj⟩
      · rw [P2 k2 z2 hz2] at gj
        exact (mixed i x k2 z2 g hbi hxi lx gi hz2 (unB_live ly) gj).elim
      · rw [mu2 j hbj] at gj
        exact R.inj i j x y g hxi hxj lx ly gi gj
  · intro i x g hi lx gi
    rcases look i x hi with ⟨k, z, rfl, hz, rfl⟩ | ⟨hbi, hxi⟩
    · rw [P2 k z hz] at gi
      exact R'.lt k z g hz (unB_live lx) gi
    · rw [mu2 i hbi] at gi
      exact Nat.lt_of_lt_of_le (R.lt i x g hxi lx gi) fr.size
  · intro i x hi
    rcases look i x hi with ⟨k, z, rfl, hz, rfl⟩ | ⟨hbi, hxi⟩
    · have hb := R'.blk k z hz
      cases z with
      | hole => trivial
      | gone => trivial
      | var cs =>
        obtain ⟨g, vs, e, h1, h2, h3, h4⟩ := hb
        refine ⟨g, vs, e, (P2 k _ hz).trans h1, h2, by rw [unL_len]; exact h3, fun j v c e1 e2 => ?_⟩
        rw [unL_get] at e2
        cases hq : cs[j]? with
        | none => rw [hq] at e2; cases e2
        | some c0 => rw [hq] at e2; simp at e2; subst e2; exact reps _ _ (h4 j v c0 e1 hq)
      | arr t l f =>
        rcases hb with hb | ⟨g, vs, e, h1, h2, h3⟩
        · exact .inl hb
        · exact .inr ⟨g, vs, e, (P2 k _ hz).trans h1, h2, h3⟩
      | mp kt vt l =>
        exact MpAt.mono (P2 k _ hz) (fun _ _ => rfl) (fun _ _ h => h) (fun _ _ => rfl) hb
    · have hb := R.blk i x hxi
      have same : live x → ∀ g, μ i = some g → w'.heap[g]? = w.heap[g]? := fun lx g hg => fr.same g (R.lt i x g hxi lx hg) fun o => apart i x g o hbi hxi lx hg
      have hc : KeptI w I w' := ⟨fun g o u hi hu => fr.cell (fun hw => R.disj g o hi (hWr g o hw)) (R.ilt g o hi) hu, fun g hi => fr.same g (R.ilt g 0 (hi 0)) fun o hw => R.disj g o (hi o) (hWr g o hw)⟩
      cases x with
      | hole => trivial
      | gone => trivial
      | var cs => exact hb.mono HMh fr.shape hc fr.im (fun _ => mu2 i hbi) (same trivial)
      | arr t l f => exact hb.mono HMh fr.shape hc fr.im (fun _ => mu2 i hbi) (same trivial)
      | mp kt vt l => exact hb.mono HMh fr.shape hc fr.im (fun _ => mu2 i hbi) (same trivial)
  · rintro g o hi ⟨b, hb, hx⟩
    have : ∃ y, h''[b]? = some y ∧ live y := by
      rcases hx with ⟨cs, hx⟩ | ⟨t', l', hx⟩ | ⟨t', l', hx, _⟩ | ⟨_, _, _, hx⟩
      · exact ⟨_, hx, trivial⟩
      · exact ⟨_, hx, trivial⟩
      · exact ⟨_, hx, trivial⟩
      · exact ⟨_, hx, trivial⟩
    obtain ⟨y, hy, ly⟩ := this
    rcases look b y hy with ⟨k, z, rfl, hz, rfl⟩ | ⟨hbb, hxb⟩
    · rw [P2 k z hz] at hb
      refine R'.disj g o hi ⟨k, hb, ?_⟩
      rw [hz]
      exact unB_wr (rw_some hy hx)
    · rw [mu2 b hbb] at hb
      have hW : Wr h μ g o := ⟨b, hb, by rw [hy, ← hxb] at hx; exact hx⟩
      rcases fr.im' g o hi with h1 | h1 | h1
      · exact R.disj g o h1 hW
      · exact apart b y g o hbb hxb ly hb h1
      · have := R.lt b y g hxb ly hb
        omega
  · have wr : ∀ g o, Wr h'' μ'' g o → Wr h μ g o ∨ Wr hs' ν' g o := by
      rintro g o ⟨b, hb, hx⟩
      have : ∃ y, h''[b]? = some y ∧ live y := by
        rcases hx with ⟨cs, hx⟩ | ⟨t', l', hx⟩ | ⟨t', l', hx, _⟩ | ⟨_, _, _, hx⟩
        · exact ⟨_, hx, trivial⟩
        · exact ⟨_, hx, trivial⟩
        · exact ⟨_, hx, trivial⟩
        · exact ⟨_, hx, trivial⟩
      obtain ⟨y, hy, ly⟩ := this
      rcases look b y hy with ⟨k, z, rfl, hz, rfl⟩ | ⟨hbb, hxb⟩
      · rw [P2 k z hz] at hb
        refine .inr ⟨k, hb, ?_⟩
        rw [hz]
        exact unB_wr (rw_some hy hx)
      · rw [mu2 b hbb] at hb
        exact .inl ⟨b, hb, by rw [hy, ← hxb] at hx; exact hx⟩
    refine ⟨fr.os, fr.tape, fr.output, fr.size, fun g hg hn => fr.same g hg fun o ho => hn o (hWr g o ho), fun g vs e fz hg hv => ?_, fr.nf, fun g o hw => ?_, fr.im, fun g o hi => ?_⟩
    · obtain ⟨vs', q1, q2, q3⟩ := fr.part g vs e fz hg hv
      exact ⟨vs', q1, q2, fun o ho => q3 o fun hw => ho (hWr g o hw)⟩
    · rcases wr g o hw with h1 | h1
      · exact .inl h1
      · exact (fr.wr g o h1).imp (hWr g o) id
    · exact (fr.im' g o hi).imp id fun h1 => h1.imp (hWr g o) id

theorem ACall.lift {f : FuncId} {args args' : List AV} {Q : ARes → Heap → Prop} (c : ACall E f args' hs Q) (hb : (liveL hs && nodupB (ρ.map Src.old)) = true) (hv : viewH (ρ.map Src.old) h (ρ.map Src.old) hs)
    (ha : viewV.viewL (ρ.map Src.old) args args') : ACall E f args h (fun r h'' => ∃ r' hs', Q r' hs' ∧ r = unR ρ h.length r' ∧ h'' = hputs h (unH ρ h.length 0 hs')) := by
  unfold ACall at c ⊢
  simp only [Bool.and_eq_true] at hb
  refine ⟨c.1, fun w I μ vs R hcr => ?_⟩
  obtain ⟨Rs, _, V⟩ := view_rel R hv hb.2
  obtain ⟨e1, e2⟩ := viewL_get args' args ha
  have hcr' : CRep w I hs (nuOf (ρ.map Src.old) μ) vs.toList args' := by
    refine ⟨hcr.1.trans e1, fun k v x hvk hxk => ?_⟩
    have hk : k < args.length := by
      have := (List.getElem?_eq_some_iff.1 hxk).1
      omega
    exact V.rep (hcr.2 k v _ hvk (List.getElem?_eq_getElem hk)) (e2 k _ x (List.getElem?_eq_getElem hk) hxk)
  refine (c.2 w I _ vs Rs hcr').mono fun e w' hp => ?_
  obtain ⟨r', hs', Is, ν', hq, he, hR, hF, hM⟩ := hp
  obtain ⟨μ'', q1, q2, q3, q4⟩ := lift_world R hb.1 hb.2 hv hR hF hM
  refine ⟨unR ρ h.length r', _, Is, μ'', ⟨r', hs', hq, rfl, rfl⟩, ?_, q2, q3, q4⟩
  cases e with
  | returned v => cases r' with
    | ret x => exact q1 _ _ he
    | panic x => exact he.elim
  | panicked chain => cases r' with
    | ret x => exact he.elim
    | panic x => obtain ⟨v, h1, h2⟩ := he; exact ⟨v, h1, q1 _ _ h2⟩
  | outgrown => cases r' <;> exact he.elim
end
end Go.AM
