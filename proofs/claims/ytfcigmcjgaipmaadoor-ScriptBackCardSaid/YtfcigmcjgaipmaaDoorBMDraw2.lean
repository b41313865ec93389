/-
  AM, part 24: whatever order is drawn.
-/
import Derived.Test.YtfcigmcjgaipmaaDoorBMDraw
namespace Go.AM
set_option linter.unusedSectionVars false
variable [Lay] [Dfr]

section
variable {E : Env} {F : Fp} {w w' w0 : World} {I I' I0 : Nat → Nat → Prop} {h h0 h' h2 hf : Heap} {μ μ' μ0 : Nat → Option Nat} {a : Act} {s s' sf : Slots} {ops : Array Oper} {B : Nat} {sts : List St}

/-! ### the check, as laws -/

theorem meetB_of {x y : List Nat} {b : Nat} (hx : b ∈ x) (hy : b ∈ y) : meetB x y = true := by
  induction x with
  | nil => cases hx
  | cons c r ih =>
    simp only [meetB, Bool.or_eq_true, List.any_eq_true]
    rcases List.mem_cons.1 hx with e | e
    · subst e; exact .inl ⟨b, hy, Nat.beq_refl b⟩
    · exact .inr (ih e)
theorem dstIn_of {d : Option Nat} {l : List Nat} {e : Nat} (hd : d = some e) (hl : e ∈ l) : dstIn d l = true := by
  subst hd
  simp only [dstIn, List.any_eq_true]
  exact ⟨e, hl, Nat.beq_refl e⟩

theorem ancOf_bit {acc : List Nat} : ∀ {es : List Nat} {i : Nat}, Nat.testBit (ancOf acc es) i = true → ∃ e ∈ es, i = e ∨ Nat.testBit (acc.getD e 0) i = true
  | [], i, hb => by simp [ancOf] at hb
  | e :: r, i, hb => by
    simp only [ancOf] at hb
    change Nat.testBit ((1 <<< e ||| acc.getD e 0) ||| ancOf acc r) i = true at hb
    rw [Nat.testBit_or, Nat.testBit_or, Bool.or_eq_true, Bool.or_eq_true] at hb
    rcases hb with (hb | hb) | hb
    · rw [Nat.one_shiftLeft, Nat.testBit_two_pow] at hb
      exact ⟨e, by simp, .inl (of_decide_eq_true hb).symm⟩
    · exact ⟨e, by simp, .inr hb⟩
    · obtain ⟨e', h1, h2⟩ := ancOf_bit hb
      exact ⟨e', by simp [h1], h2⟩

def ClosedL (ops : List Oper) (L : Nat → Prop) : Prop := ∀ k o, ops[k]? = some o → L k → ∀ e ∈ bindL o, L e

theorem ancs_bit {all : List Oper} {L : Nat → Prop} (hc : ClosedL all L) : ∀ (l : List Oper) (acc : List Nat), (∀ m, l[m]? = all[acc.length + m]?) →
    (∀ k o i, k < acc.length → all[k]? = some o → Nat.testBit (acc.getD k 0) i = true → (∀ e ∈ bindL o, L e) → L i) →
    ∀ k o i, all[k]? = some o → Nat.testBit ((ancs acc l).getD k 0) i = true → (∀ e ∈ bindL o, L e) → L i
  | [], acc, hl, ih, k, o, i, ho, hb, he => by
    simp only [ancs] at hb
    rcases Nat.lt_or_ge k acc.length with h1 | h1
    · exact ih k o i h1 ho hb he
    · simp [List.getD_eq_getElem?_getD, List.getElem?_eq_none_iff.2 h1] at hb
  | q :: r, acc, hl, ih, k, o, i, ho, hb, he => by
    simp only [ancs] at hb
    refine ancs_bit hc r (acc ++ [ancOf acc (bindL q)]) (fun m => ?_) (fun k o i hk ho hb he => ?_) k o i ho hb he
    · have := hl (m + 1)
      simp only [List.getElem?_cons_succ] at this
      rw [this]
      simp only [List.length_append, List.length_singleton]
      congr 1
      omega
    · simp only [List.length_append, List.length_singleton] at hk
      by_cases hk' : k < acc.length
      · refine ih k o i hk' ho ?_ he
        rw [List.getD_eq_getElem?_getD, List.getElem?_append_left hk'] at hb
        rw [List.getD_eq_getElem?_getD]
        exact hb
      · have hk2 : k = acc.length := by omega
        subst hk2
        rw [List.getD_eq_getElem?_getD, List.getElem?_append_right (Nat.le_refl _)] at hb
        simp at hb
        have hq : all[acc.length]? = some q := by have := hl 0; simpa using this.symm
        rw [ho] at hq
        cases hq
        obtain ⟨e, h1, h2⟩ := ancOf_bit hb
        rcases h2 with h2 | h2
        · subst h2; exact he i h1
        · rcases Nat.lt_or_ge e acc.length with h3 | h3
          · cases hq2 : all[e]? with
            | none =>
              have : all.length ≤ e := List.getElem?_eq_none_iff.1 hq2
              have := (List.getElem?_eq_some_iff.1 ho).1
              omega
            | some oe => exact ih e oe i h3 hq2 h2 (hc e oe hq2 (he e h1))
          · simp [List.getD_eq_getElem?_getD, List.getElem?_eq_none_iff.2 h3] at h2

theorem clashL_get {m : Nat} {y : Ft} : ∀ (l : List Ft) (k : Nat), clashL m y k l = true → ∀ (i : Nat) (x : Ft), l[i]? = some x → clash x y = true → Nat.testBit m (k + i) = true
  | [], _, _, i, x, hx, _ => by simp at hx
  | z :: r, k, hc, i, x, hx, hcl => by
    simp only [clashL, Bool.and_eq_true, Bool.or_eq_true, Bool.not_eq_true'] at hc
    cases i with
    | zero =>
      simp at hx
      subst hx
      rcases hc.1 with h1 | h1
      · rw [hcl] at h1; cases h1
      · exact h1
    | succ i =>
      have := clashL_get r (k + 1) hc.2 i x (by simpa using hx) hcl
      rwa [show k + (i + 1) = k + 1 + i by omega]

theorem clashesL_get {ms : List Nat} {all : List Ft} : ∀ (l : List Ft) (k : Nat), (∀ m, l[m]? = all[k + m]?) → clashesL ms all k l = true → ∀ (i j : Nat) (x y : Ft), k ≤ j → i < j → all[i]? = some x → all[j]? = some y → clash x y = true → Nat.testBit (ms.getD j 0) i = true
  | [], k, hl, _, i, j, x, y, hkj, _, _, hy, _ => by
    have := hl (j - k)
    rw [show k + (j - k) = j by omega, hy] at this
    simp at this
  | z :: r, k, hl, hc, i, j, x, y, hkj, hij, hx, hy, hcl => by
    simp only [clashesL, Bool.and_eq_true] at hc
    by_cases e : j = k
    · subst e
      have hz : z = y := by
        have := hl 0
        rw [Nat.add_zero, hy] at this
        simpa using this
      subst hz
      have := clashL_get _ 0 hc.1 i x (by rw [List.getElem?_take_of_lt hij]; exact hx) hcl
      rwa [Nat.zero_add] at this
    · exact clashesL_get r (k + 1) (fun m => by have := hl (m + 1); simp only [List.getElem?_cons_succ] at this; rw [this]; congr 1; omega) hc.2 i j x y (by omega) hij hx hy hcl

theorem backL_get : ∀ (l : List Oper) (k : Nat), backL k l = true → ∀ (i : Nat) (o : Oper), l[i]? = some o → ∀ e ∈ bindL o, e < k + i
  | [], _, _, i, o, ho, _, _ => by simp at ho
  | q :: r, k, hb, i, o, ho, e, he => by
    simp only [backL, Bool.and_eq_true] at hb
    cases i with
    | zero =>
      simp at ho
      subst ho
      have := List.all_eq_true.1 hb.1 e he
      exact Nat.le_of_ble_eq_true this
    | succ i =>
      have := backL_get r (k + 1) hb.2 i o (by simpa using ho) e he
      omega

/-- What the check gives: of two that clash the first has come where the second may. -/
theorem dOK_order {ops : List Oper} {fts : List Ft} (hd : dOK ops fts B = true) {L : Nat → Prop} (hc : ClosedL ops L) {i j : Nat} {x y : Ft} {o : Oper} (hij : i < j) (hx : fts[i]? = some x) (hy : fts[j]? = some y) (ho : ops[j]? = some o)
    (hcl : clash x y = true) (he : ∀ e ∈ bindL o, L e) : L i := by
  simp only [dOK, Bool.and_eq_true] at hd
  have hb := clashesL_get fts 0 (fun m => by simp) hd.1.2 i j x y (Nat.zero_le _) hij hx hy hcl
  exact ancs_bit hc ops [] (fun m => by simp) (fun k o i hk => by simp at hk) j o i ho hb he

/-! ### a run, by its steps -/

def Sk (sts : List St) (sf : Slots) (k : Nat) : Slots := match sts[k]? with | some st => st.s | none => sf
def Hk (sts : List St) (hf : Heap) (k : Nat) : Heap := match sts[k]? with | some st => st.h | none => hf

theorem Run.get {l : List Oper} (r : Run E ops F B l s h sts sf hf) : sts.length = l.length ∧ RefS s (Sk sts sf 0) ∧ Hk sts hf 0 = h ∧
    ∀ k st, sts[k]? = some st → l[k]? = some st.o ∧ JOK E ops F B st.o st.s st.h st.v st.ws st.f ∧ RefS (sput st.s st.o.dst st.v) (Sk sts sf (k + 1)) ∧ Hk sts hf (k + 1) = hputs st.h st.ws := by
  induction r with
  | nil s h => exact ⟨rfl, refS_refl s, rfl, fun k st hk => by simp at hk⟩
  | cons o r s s' h v ws f sts sf hf href hj hr ih =>
    obtain ⟨h1, h2, h3, h4⟩ := ih
    refine ⟨by simp [h1], href, rfl, fun k st hk => ?_⟩
    cases k with
    | zero =>
      simp at hk
      subst hk
      exact ⟨rfl, hj, h2, h3⟩
    | succ k =>
      obtain ⟨q1, q2, q3, q4⟩ := h4 k st (by simpa using hk)
      exact ⟨by simpa using q1, q2, q3, q4⟩

def dstAt (sts : List St) (j d : Nat) : Prop := ∃ st, sts[j]? = some st ∧ st.o.dst = some d
def wbAt (sts : List St) (j b : Nat) : Prop := ∃ st, sts[j]? = some st ∧ b ∈ st.f.wb
/-- Just those have come that stand ahead of k, of all that write there. -/
def upAt (L : Nat → Prop) (wr : Nat → Nat → Prop) (d k : Nat) : Prop := (∀ j, j < k → wr j d → L j) ∧ (∀ j, k ≤ j → wr j d → ¬ L j)

/-- The state when the operations L have come. -/
def DInv (F : Fp) (w0 : World) (I0 : Nat → Nat → Prop) (μ0 : Nat → Option Nat) (h0 : Heap) (B : Nat) (sts : List St) (sf : Slots) (hf : Heap) (L : Nat → Prop) (a : Act) (w : World) : Prop :=
  ∃ I μ h2, RelH w I μ h2 ∧ Fr w0 (Wr h0 μ0) I0 w (Wr h2 μ) I ∧ HM h0 μ0 h2 μ ∧ a.tmps.size = F.nt ∧ a.defers = Dfr.ds ∧ h2.length = B ∧
    (∀ d k, k ≤ sts.length → upAt L (dstAt sts) d k → Rep w I h2 μ (a.tmps.getD d undef) (lkp d (Sk sts sf k))) ∧ (∀ b k, k ≤ sts.length → upAt L (wbAt sts) b k → hget h2 b = hget (Hk sts hf k) b)

/-- What the region's steps give, all together. -/
structure Steps (E : Env) (ops : Array Oper) (F : Fp) (B : Nat) (l : List Oper) (s : Slots) (h : Heap) (sts : List St) (sf : Slots) (hf : Heap) : Prop where
  run : Run E ops F B l s h sts sf hf
  order : ∀ {L : Nat → Prop}, ClosedL l L → ∀ {i j : Nat} {x y : St}, i < j → sts[i]? = some x → sts[j]? = some y → clash x.f y.f = true → (∀ e ∈ bindL y.o, L e) → L i
  wbB : ∀ st ∈ sts, ∀ b ∈ st.f.wb, b < B
  le : hf.length ≤ B

theorem Steps.of (run : Run E ops F B ops.toList s h sts sf hf) (ok : dOK ops.toList (sts.map (·.f)) B = true) (le : hf.length ≤ B) : Steps E ops F B ops.toList s h sts sf hf where
  run := run
  order := fun hc _ _ _ y hij hx hy hcl he => dOK_order ok hc hij (by simp [hx]) (by simp [hy]) (run.get.2.2.2 _ y hy).1 hcl he
  wbB := fun st hst b hb => by
    simp only [dOK, Bool.and_eq_true] at ok
    have := List.all_eq_true.1 ok.2 st.f (List.mem_map.2 ⟨st, hst, rfl⟩)
    have := List.all_eq_true.1 this b hb
    exact Nat.le_of_ble_eq_true this
  le := le

theorem Steps.hk_le {l : List Oper} (T : Steps E ops F B l s h sts sf hf) : ∀ m k, k + m = sts.length → (Hk sts hf k).length ≤ B := by
  have grow : ∀ (ws : List (Nat × AB)) (h : Heap), h.length ≤ (hputs h ws).length := by
    have one : ∀ (h : Heap) (b : Nat) (v : AB), h.length ≤ (hput h b v).length := by
      intro h
      induction h with
      | nil => intro b v; simp
      | cons x r ih =>
        intro b v
        cases b with
        | zero => simp [hput]
        | succ b => simpa [hput] using ih b v
    intro ws
    induction ws with
    | nil => intro h; exact Nat.le_refl _
    | cons p r ih => intro h; exact Nat.le_trans (one h p.1 p.2) (ih _)
  intro m
  induction m with
  | zero =>
    intro k hk
    have : Hk sts hf k = hf := by simp [Hk, List.getElem?_eq_none_iff.2 (show sts.length ≤ k by omega)]
    rw [this]
    exact T.le
  | succ m ih =>
    intro k hk
    have hk' : k < sts.length := by omega
    obtain ⟨_, _, _, q⟩ := T.run.get.2.2.2 k _ (List.getElem?_eq_getElem hk')
    have := ih (k + 1) (by omega)
    rw [q] at this
    have e : Hk sts hf k = sts[k].h := by simp [Hk, List.getElem?_eq_getElem hk']
    rw [e]
    exact Nat.le_trans (grow _ _) this

/-- One more comes. -/
theorem dinv_step {l : List Oper} (T : Steps E ops F B l s h sts sf hf) {L : Nat → Prop} (hc : ClosedL l L) {i : Nat} {o : Oper} (ho : l[i]? = some o) (hi : ¬ L i) (he : ∀ e ∈ bindL o, L e) (D : DInv F w0 I0 μ0 h0 B sts sf hf L a w)
    {next : Act → World → Prop} {Q : Exit → Act → World → Prop} (hn : ∀ a w, DInv F w0 I0 μ0 h0 B sts sf hf (fun k => L k ∨ k = i) a w → next a w) :
    if Region.wanted o (yielded ops a.tmps) then o.wp E.P a w next Q ∨ (o.asks E.P a w ∧ LetsOut Q) else next (a.put o.dst undef) w := by
  obtain ⟨g1, _, _, g4⟩ := T.run.get
  have hin : i < sts.length := by
    rw [g1]
    exact (List.getElem?_eq_some_iff.1 ho).1
  have hst : sts[i]? = some sts[i] := List.getElem?_eq_getElem hin
  generalize hste : sts[i] = st at hst
  obtain ⟨e1, J, e3, e4⟩ := g4 i st hst
  have eo : st.o = o := by
    rw [ho] at e1
    exact (Option.some.inj e1).symm
  subst eo
  obtain ⟨j1, j2, j3, J⟩ := J
  obtain ⟨I, μ, h2, R, fr, hm, hnt, hnd, hlen, hS, hH⟩ := D
  have eS : Sk sts sf i = st.s := by simp [Sk, hst]
  have eH : Hk sts hf i = st.h := by simp [Hk, hst]
  -- those ahead that clash have come, those behind have not
  have before : ∀ j x, j < i → sts[j]? = some x → clash x.f st.f = true → L j := fun j x hj hx hcl => T.order hc hj hx hst hcl he
  have behind : ∀ j x, i < j → sts[j]? = some x → clash st.f x.f = true → ¬ L j := by
    intro j x hj hx hcl hL
    have hx' := (g4 j x hx).1
    exact hi (T.order hc hj hst hx hcl (hc j x.o hx' hL))
  have upR : ∀ d ∈ st.f.rd, upAt L (dstAt sts) d i := by
    intro d hd
    refine ⟨fun j hj ⟨x, hx, hxd⟩ => before j x hj hx ?_, fun j hj ⟨x, hx, hxd⟩ => ?_⟩
    · have := (g4 j x hx).2.1.2.1
      simp [clash, dstIn_of (this.trans hxd) hd]
    · by_cases e : i = j
      · subst e; exact hi
      · have := (g4 j x hx).2.1.2.1
        exact behind j x (by omega) hx (by simp [clash, dstIn_of (this.trans hxd) hd])
  have upB : ∀ b, b ∈ st.f.br ∨ b ∈ st.f.wb → upAt L (wbAt sts) b i := by
    intro b hb
    refine ⟨fun j hj ⟨x, hx, hxb⟩ => before j x hj hx ?_, fun j hj ⟨x, hx, hxb⟩ => ?_⟩
    · rcases hb with hb | hb
      · simp [clash, meetB_of hxb hb]
      · simp [clash, meetB_of hxb hb]
    · by_cases e : i = j
      · subst e; exact hi
      · refine behind j x (by omega) hx ?_
        rcases hb with hb | hb
        · simp [clash, meetB_of hxb hb]
        · simp [clash, meetB_of hb hxb]
  have hle : st.h.length ≤ B := by rw [← eH]; exact T.hk_le (sts.length - i) i (by omega)
  have hwb : ∀ p ∈ st.ws, p.1 < B := fun p hp => T.wbB st (List.mem_of_getElem? hst) p.1 (j3 p hp)
  refine J h2 w I μ a R hlen hle (fun b hb => by rw [hH b i (by omega) (upB b hb), eH]) hnd (fun d hd => by have := hS d i (by omega) (upR d hd); rwa [eS] at this) next Q fun v' w' I' μ' hrep hR hF hM => ?_
  refine hn _ _ ⟨I', μ', hputs h2 st.ws, hR, fr.trans hF, hm.trans hM, by cases st.o.dst <;> simp [Act.put, hnt], by cases st.o.dst <;> exact hnd, ?_, fun d k hk up => ?_, fun b k hk up => ?_⟩
  · rw [hputs_len _ _ fun p hp => by rw [hlen]; exact hwb p hp, hlen]
  · by_cases hdi : st.o.dst = some d
    · -- it is the one that was written now
      have hik : i < k := by
        rcases Nat.lt_or_ge i k with h1 | h1
        · exact h1
        · exact absurd (.inr rfl) (up.2 i h1 ⟨st, hst, hdi⟩)
      have no : ∀ j, i < j → j < k → ¬ dstAt sts j d := by
        rintro j h1 h2 ⟨x, hx, hxd⟩
        rcases up.1 j h2 ⟨x, hx, hxd⟩ with h3 | h3
        · refine behind j x h1 hx ?_ h3
          have e5 := (g4 j x hx).2.1.2.1
          simp [clash, dstEq, j2, hdi, e5, hxd]
        · omega
      have chain : ∀ m, i + 1 + m ≤ k → Rep w' I' (hputs h2 st.ws) μ' ((a.put st.o.dst v').tmps.getD d undef) (lkp d (Sk sts sf (i + 1 + m))) := by
        intro m
        induction m with
        | zero =>
          intro _
          refine e3 _ _ _ _ d _ ?_
          have hdlt : d < a.tmps.size := by rw [hnt]; exact j1 d hdi
          have ev : (a.put st.o.dst v').tmps.getD d undef = v' := by
            rw [hdi]; simp [Act.put, hdlt]
          have el : lkp d (sput st.s st.o.dst st.v) = st.v := by rw [hdi]; simp [sput, lkp]
          rw [ev, el]
          exact hrep
        | succ m ih =>
          intro hm
          have hj : i + 1 + m < sts.length := by omega
          obtain ⟨_, _, q3, _⟩ := g4 (i + 1 + m) _ (List.getElem?_eq_getElem hj)
          have := ih (by omega)
          have eSk : Sk sts sf (i + 1 + m) = sts[i + 1 + m].s := by simp [Sk, List.getElem?_eq_getElem hj]
          rw [eSk] at this
          have nd : sts[i + 1 + m].o.dst ≠ some d := fun e => no (i + 1 + m) (by omega) (by omega) ⟨_, List.getElem?_eq_getElem hj, e⟩
          refine q3 _ _ _ _ d _ ?_
          have el : lkp d (sput sts[i + 1 + m].s sts[i + 1 + m].o.dst sts[i + 1 + m].v) = lkp d sts[i + 1 + m].s := by
            cases hq : sts[i + 1 + m].o.dst with
            | none => rfl
            | some e =>
              have hne : d ≠ e := by rintro rfl; exact nd hq
              simp only [sput, lkp]
              cases hb : Nat.beq d e with
              | true => exact absurd (Nat.eq_of_beq_eq_true hb) hne
              | false => rfl
          rw [el]
          exact this
      have := chain (k - (i + 1)) (by omega)
      rwa [show i + 1 + (k - (i + 1)) = k by omega] at this
    · have up' : upAt L (dstAt sts) d k := by
        refine ⟨fun j hj hw => (up.1 j hj hw).resolve_right ?_, fun j hj hw hL => up.2 j hj hw (.inl hL)⟩
        rintro rfl
        obtain ⟨x, hx, hxd⟩ := hw
        rw [hst] at hx
        cases hx
        exact hdi hxd
      have := (hS d k hk up').step R hF hM
      have ev : (a.put st.o.dst v').tmps.getD d undef = a.tmps.getD d undef := by
        cases hq : st.o.dst with
        | none => rfl
        | some e =>
          have hne : e ≠ d := by rintro rfl; exact hdi hq
          simp [Act.put, Array.getElem?_setIfInBounds_ne hne]
      rw [ev]
      exact this
  · by_cases hbi : b ∈ st.f.wb
    · have hik : i < k := by
        rcases Nat.lt_or_ge i k with h1 | h1
        · exact h1
        · exact absurd (.inr rfl) (up.2 i h1 ⟨st, hst, hbi⟩)
      have no : ∀ j, i < j → j < k → ¬ wbAt sts j b := by
        rintro j h1 h2 ⟨x, hx, hxb⟩
        rcases up.1 j h2 ⟨x, hx, hxb⟩ with h3 | h3
        · exact behind j x h1 hx (by simp [clash, meetB_of hbi hxb]) h3
        · omega
      have chain : ∀ m, i + 1 + m ≤ k → hget (hputs h2 st.ws) b = hget (Hk sts hf (i + 1 + m)) b := by
        intro m
        induction m with
        | zero =>
          intro _
          rw [Nat.add_zero, e4]
          refine hget_hputs_eq _ _ _ b (.inr ?_)
          rw [hH b i (by omega) (upB b (.inr hbi)), eH]
        | succ m ih =>
          intro hm
          have hj : i + 1 + m < sts.length := by omega
          obtain ⟨_, q2, _, q4⟩ := g4 (i + 1 + m) _ (List.getElem?_eq_getElem hj)
          rw [show i + 1 + (m + 1) = i + 1 + m + 1 by omega, q4, ih (by omega)]
          have eHk : Hk sts hf (i + 1 + m) = sts[i + 1 + m].h := by simp [Hk, List.getElem?_eq_getElem hj]
          rw [eHk, hget_hputs_ne]
          intro hmem
          obtain ⟨p, hp, rfl⟩ := List.mem_map.1 hmem
          exact no (i + 1 + m) (by omega) (by omega) ⟨_, List.getElem?_eq_getElem hj, q2.2.2.1 p hp⟩
      have := chain (k - (i + 1)) (by omega)
      rwa [show i + 1 + (k - (i + 1)) = k by omega] at this
    · have up' : upAt L (wbAt sts) b k := by
        refine ⟨fun j hj hw => (up.1 j hj hw).resolve_right ?_, fun j hj hw hL => up.2 j hj hw (.inl hL)⟩
        rintro rfl
        obtain ⟨x, hx, hxd⟩ := hw
        rw [hst] at hx
        cases hx
        exact hbi hxd
      rw [hget_hputs_ne _ _ _ fun hmem => by obtain ⟨p, hp, e⟩ := List.mem_map.1 hmem; exact hbi (e ▸ j3 p hp)]
      exact hH b k hk up'
end
end Go.AM
