/-
  AM, part 25: a drawn region, whole.
-/
import Derived.Test.YtfcigmcjgaipmaaDoorBMDraw2
namespace Go.AM
set_option linter.unusedSectionVars false
variable [Lay] [Dfr]

section
variable {E : Env} {F : Fp} {w w' w0 : World} {I I' I0 : Nat → Nat → Prop} {h h0 h' h2 hf : Heap} {μ μ' μ0 : Nat → Option Nat} {a : Act} {s s' sf : Slots} {ops : Array Oper} {B : Nat} {sts : List St}

def drawK (n0 : Nat) (K : Slots → Heap → Prop) (s : Slots) (h : Heap) : Prop := match Nat.ble n0 h.length with | true => K s h | false => False
theorem gd_both {listed : Array Bool} {i : Nat} (h : listed.getD i true = false) : listed.getD i false = false := by
  rcases Nat.lt_or_ge i listed.size with h' | h'
  · simp [h'] at h ⊢; exact h
  · simp [Array.getElem?_eq_none h'] at h
theorem gd_rep (m j : Nat) : (Array.replicate m false).getD j false = false := by
  rcases Nat.lt_or_ge j m with h | h
  · simp [h]
  · simp [Array.getD_eq_getD_getElem?, Array.getElem?_eq_none (show (Array.replicate m false).size ≤ j by simpa using h)]
theorem bindL_mem {o : Oper} {e : Nat} : e ∈ bindL o ↔ ∃ x ∈ o.after, Region.binds .any x = true ∧ x.on = e := by
  simp only [bindL, List.mem_map, List.mem_filter, Array.mem_toList_iff]
  constructor
  · rintro ⟨x, ⟨h1, h2⟩, h3⟩; exact ⟨x, h1, h2, h3⟩
  · rintro ⟨x, h1, h2, h3⟩; exact ⟨x, ⟨h1, h2⟩, h3⟩

def unl : List Bool → Nat
  | [] => 0
  | true :: r => unl r
  | false :: r => unl r + 1
theorem unl_set : ∀ (l : List Bool) (i : Nat), l[i]? = some false → unl (l.set i true) + 1 = unl l
  | [], i, h => by simp at h
  | b :: r, 0, h => by simp at h; subst h; simp [unl]
  | b :: r, i + 1, h => by
    have := unl_set r i (by simpa using h)
    cases b <;> simp [unl, this]
theorem unl_zero : ∀ (l : List Bool), unl l = 0 → ∀ (i : Nat), i < l.length → l[i]? = some true
  | [], _, i, h => by simp at h
  | true :: r, hu, 0, _ => rfl
  | true :: r, hu, i + 1, h => by simpa using unl_zero r (by simpa [unl] using hu) i (by simpa using h)
  | false :: r, hu, i, _ => by simp [unl] at hu
theorem unl_rep (n : Nat) : unl (List.replicate n false) = n := by
  induction n with
  | zero => rfl
  | succ n ih => simp [List.replicate_succ, unl, ih]

theorem dinv_start {l : List Oper} (T : Steps E ops F B l s h sts sf hf) (S : SR F w0 I0 μ0 h0 w I μ h a s) : DInv F w0 I0 μ0 h0 B sts sf hf (fun _ => False) a w := by
  obtain ⟨g1, g2, g3, g4⟩ := T.run.get
  have hle : h.length ≤ B := by rw [← g3]; exact T.hk_le sts.length 0 (by omega)
  have H1 : ∀ (b : Nat) (x : AB), h[b]? = some x → x ≠ .hole → (h ++ List.replicate (B - h.length) .hole)[b]? = some x := by
    intro b x hx _
    rw [List.getElem?_append_left (List.getElem?_eq_some_iff.1 hx).1]
    exact hx
  have H2 : ∀ (b : Nat) (x : AB), (h ++ List.replicate (B - h.length) .hole)[b]? = some x → x ≠ .hole → h[b]? = some x := by
    intro b x hx hne
    rcases Nat.lt_or_ge b h.length with h1 | h1
    · rwa [List.getElem?_append_left h1] at hx
    · rw [List.getElem?_append_right h1, List.getElem?_replicate] at hx
      split at hx
      · cases hx; exact absurd rfl hne
      · cases hx
  have hg : ∀ b, hget (h ++ List.replicate (B - h.length) .hole) b = hget h b := by
    intro b
    unfold hget
    simp only [List.getD_eq_getElem?_getD]
    rcases Nat.lt_or_ge b h.length with h1 | h1
    · rw [List.getElem?_append_left h1]
    · rw [List.getElem?_append_right h1, List.getElem?_eq_none_iff.2 h1, List.getElem?_replicate]
      split <;> rfl
  refine ⟨I, μ, h ++ List.replicate (B - h.length) .hole, S.rel.holes H1 H2, ?_, ?_, S.nt, S.nd, by simp; omega, fun d k hk up => ?_, fun b k hk up => ?_⟩
  · exact ⟨S.fr.os, S.fr.tape, S.fr.output, S.fr.size, S.fr.same, S.fr.part, S.fr.nf, fun g o hw => S.fr.wr g o (hw.holes H2), S.fr.im, S.fr.im'⟩
  · refine ⟨fun b x hx => ?_, fun b x y hx hy lx ly => S.hm.mu b x y hx (H2 b y hy (by rintro rfl; exact ly)) lx ly⟩
    obtain ⟨y, hy, k⟩ := S.hm.kept b x hx
    refine ⟨y, ?_, k⟩
    rw [List.getElem?_append_left (List.getElem?_eq_some_iff.1 hy).1]
    exact hy
  · have chain : ∀ m, m ≤ k → Rep w I h μ (a.tmps.getD d undef) (lkp d (Sk sts sf m)) := by
      intro m
      induction m with
      | zero => intro _; exact g2 _ _ _ _ d _ (S.slots d)
      | succ m ih =>
        intro hm
        have hj : m < sts.length := by omega
        obtain ⟨_, _, q3, _⟩ := g4 m _ (List.getElem?_eq_getElem hj)
        have := ih (by omega)
        have eSk : Sk sts sf m = sts[m].s := by simp [Sk, List.getElem?_eq_getElem hj]
        rw [eSk] at this
        have nd : sts[m].o.dst ≠ some d := fun e => up.1 m (by omega) ⟨_, List.getElem?_eq_getElem hj, e⟩
        refine q3 _ _ _ _ d _ ?_
        have el : lkp d (sput sts[m].s sts[m].o.dst sts[m].v) = lkp d sts[m].s := by
          cases hq : sts[m].o.dst with
          | none => rfl
          | some e =>
            have hne : d ≠ e := by rintro rfl; exact nd hq
            simp only [sput, lkp]
            cases hb : Nat.beq d e with
            | true => exact absurd (Nat.eq_of_beq_eq_true hb) hne
            | false => rfl
        rw [el]
        exact this
    exact (chain k (Nat.le_refl _)).holes H1
  · rw [hg]
    have chain : ∀ m, m ≤ k → hget h b = hget (Hk sts hf m) b := by
      intro m
      induction m with
      | zero => intro _; rw [g3]
      | succ m ih =>
        intro hm
        have hj : m < sts.length := by omega
        obtain ⟨_, q2, _, q4⟩ := g4 m _ (List.getElem?_eq_getElem hj)
        rw [q4, ih (by omega)]
        have eHk : Hk sts hf m = sts[m].h := by simp [Hk, List.getElem?_eq_getElem hj]
        rw [eHk, hget_hputs_ne]
        intro hmem
        obtain ⟨p, hp, rfl⟩ := List.mem_map.1 hmem
        exact up.1 m (by omega) ⟨_, List.getElem?_eq_getElem hj, q2.2.2.1 p hp⟩
    exact chain k (Nat.le_refl _)

theorem dinv_end (hh : h0.length ≤ hf.length) {L : Nat → Prop} (hL : ∀ k, k < sts.length → L k) (D : DInv F w0 I0 μ0 h0 B sts sf hf L a w) : ∃ I μ, SR F w0 I0 μ0 h0 w I μ hf a sf := by
  obtain ⟨I, μ, h2, R, fr, hm, hnt, hnd, hlen, hS, hH⟩ := D
  have up : ∀ (wr : Nat → Nat → Prop) (d : Nat), (∀ j e, wr j e → j < sts.length) → upAt L wr d sts.length := fun wr d hw => ⟨fun j hj _ => hL j hj, fun j hj h1 => by have := hw j d h1; omega⟩
  have hg : ∀ b, hget h2 b = hget hf b := by
    intro b
    have := hH b sts.length (Nat.le_refl _) (up _ b fun j e ⟨x, hx, _⟩ => (List.getElem?_eq_some_iff.1 hx).1)
    rwa [show Hk sts hf sts.length = hf by simp [Hk]] at this
  have H1 : ∀ (b : Nat) (x : AB), h2[b]? = some x → x ≠ .hole → hf[b]? = some x := fun b x hx hne => hget_some ((hg b).symm.trans (hget_eq hx)) hne
  have H2 : ∀ (b : Nat) (x : AB), hf[b]? = some x → x ≠ .hole → h2[b]? = some x := fun b x hx hne => hget_some ((hg b).trans (hget_eq hx)) hne
  refine ⟨I, μ, R.holes H1 H2, ?_, ?_, fun d => ?_, hnt, hnd⟩
  · exact ⟨fr.os, fr.tape, fr.output, fr.size, fr.same, fr.part, fr.nf, fun g o hw => fr.wr g o (hw.holes H2), fr.im, fr.im'⟩
  · refine ⟨fun b x hx => ?_, fun b x y hx hy lx ly => hm.mu b x y hx (H2 b y hy (by rintro rfl; exact ly)) lx ly⟩
    obtain ⟨y, hy, k⟩ := hm.kept b x hx
    by_cases e : y = .hole
    · subst e
      have hb : b < hf.length := Nat.lt_of_lt_of_le (List.getElem?_eq_some_iff.1 hx).1 hh
      refine ⟨.hole, ?_, k⟩
      rw [List.getElem?_eq_getElem hb]
      have h1 := hg b
      rw [hget_eq hy] at h1
      have h2 := hget_eq (List.getElem?_eq_getElem hb)
      rw [← h2, ← h1]
    · exact ⟨y, H1 b y hy e, k⟩
  · have := hS d sts.length (Nat.le_refl _) (up _ d fun j e ⟨x, hx, _⟩ => (List.getElem?_eq_some_iff.1 hx).1)
    rw [show Sk sts sf sts.length = sf by simp [Sk]] at this
    exact this.holes H1

theorem draw_any (T : Steps E ops F B ops.toList s h sts sf hf) (hbk : backL 0 ops.toList = true) {Q : Exit → Act → World → Prop} (hQ : ∀ a w (L : Nat → Prop), (∀ k, k < sts.length → L k) → DInv F w0 I0 μ0 h0 B sts sf hf L a w → Q .normal a w) :
    ∀ (fuel : Nat) (listed : Array Bool) (a : Act) (w : World), listed.size = ops.size → ClosedL ops.toList (fun k => listed.getD k false = true) → unl listed.toList ≤ fuel →
    DInv F w0 I0 μ0 h0 B sts sf hf (fun k => listed.getD k false = true) a w → wpAny E.P .any ops Q fuel listed a w := by
  have hn : sts.length = ops.size := by have := T.run.get.1; simpa using this
  have hback : ∀ (i : Nat) (o : Oper), ops[i]? = some o → ∀ e ∈ bindL o, e < i := by
    intro i o ho e he
    have := backL_get ops.toList 0 hbk i o (by simpa using ho) e he
    omega
  -- nothing may come: all have
  have fin : ∀ (listed : Array Bool), listed.size = ops.size → Region.ready .any ops listed = [] → ∀ k, k < sts.length → listed.getD k false = true := by
    intro listed hs hr k
    induction k using Nat.strongRecOn with
    | _ k ih =>
      intro hk
      cases hl : listed.getD k false with
      | true => rfl
      | false =>
        exfalso
        have hko : k < ops.size := by omega
        have hmem : k ∈ Region.ready .any ops listed := by
          refine mem_ready.2 ⟨?_, ops[k], Array.getElem?_eq_getElem hko, fun e he hb => ?_⟩
          · have hkl : k < listed.size := by omega
            simp [hkl] at hl ⊢
            exact hl
          · have := hback k ops[k] (Array.getElem?_eq_getElem hko) e.on (bindL_mem.2 ⟨e, he, hb, rfl⟩)
            exact ih e.on this (by omega)
        rw [hr] at hmem
        cases hmem
  intro fuel
  induction fuel with
  | zero =>
    intro listed a w hs hc hu D
    have hall : ∀ k, k < sts.length → listed.getD k false = true := by
      intro k hk
      have hkl : k < listed.toList.length := by simp; omega
      have := unl_zero listed.toList (by omega) k hkl
      have : listed[k]? = some true := by simpa using this
      simp [Array.getD_eq_getD_getElem?, this]
    refine ⟨?_, hQ a w _ hall D⟩
    apply List.eq_nil_iff_forall_not_mem.2
    intro j hj
    obtain ⟨h1, o, ho, _⟩ := mem_ready.1 hj
    have hjo := (Array.getElem?_eq_some_iff.1 ho).1
    have h2 := hall j (by omega)
    have hjl : j < listed.size := by omega
    simp [hjl] at h1 h2
    rw [h1] at h2
    cases h2
  | succ fuel ih =>
    intro listed a w hs hc hu D
    refine ⟨fun hr => hQ a w _ (fin listed hs hr) D, fun i hi => ?_⟩
    obtain ⟨h1, o, ho, hall⟩ := mem_ready.1 hi
    have hio := (Array.getElem?_eq_some_iff.1 ho).1
    have hil : i < listed.size := by omega
    have he : ∀ e ∈ bindL o, listed.getD e false = true := by
      intro e he
      obtain ⟨x, hx, hb, rfl⟩ := bindL_mem.1 he
      exact hall x hx hb
    have hset : (fun k => (listed.setIfInBounds i true).getD k false = true) = (fun k => listed.getD k false = true ∨ k = i) := by
      funext k
      apply propext
      by_cases e : k = i
      · subst e
        simp [hil]
      · rw [getD_set_ne false (fun e' => e e'.symm)]
        simp [e]
    unfold wpOp
    simp only [ho]
    refine dinv_step T hc (by simpa using ho) (by rw [gd_both h1]; simp) he D fun a' w' D' => ih (listed.setIfInBounds i true) a' w' (by simp [hs]) ?_ ?_ (by rw [hset]; exact D')
    · rw [hset]
      intro k ok hk hL e hee
      rcases hL with hL | rfl
      · exact .inl (hc k ok hk hL e hee)
      · have : ok = o := by
          have h3 : ops[k]? = some ok := by simpa using hk
          rw [ho] at h3
          exact (Option.some.inj h3).symm
        subst this
        exact .inl (he e hee)
    · have hf' : listed.toList[i]? = some false := by
        have := gd_both h1
        simp [hil] at this
        simp [hil, this]
      have := unl_set listed.toList i hf'
      simp only [Array.toList_setIfInBounds]
      omega

/-- Up to a panic. -/
theorem draw_panic {l1 r : List Oper} {o : Oper} {X : AV → Heap → Prop} (T : Steps E ops F B l1 s h sts sf hf) (hl : ops.toList = l1 ++ o :: r) (href : RefS sf s') (hpj : PJ E ops o s' hf X) (hok : pOK E ops.toList (sts.map (·.f)) o B hf = true)
    (hh : h0.length ≤ hf.length) {Q : Exit → Act → World → Prop} (hQ : ∀ a w I μ h v x, SR F w0 I0 μ0 h0 w I μ h a [] → Rep w I h μ v x → X x h → Q (.panic [{ v, recovered := false }]) a w) :
    ∀ (fuel : Nat) (listed : Array Bool) (a : Act) (w : World), listed.size = ops.size → ClosedL ops.toList (fun k => listed.getD k false = true) → unl listed.toList ≤ fuel → (∀ k, listed.getD k false = true → k < sts.length) →
    DInv F w0 I0 μ0 h0 B sts sf hf (fun k => listed.getD k false = true) a w → wpAny E.P .any ops Q fuel listed a w := by
  have hlen := T.run.get.1
  simp only [pOK, Bool.and_eq_true, List.length_map] at hok
  obtain ⟨⟨⟨hbk, hdk⟩, hfB⟩, hlater⟩ := hok
  have hop : ops.toList[sts.length]? = some o := by rw [hl, hlen, List.getElem?_append_right (Nat.le_refl _)]; simp
  have hpsz : sts.length < ops.size := by simpa using (List.getElem?_eq_some_iff.1 hop).1
  have hback : ∀ (i : Nat) (o : Oper), ops[i]? = some o → ∀ e ∈ bindL o, e < i := by
    intro i o ho e he
    have := backL_get ops.toList 0 hbk i o (by simpa using ho) e he
    omega
  have htake : ∀ k, k < sts.length → l1[k]? = ops.toList[k]? := by
    intro k hk
    rw [hl, List.getElem?_append_left (by omega)]
  -- what stands behind it waits for it
  have late : ∀ (L : Nat → Prop), ClosedL ops.toList L → ∀ i oi, sts.length < i → ops[i]? = some oi → (∀ e ∈ bindL oi, L e) → L sts.length := by
    intro L hc i oi hi ho he
    have hb : Nat.testBit ((ancs [] ops.toList).getD i 0) sts.length = true := by
      have hlenA : ∀ (l : List Oper) (acc : List Nat), (ancs acc l).length = acc.length + l.length := by
        intro l
        induction l with
        | nil => intro acc; simp [ancs]
        | cons q r ih => intro acc; simp only [ancs, ih, List.length_append, List.length_cons, List.length_nil]; omega
      have hi2 : i < (ancs [] ops.toList).length := by rw [hlenA]; simpa using (Array.getElem?_eq_some_iff.1 ho).1
      have := List.all_eq_true.1 hlater ((ancs [] ops.toList)[i]) (by
        refine List.mem_of_getElem? (i := i - (sts.length + 1)) ?_
        rw [List.getElem?_drop, show sts.length + 1 + (i - (sts.length + 1)) = i by omega, List.getElem?_eq_getElem hi2])
      rw [List.getD_eq_getElem?_getD, List.getElem?_eq_getElem hi2]
      exact this
    exact ancs_bit hc ops.toList [] (fun m => by simp) (fun k o i hk => by simp at hk) i oi sts.length (by simpa using ho) hb he
  -- something may come always
  have fin : ∀ (listed : Array Bool), listed.size = ops.size → Region.ready .any ops listed = [] → ∀ k, k < ops.size → listed.getD k false = true := by
    intro listed hs hr k
    induction k using Nat.strongRecOn with
    | _ k ih =>
      intro hk
      cases hl : listed.getD k false with
      | true => rfl
      | false =>
        exfalso
        have hmem : k ∈ Region.ready .any ops listed := by
          refine mem_ready.2 ⟨?_, ops[k], Array.getElem?_eq_getElem hk, fun e he hb => ?_⟩
          · have hkl : k < listed.size := by omega
            simp [hkl] at hl ⊢
            exact hl
          · have := hback k ops[k] (Array.getElem?_eq_getElem hk) e.on (bindL_mem.2 ⟨e, he, hb, rfl⟩)
            exact ih e.on this (by omega)
        rw [hr] at hmem
        cases hmem
  -- it comes
  have comes : ∀ (L : Nat → Prop) (a : Act) (w : World), ClosedL ops.toList L → (∀ k, L k → k < sts.length) → (∀ e ∈ bindL o, L e) → DInv F w0 I0 μ0 h0 B sts sf hf L a w → ∀ (next : Act → World → Prop),
      if Region.wanted o (yielded ops a.tmps) then o.wp E.P a w next Q ∨ (o.asks E.P a w ∧ LetsOut Q) else next (a.put o.dst undef) w := by
    intro L a w hc hL he D next
    obtain ⟨I, μ, h2, R, fr, hm, hnt, hnd, hl2, hS, hH⟩ := D
    have hcl : ClosedL (ops.toList.take (sts.length + 1)) L := by
      intro k ok hk hLk e hee
      have hk' : ops.toList[k]? = some ok := by
        rw [List.getElem?_take] at hk
        split at hk
        · exact hk
        · cases hk
      exact hc k ok hk' hLk e hee
    have ord : ∀ j x, sts[j]? = some x → clash x.f ⟨rdOf E ops.toList o, none, List.range B, []⟩ = true → L j := by
      intro j x hx hcx
      have hj := (List.getElem?_eq_some_iff.1 hx).1
      refine dOK_order hdk hcl (i := j) (j := sts.length) (x := x.f) (y := ⟨rdOf E ops.toList o, none, List.range B, []⟩) (o := o) hj ?_ ?_ ?_ hcx he
      · rw [List.getElem?_append_left (by simpa using hj)]
        simp [hx]
      · rw [List.getElem?_append_right (by simp)]
        simp
      · rw [List.getElem?_take, if_pos (by omega)]
        exact hop
    have eH : Hk sts hf sts.length = hf := by simp [Hk]
    have eS : Sk sts sf sts.length = sf := by simp [Sk]
    have hg : ∀ b, hget h2 b = hget hf b := by
      intro b
      have := hH b sts.length (Nat.le_refl _) ⟨fun j hj ⟨x, hx, hb⟩ => ord j x hx (by
        have hbB := T.wbB x (List.mem_of_getElem? hx) b hb
        simp [clash, meetB_of hb (List.mem_range.2 hbB)]), fun j hj _ hLj => by have := hL j hLj; omega⟩
      rwa [eH] at this
    have H1 : ∀ (b : Nat) (x : AB), h2[b]? = some x → x ≠ .hole → hf[b]? = some x := fun b x hx hne => hget_some ((hg b).symm.trans (hget_eq hx)) hne
    have H2 : ∀ (b : Nat) (x : AB), hf[b]? = some x → x ≠ .hole → h2[b]? = some x := fun b x hx hne => hget_some ((hg b).trans (hget_eq hx)) hne
    have R' := R.holes H1 H2
    have fr' : Fr w0 (Wr h0 μ0) I0 w (Wr hf μ) I := ⟨fr.os, fr.tape, fr.output, fr.size, fr.same, fr.part, fr.nf, fun g o hw => fr.wr g o (hw.holes H2), fr.im, fr.im'⟩
    have hm' : HM h0 μ0 hf μ := by
      refine ⟨fun b x hx => ?_, fun b x y hx hy lx ly => hm.mu b x y hx (H2 b y hy (by rintro rfl; exact ly)) lx ly⟩
      obtain ⟨y, hy, k⟩ := hm.kept b x hx
      by_cases e : y = .hole
      · subst e
        have hb : b < hf.length := Nat.lt_of_lt_of_le (List.getElem?_eq_some_iff.1 hx).1 hh
        refine ⟨.hole, ?_, k⟩
        rw [List.getElem?_eq_getElem hb]
        have h1 := hg b
        rw [hget_eq hy] at h1
        have h2 := hget_eq (List.getElem?_eq_getElem hb)
        rw [← h2, ← h1]
      · exact ⟨y, H1 b y hy e, k⟩
    refine hpj w I μ a R' (fun d hd => ?_) next Q fun v' x w' I' μ' h' q1 q2 q3 q4 q5 => ?_
    · refine href _ _ _ _ d _ ?_
      have := hS d sts.length (Nat.le_refl _) ⟨fun j hj ⟨x, hx, hxd⟩ => ord j x hx (by
        have := (T.run.get.2.2.2 j x hx).2.1.2.1
        simp [clash, dstIn_of (this.trans hxd) hd]), fun j hj _ hLj => by have := hL j hLj; omega⟩
      rw [eS] at this
      exact this.holes H1
    · exact hQ a w' I' μ' h' v' x ⟨q2, fr'.trans q3, hm'.trans q4, fun i => .junk _, hnt, hnd⟩ q1 q5
  intro fuel
  induction fuel with
  | zero =>
    intro listed a w hs hc hu hlt D
    have hkl : sts.length < listed.toList.length := by simp; omega
    have := unl_zero listed.toList (by omega) sts.length hkl
    have : listed[sts.length]? = some true := by simpa using this
    have := hlt sts.length (by simp [Array.getD_eq_getD_getElem?, this])
    omega
  | succ fuel ih =>
    intro listed a w hs hc hu hlt D
    refine ⟨fun hr => ?_, fun i hi => ?_⟩
    · have := hlt sts.length (fin listed hs hr sts.length hpsz)
      omega
    · obtain ⟨h1, oi, ho, hall⟩ := mem_ready.1 hi
      have hio := (Array.getElem?_eq_some_iff.1 ho).1
      have hil : i < listed.size := by omega
      have he : ∀ e ∈ bindL oi, listed.getD e false = true := by
        intro e he
        obtain ⟨x, hx, hb, rfl⟩ := bindL_mem.1 he
        exact hall x hx hb
      have hset : (fun k => (listed.setIfInBounds i true).getD k false = true) = (fun k => listed.getD k false = true ∨ k = i) := by
        funext k
        apply propext
        by_cases e : k = i
        · subst e
          simp [hil]
        · rw [getD_set_ne false (fun e' => e e'.symm)]
          simp [e]
      unfold wpOp
      simp only [ho]
      rcases Nat.lt_trichotomy i sts.length with hi' | hi' | hi'
      · refine dinv_step T (L := fun k => listed.getD k false = true) (fun k ok hk hL e hee => ?_) (i := i) (o := oi) ?_ (by rw [gd_both h1]; simp) he D fun a' w' D' => ih (listed.setIfInBounds i true) a' w' (by simp [hs]) ?_ ?_ ?_ (by rw [hset]; exact D')
        · have hk2 : k < sts.length := by rw [hlen]; exact (List.getElem?_eq_some_iff.1 hk).1
          exact hc k ok (by rw [← htake k hk2]; exact hk) hL e hee
        · rw [htake i hi']; simpa using ho
        · rw [hset]
          intro k ok hk hL e hee
          rcases hL with hL | rfl
          · exact .inl (hc k ok hk hL e hee)
          · have : ok = oi := by
              have h3 : ops[k]? = some ok := by simpa using hk
              rw [ho] at h3
              exact (Option.some.inj h3).symm
            subst this
            exact .inl (he e hee)
        · have hf' : listed.toList[i]? = some false := by
            have := gd_both h1
            simp [hil] at this
            simp [hil, this]
          have := unl_set listed.toList i hf'
          simp only [Array.toList_setIfInBounds]
          omega
        · intro k hk
          have : listed.getD k false = true ∨ k = i := by
            have := congrFun hset k
            exact this ▸ hk
          rcases this with h3 | rfl
          · exact hlt k h3
          · exact hi'
      · subst hi'
        have : oi = o := by
          have h3 : ops[sts.length]? = some o := by simpa using hop
          rw [ho] at h3
          exact Option.some.inj h3
        subst this
        exact comes _ a w hc hlt he D _
      · have := hlt sts.length (late _ hc i oi hi' ho he)
        omega

/-- A drawn region. -/
theorem wp_region_dr (hE : EnvOK E) (hm : E.P.follows .mixedOrders = true) (hn0 : h0.length = F.n0) {id : Nat} {K : Slots → Heap → Prop} {Q : Exit → Act → World → Prop} {X : AV → Heap → Prop} (hk : aDr E F ops.toList B (drawK F.n0 K) X ops.toList [] s h)
    (S : SR F w0 I0 μ0 h0 w I μ h a s) (hQ : ∀ a w I μ h s, SR F w0 I0 μ0 h0 w I μ h a s → K s h → Q .normal a w)
    (hX : ∀ a w I μ h v x, SR F w0 I0 μ0 h0 w I μ h a [] → Rep w I h μ v x → X x h → Q (.panic [{ v, recovered := false }]) a w) : (Code.region id ops true).wp E.P Q a w := by
  obtain ⟨Rd, Fd⟩ := S.rel.drew
  have S' : SR F w0 I0 μ0 h0 w.drew I μ h a s := by
    refine ⟨Rd, S.fr.trans Fd, S.hm, fun d => (S.slots d).step S.rel Fd (HM.refl _ _), S.nt, S.nd⟩
  have hnone : (fun k => (Array.replicate ops.size false).getD k false = true) = (fun _ : Nat => False) := by
    funext k
    rw [gd_rep]
    simp
  rcases aDr_run hE _ _ _ _ hk with ⟨sts, sf, hf, hr, hd, hle, hbK⟩ | ⟨l1, o, r, sts, sf, hf, s', hl, hr, href, hpj, hok, hn⟩
  · obtain ⟨hb, hK⟩ : Nat.ble F.n0 hf.length = true ∧ K sf hf := by
      unfold drawK at hbK
      split at hbK
      · rename_i hb; exact ⟨hb, hbK⟩
      · exact hbK.elim
    have hd' : dOK ops.toList (sts.map (·.f)) B = true := by simpa using hd
    have T : Steps E ops F B ops.toList s h sts sf hf := Steps.of hr hd' hle
    refine wp_region_any hm (draw_any (w0 := w0) (I0 := I0) (μ0 := μ0) (h0 := h0) T (by simp only [dOK, Bool.and_eq_true] at hd'; exact hd'.1.1) (fun a w L hL D => ?_) ops.size _ a w.drew (by simp) ?_ (by simp [unl_rep]) ?_)
    · obtain ⟨I', μ', S2⟩ := dinv_end (by rw [hn0]; exact Nat.le_of_ble_eq_true hb) hL D
      exact hQ _ _ _ _ _ _ S2 hK
    · intro k o _ hL
      rw [gd_rep] at hL
      cases hL
    · rw [hnone]
      exact dinv_start T S'
  · have hlen := hr.get.1
    have hok' : pOK E ops.toList (sts.map (·.f)) o B hf = true := by simpa using hok
    have hok2 := hok'
    simp only [pOK, Bool.and_eq_true, List.length_map] at hok2
    obtain ⟨⟨⟨hbk, hdk⟩, hfB⟩, _⟩ := hok2
    have htake : ∀ k, k < sts.length → l1[k]? = ops.toList[k]? := by
      intro k hk
      rw [hl, List.getElem?_append_left (by omega)]
    have T : Steps E ops F B l1 s h sts sf hf := by
      refine ⟨hr, fun {L} hc {i j x y} hij hx hy hcl he => ?_, fun st hst b hb => ?_, Nat.le_of_ble_eq_true hfB⟩
      · have hj := (List.getElem?_eq_some_iff.1 hy).1
        have bk : ∀ k ok, k < sts.length → ops.toList[k]? = some ok → ∀ e ∈ bindL ok, e < k := by
          intro k ok _ hok e hee
          have := backL_get ops.toList 0 hbk k ok hok e hee
          omega
        have hoj : ops.toList[j]? = some y.o := by rw [← htake j hj]; exact (hr.get.2.2.2 j y hy).1
        have hcl' : ClosedL (ops.toList.take (sts.length + 1)) (fun k => L k ∧ k < sts.length) := by
          intro k ok hk hLk e hee
          have hk' : ops.toList[k]? = some ok := by
            rw [List.getElem?_take] at hk
            split at hk
            · exact hk
            · cases hk
          have := bk k ok hLk.2 hk' e hee
          exact ⟨hc k ok (by rw [htake k hLk.2]; exact hk') hLk.1 e hee, by omega⟩
        refine (dOK_order hdk hcl' hij (x := x.f) (y := y.f) (o := y.o) ?_ ?_ ?_ hcl fun e hee => ⟨he e hee, ?_⟩).1
        · rw [List.getElem?_append_left (by simp; omega)]; simp [hx]
        · rw [List.getElem?_append_left (by simp; omega)]; simp [hy]
        · rw [List.getElem?_take, if_pos (by omega)]; exact hoj
        · have := bk j y.o hj hoj e hee
          omega
      · simp only [dOK, Bool.and_eq_true] at hdk
        have := List.all_eq_true.1 hdk.2 st.f (List.mem_append_left _ (List.mem_map.2 ⟨st, hst, rfl⟩))
        have := List.all_eq_true.1 this b hb
        exact Nat.le_of_ble_eq_true this
    refine wp_region_any hm (draw_panic (w0 := w0) (I0 := I0) (μ0 := μ0) (h0 := h0) T hl href hpj hok' (by rw [hn0]; exact hn) hX ops.size _ a w.drew (by simp) ?_ (by simp [unl_rep]) ?_ ?_)
    · intro k o _ hL
      rw [gd_rep] at hL
      cases hL
    · intro k hk
      rw [gd_rep] at hk
      cases hk
    · rw [hnone]
      exact dinv_start T S'
end
end Go.AM
