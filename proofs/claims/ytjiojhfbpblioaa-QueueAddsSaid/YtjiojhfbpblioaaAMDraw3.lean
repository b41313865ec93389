/-
  AM, part 25: a drawn region, whole.
-/
import Derived.Test.YtjiojhfbpblioaaAMDraw2
namespace Go.AM

section
variable {E : Env} {F : Fp} {w w' w0 : World} {I I' I0 : Nat → Nat → Prop} {h h0 h' h2 hf : Heap} {μ μ' μ0 : Nat → Option Nat} {a : Act} {s s' sf : Slots} {ops : Array Oper} {B : Nat} {sts : List St}

def drawK (n0 : Nat) (K : Slots → Heap → Prop) (s : Slots) (h : Heap) : Prop := match Nat.ble n0 h.length with | true => K s h | false => False
theorem gd_both {listed : Array Bool} {i : Nat} (h : listed.getD i true = false) : listed.getD i false = false := by
  rcases Nat.lt_or_ge i listed.size with h' | h'
  · simp [h'] at h ⊢; exact h
  · simp [Array.getElem?_eq_none h'] at h
theorem gd_rep (m j : Nat) : (Array.replicate m false).getD j false = false := by
  rcases Nat.lt_or_ge j m with h | h
  · simp [h]
  · simp [Array.getD_eq_getD_getElem?, Array.getElem?_eq_none (show (Array.replicate m false).size ≤ j by simpa using h)]
theorem bindL_mem {o : Oper} {e : Nat} : e ∈ bindL o ↔ ∃ x ∈ o.after, Region.binds .any x = true ∧ x.on = e := by
  simp only [bindL, List.mem_map, List.mem_filter, Array.mem_toList_iff]
  constructor
  · rintro ⟨x, ⟨h1, h2⟩, h3⟩; exact ⟨x, h1, h2, h3⟩
  · rintro ⟨x, h1, h2, h3⟩; exact ⟨x, ⟨h1, h2⟩, h3⟩

def unl : List Bool → Nat
  | [] => 0
  | true :: r => unl r
  | false :: r => unl r + 1
theorem unl_set : ∀ (l : List Bool) (i : Nat), l[i]? = some false → unl (l.set i true) + 1 = unl l
  | [], i, h => by simp at h
  | b :: r, 0, h => by simp at h; subst h; simp [unl]
  | b :: r, i + 1, h => by
    have := unl_set r i (by simpa using h)
    cases b <;> simp [unl, this]
theorem unl_zero : ∀ (l : List Bool), unl l = 0 → ∀ (i : Nat), i < l.length → l[i]? = some true
  | [], _, i, h => by simp at h
  | true :: r, hu, 0, _ => rfl
  | true :: r, hu, i + 1, h => by simpa using unl_zero r (by simpa [unl] using hu) i (by simpa using h)
  | false :: r, hu, i, _ => by simp [unl] at hu
theorem unl_rep (n : Nat) : unl (List.replicate n false) = n := by
  induction n with
  | zero => rfl
  | succ n ih => simp [List.replicate_succ, unl, ih]

theorem dinv_start (T : Steps E ops F B s h sts sf hf) (S : SR F w0 I0 μ0 h0 w I μ h a s) : DInv F w0 I0 μ0 h0 B sts sf hf (fun _ => False) a w := by
  obtain ⟨g1, g2, g3, g4⟩ := T.run.get
  have hle : h.length ≤ B := by rw [← g3]; exact T.hk_le sts.length 0 (by omega)
  have H1 : ∀ (b : Nat) (x : AB), h[b]? = some x → x ≠ .hole → (h ++ List.replicate (B - h.length) .hole)[b]? = some x := by
    intro b x hx _
    rw [List.getElem?_append_left (List.getElem?_eq_some_iff.1 hx).1]
    exact hx
  have H2 : ∀ (b : Nat) (x : AB), (h ++ List.replicate (B - h.length) .hole)[b]? = some x → x ≠ .hole → h[b]? = some x := by
    intro b x hx hne
    rcases Nat.lt_or_ge b h.length with h1 | h1
    · rwa [List.getElem?_append_left h1] at hx
    · rw [List.getElem?_append_right h1, List.getElem?_replicate] at hx
      split at hx
      · cases hx; exact absurd rfl hne
      · cases hx
  have hg : ∀ b, hget (h ++ List.replicate (B - h.length) .hole) b = hget h b := by
    intro b
    unfold hget
    simp only [List.getD_eq_getElem?_getD]
    rcases Nat.lt_or_ge b h.length with h1 | h1
    · rw [List.getElem?_append_left h1]
    · rw [List.getElem?_append_right h1, List.getElem?_eq_none_iff.2 h1, List.getElem?_replicate]
      split <;> rfl
  refine ⟨I, μ, h ++ List.replicate (B - h.length) .hole, S.rel.holes H1 H2, ?_, ?_, S.nt, S.nd, by simp; omega, fun d k hk up => ?_, fun b k hk up => ?_⟩
  · exact ⟨S.fr.os, S.fr.tape, S.fr.output, S.fr.size, S.fr.same, S.fr.part, S.fr.nf, fun g o hw => S.fr.wr g o (hw.holes H2), S.fr.im, S.fr.im'⟩
  · refine ⟨fun b x hx => ?_, fun b x y hx hy lx ly => S.hm.mu b x y hx (H2 b y hy (by rintro rfl; exact ly)) lx ly⟩
    obtain ⟨y, hy, k⟩ := S.hm.kept b x hx
    refine ⟨y, ?_, k⟩
    rw [List.getElem?_append_left (List.getElem?_eq_some_iff.1 hy).1]
    exact hy
  · have chain : ∀ m, m ≤ k → Rep w I h μ (a.tmps.getD d undef) (lkp d (Sk sts sf m)) := by
      intro m
      induction m with
      | zero => intro _; exact g2 _ _ _ _ d _ (S.slots d)
      | succ m ih =>
        intro hm
        have hj : m < sts.length := by omega
        obtain ⟨_, _, q3, _⟩ := g4 m _ (List.getElem?_eq_getElem hj)
        have := ih (by omega)
        have eSk : Sk sts sf m = sts[m].s := by simp [Sk, List.getElem?_eq_getElem hj]
        rw [eSk] at this
        have nd : sts[m].o.dst ≠ some d := fun e => up.1 m (by omega) ⟨_, List.getElem?_eq_getElem hj, e⟩
        refine q3 _ _ _ _ d _ ?_
        have el : lkp d (sput sts[m].s sts[m].o.dst sts[m].v) = lkp d sts[m].s := by
          cases hq : sts[m].o.dst with
          | none => rfl
          | some e =>
            have hne : d ≠ e := by rintro rfl; exact nd hq
            simp only [sput, lkp]
            cases hb : Nat.beq d e with
            | true => exact absurd (Nat.eq_of_beq_eq_true hb) hne
            | false => rfl
        rw [el]
        exact this
    exact (chain k (Nat.le_refl _)).holes H1
  · rw [hg]
    have chain : ∀ m, m ≤ k → hget h b = hget (Hk sts hf m) b := by
      intro m
      induction m with
      | zero => intro _; rw [g3]
      | succ m ih =>
        intro hm
        have hj : m < sts.length := by omega
        obtain ⟨_, q2, _, q4⟩ := g4 m _ (List.getElem?_eq_getElem hj)
        rw [q4, ih (by omega)]
        have eHk : Hk sts hf m = sts[m].h := by simp [Hk, List.getElem?_eq_getElem hj]
        rw [eHk, hget_hputs_ne]
        intro hmem
        obtain ⟨p, hp, rfl⟩ := List.mem_map.1 hmem
        exact up.1 m (by omega) ⟨_, List.getElem?_eq_getElem hj, q2.2.2.1 p hp⟩
    exact chain k (Nat.le_refl _)

theorem dinv_end (hh : h0.length ≤ hf.length) {L : Nat → Prop} (hL : ∀ k, k < sts.length → L k) (D : DInv F w0 I0 μ0 h0 B sts sf hf L a w) : ∃ I μ, SR F w0 I0 μ0 h0 w I μ hf a sf := by
  obtain ⟨I, μ, h2, R, fr, hm, hnt, hnd, hlen, hS, hH⟩ := D
  have up : ∀ (wr : Nat → Nat → Prop) (d : Nat), (∀ j e, wr j e → j < sts.length) → upAt L wr d sts.length := fun wr d hw => ⟨fun j hj _ => hL j hj, fun j hj h1 => by have := hw j d h1; omega⟩
  have hg : ∀ b, hget h2 b = hget hf b := by
    intro b
    have := hH b sts.length (Nat.le_refl _) (up _ b fun j e ⟨x, hx, _⟩ => (List.getElem?_eq_some_iff.1 hx).1)
    rwa [show Hk sts hf sts.length = hf by simp [Hk]] at this
  have H1 : ∀ (b : Nat) (x : AB), h2[b]? = some x → x ≠ .hole → hf[b]? = some x := fun b x hx hne => hget_some ((hg b).symm.trans (hget_eq hx)) hne
  have H2 : ∀ (b : Nat) (x : AB), hf[b]? = some x → x ≠ .hole → h2[b]? = some x := fun b x hx hne => hget_some ((hg b).trans (hget_eq hx)) hne
  refine ⟨I, μ, R.holes H1 H2, ?_, ?_, fun d => ?_, hnt, hnd⟩
  · exact ⟨fr.os, fr.tape, fr.output, fr.size, fr.same, fr.part, fr.nf, fun g o hw => fr.wr g o (hw.holes H2), fr.im, fr.im'⟩
  · refine ⟨fun b x hx => ?_, fun b x y hx hy lx ly => hm.mu b x y hx (H2 b y hy (by rintro rfl; exact ly)) lx ly⟩
    obtain ⟨y, hy, k⟩ := hm.kept b x hx
    by_cases e : y = .hole
    · subst e
      have hb : b < hf.length := Nat.lt_of_lt_of_le (List.getElem?_eq_some_iff.1 hx).1 hh
      refine ⟨.hole, ?_, k⟩
      rw [List.getElem?_eq_getElem hb]
      have h1 := hg b
      rw [hget_eq hy] at h1
      have h2 := hget_eq (List.getElem?_eq_getElem hb)
      rw [← h2, ← h1]
    · exact ⟨y, H1 b y hy e, k⟩
  · have := hS d sts.length (Nat.le_refl _) (up _ d fun j e ⟨x, hx, _⟩ => (List.getElem?_eq_some_iff.1 hx).1)
    rw [show Sk sts sf sts.length = sf by simp [Sk]] at this
    exact this.holes H1

theorem draw_any (T : Steps E ops F B s h sts sf hf) {Q : Exit → Act → World → Prop} (hQ : ∀ a w (L : Nat → Prop), (∀ k, k < sts.length → L k) → DInv F w0 I0 μ0 h0 B sts sf hf L a w → Q .normal a w) :
    ∀ (fuel : Nat) (listed : Array Bool) (a : Act) (w : World), listed.size = ops.size → ClosedL ops.toList (fun k => listed.getD k false = true) → unl listed.toList ≤ fuel →
    DInv F w0 I0 μ0 h0 B sts sf hf (fun k => listed.getD k false = true) a w → wpAny E.P .any ops Q fuel listed a w := by
  have hn : sts.length = ops.size := by have := T.run.get.1; simpa using this
  have hback : ∀ (i : Nat) (o : Oper), ops[i]? = some o → ∀ e ∈ bindL o, e < i := by
    intro i o ho e he
    have hd := T.ok
    simp only [dOK, Bool.and_eq_true] at hd
    have := backL_get ops.toList 0 hd.1.1 i o (by simpa using ho) e he
    omega
  -- nothing may come: all have
  have fin : ∀ (listed : Array Bool), listed.size = ops.size → Region.ready .any ops listed = [] → ∀ k, k < sts.length → listed.getD k false = true := by
    intro listed hs hr k
    induction k using Nat.strongRecOn with
    | _ k ih =>
      intro hk
      cases hl : listed.getD k false with
      | true => rfl
      | false =>
        exfalso
        have hko : k < ops.size := by omega
        have hmem : k ∈ Region.ready .any ops listed := by
          refine mem_ready.2 ⟨?_, ops[k], Array.getElem?_eq_getElem hko, fun e he hb => ?_⟩
          · have hkl : k < listed.size := by omega
            simp [hkl] at hl ⊢
            exact hl
          · have := hback k ops[k] (Array.getElem?_eq_getElem hko) e.on (bindL_mem.2 ⟨e, he, hb, rfl⟩)
            exact ih e.on this (by omega)
        rw [hr] at hmem
        cases hmem
  intro fuel
  induction fuel with
  | zero =>
    intro listed a w hs hc hu D
    have hall : ∀ k, k < sts.length → listed.getD k false = true := by
      intro k hk
      have hkl : k < listed.toList.length := by simp; omega
      have := unl_zero listed.toList (by omega) k hkl
      have : listed[k]? = some true := by simpa using this
      simp [Array.getD_eq_getD_getElem?, this]
    refine ⟨?_, hQ a w _ hall D⟩
    apply List.eq_nil_iff_forall_not_mem.2
    intro j hj
    obtain ⟨h1, o, ho, _⟩ := mem_ready.1 hj
    have hjo := (Array.getElem?_eq_some_iff.1 ho).1
    have h2 := hall j (by omega)
    have hjl : j < listed.size := by omega
    simp [hjl] at h1 h2
    rw [h1] at h2
    cases h2
  | succ fuel ih =>
    intro listed a w hs hc hu D
    refine ⟨fun hr => hQ a w _ (fin listed hs hr) D, fun i hi => ?_⟩
    obtain ⟨h1, o, ho, hall⟩ := mem_ready.1 hi
    have hio := (Array.getElem?_eq_some_iff.1 ho).1
    have hil : i < listed.size := by omega
    have he : ∀ e ∈ bindL o, listed.getD e false = true := by
      intro e he
      obtain ⟨x, hx, hb, rfl⟩ := bindL_mem.1 he
      exact hall x hx hb
    have hset : (fun k => (listed.setIfInBounds i true).getD k false = true) = (fun k => listed.getD k false = true ∨ k = i) := by
      funext k
      apply propext
      by_cases e : k = i
      · subst e
        simp [hil]
      · rw [getD_set_ne false (fun e' => e e'.symm)]
        simp [e]
    unfold wpOp
    simp only [ho]
    refine dinv_step T hc ho (by rw [gd_both h1]; simp) he D fun a' w' D' => ih (listed.setIfInBounds i true) a' w' (by simp [hs]) ?_ ?_ (by rw [hset]; exact D')
    · rw [hset]
      intro k ok hk hL e hee
      rcases hL with hL | rfl
      · exact .inl (hc k ok hk hL e hee)
      · have : ok = o := by
          have h3 : ops[k]? = some ok := by simpa using hk
          rw [ho] at h3
          exact (Option.some.inj h3).symm
        subst this
        exact .inl (he e hee)
    · have hf' : listed.toList[i]? = some false := by
        have := gd_both h1
        simp [hil] at this
        simp [hil, this]
      have := unl_set listed.toList i hf'
      simp only [Array.toList_setIfInBounds]
      omega

/-- A drawn region. -/
theorem wp_region_dr (hE : EnvOK E) (hm : E.P.follows .mixedOrders = true) (hn0 : h0.length = F.n0) {id : Nat} {K : Slots → Heap → Prop} {Q : Exit → Act → World → Prop} (hk : aDr E F ops.toList B (drawK F.n0 K) ops.toList [] s h)
    (S : SR F w0 I0 μ0 h0 w I μ h a s) (hQ : ∀ a w I μ h s, SR F w0 I0 μ0 h0 w I μ h a s → K s h → Q .normal a w) : (Code.region id ops true).wp E.P Q a w := by
  obtain ⟨sts, sf, hf, hr, hd, hle, hbK⟩ := aDr_run hE _ _ _ _ hk
  obtain ⟨hb, hK⟩ : Nat.ble F.n0 hf.length = true ∧ K sf hf := by
    unfold drawK at hbK
    split at hbK
    · rename_i hb; exact ⟨hb, hbK⟩
    · exact hbK.elim
  have T : Steps E ops F B s h sts sf hf := ⟨hr, by simpa using hd, hle⟩
  obtain ⟨Rd, Fd⟩ := S.rel.drew
  have S' : SR F w0 I0 μ0 h0 w.drew I μ h a s := by
    refine ⟨Rd, S.fr.trans Fd, S.hm, fun d => (S.slots d).step S.rel Fd (HM.refl _ _), S.nt, S.nd⟩
  refine wp_region_any hm (draw_any (w0 := w0) (I0 := I0) (μ0 := μ0) (h0 := h0) T (fun a w L hL D => ?_) ops.size _ a w.drew (by simp) ?_ (by simp [unl_rep]) ?_)
  · obtain ⟨I', μ', S2⟩ := dinv_end (by rw [hn0]; exact Nat.le_of_ble_eq_true hb) hL D
    exact hQ _ _ _ _ _ _ S2 hK
  · intro k o _ hL
    rw [gd_rep] at hL
    cases hL
  · have : (fun k => (Array.replicate ops.size false).getD k false = true) = (fun _ : Nat => False) := by
      funext k
      rw [gd_rep]
      simp
    rw [this]
    exact dinv_start T S'
end
end Go.AM
