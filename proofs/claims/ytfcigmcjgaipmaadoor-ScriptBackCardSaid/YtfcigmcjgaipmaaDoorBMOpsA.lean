/-
  AM, part 14: append.
-/
import Derived.Test.YtfcigmcjgaipmaaDoorBMOps9
namespace Go.AM
set_option linter.unusedSectionVars false
variable [Lay]

def updO (μ : Nat → Option Nat) (b : Nat) (o : Option Nat) : Nat → Option Nat := fun i => if i = b then o else μ i
theorem updO_same (μ : Nat → Option Nat) (b : Nat) (o : Option Nat) : updO μ b o b = o := by simp [updO]
theorem updO_ne (μ : Nat → Option Nat) {b i : Nat} (o : Option Nat) (h : i ≠ b) : updO μ b o i = μ i := by simp [updO, h]

section
variable {E : Env} {w w' : World} {I I' : Nat → Nat → Prop} {h h' : Heap} {μ μ' : Nat → Option Nat} {ρ : Operand → Value} {g : Nat → AB} {b0 : Nat} {fr : FR}
variable {dst : Option Tmp} {ty : TypeId} {pos : String} {aft : Array Edge} {gd : Option (Nat × Bool)}

/-- An array is another's now (which may have been written behind its elements), or empty, by a new number. -/
theorem RelH.adopt (R : RelH w I μ h) {b : Nat} {t : Ty} {l : List t.den} {frz : Bool} (hbb : h[b]? = some (.arr t l frz)) (hb : b0 ≤ h.length) (hh : h[b0]? = none ∨ h[b0]? = some .hole) {l' : List t.den} (oq : Option Nat)
    (hq : ∀ q, oq = some q → μ b = some q ∧ ∃ us us' e, (∃ fz : Nat × Nat, (fz = (0, 0) ∨ us.size ≤ fz.1) ∧ w.heap[q]? = some (.cells us e fz) ∧ w'.heap[q]? = some (.cells us' e fz)) ∧ us'.size = us.size ∧ (∀ k, k ≠ q → w'.heap[k]? = w.heap[k]?) ∧
      (∀ o, frz = false → o < l.length * t.sz → us'[o]? = us[o]?) ∧
      (∀ I', (∀ (t : Ty) (d : t.den) (cs : List Value), RD w I t d cs → RD w' I' t d cs) → RowRD w' I' t l' us'.toList))
    (hnone : oq = none → w' = w ∧ l' = []) (hle : frz = false → l.length ≤ l'.length)
    (hos : w'.os = w.os) (htp : w'.tape = w.tape) (hout : w'.output = w.output) (hsize : w'.heap.size = w.heap.size) :
    ∃ I', RelH w' I' (updO μ b0 oq) (hput (hput h b .gone) b0 (.arr t l' frz)) ∧ Fr w (Wr h μ) I w' (Wr (hput (hput h b .gone) b0 (.arr t l' frz)) (updO μ b0 oq)) I' ∧
      HM h μ (hput (hput h b .gone) b0 (.arr t l' frz)) (updO μ b0 oq) := by
  have hblt : b < h.length := (List.getElem?_eq_some_iff.1 hbb).1
  have hbne : b ≠ b0 := by
    rintro rfl
    rcases hh with hh | hh <;> rw [hbb] at hh <;> cases hh
  have hb1 : b0 ≤ (hput h b .gone).length := Nat.le_trans hb (hput_len _ h b (by omega))
  have hget : ∀ i : Nat, (hput (hput h b .gone) b0 (.arr t l' frz))[i]? = if i = b0 then some (.arr t l' frz) else if i = b then some .gone else h[i]? := by
    intro i
    rw [hput_get _ _ b0 i hb1, hput_get _ h b i (by omega)]
  let I' : Nat → Nat → Prop := fun q o => I q o ∨ (frz = false ∧ oq = some q ∧ o < l'.length * t.sz)
  have hlz : frz = false → l.length * t.sz ≤ l'.length * t.sz := fun h => Nat.mul_le_mul_right _ (hle h)
  have hWb : ∀ q o, μ b = some q → (frz = true ∨ l.length * t.sz ≤ o) → Wr h μ q o := by
    intro q o hm hc
    refine ⟨b, hm, ?_⟩
    cases frz with
    | true => exact .inr (.inl ⟨t, l, hbb⟩)
    | false => exact .inr (.inr (.inl ⟨t, l, hbb, hc.resolve_left (by simp)⟩))
  have hWr : ∀ q o, Wr (hput (hput h b .gone) b0 (.arr t l' frz)) (updO μ b0 oq) q o → Wr h μ q o := by
    rintro q o ⟨i, hi, hx⟩
    rw [hget] at hx
    by_cases hi0 : i = b0
    · subst hi0
      rw [if_pos rfl] at hx
      rw [updO_same] at hi
      obtain ⟨hm, _⟩ := hq q hi
      refine hWb q o hm ?_
      rcases hx with ⟨cs, hx⟩ | ⟨t2, l2, hx⟩ | ⟨t2, l2, hx, ho⟩ | ⟨_, _, _, hx⟩
      · cases hx
      · cases hx; exact .inl rfl
      · cases hx; exact .inr (by have := hlz rfl; omega)
      · cases hx
    · rw [if_neg hi0] at hx
      rw [updO_ne _ _ hi0] at hi
      by_cases hib : i = b
      · rw [if_pos hib] at hx
        rcases hx with ⟨cs, hx⟩ | ⟨t2, l2, hx⟩ | ⟨t2, l2, hx, ho⟩ | ⟨_, _, _, hx⟩ <;> cases hx
      · rw [if_neg hib] at hx
        exact ⟨i, hi, hx⟩
  have hheap : ∀ k, (∀ q, oq = some q → k ≠ q) → w'.heap[k]? = w.heap[k]? := by
    intro k hk
    cases hoq : oq with
    | none => rw [(hnone hoq).1]
    | some q =>
      obtain ⟨_, us, us', e, _, _, h4, _⟩ := hq q hoq
      exact h4 k (hk q hoq)
  have F : Fr w (Wr h μ) I w' (Wr (hput (hput h b .gone) b0 (.arr t l' frz)) (updO μ b0 oq)) I' := by
    refine ⟨hos, htp, hout, by omega, fun k hk hn => ?_, fun k vk ek fz hk hvk => ?_, fun k _ hh x hx => ?_, fun q o hw => .inl (hWr q o hw), fun _ _ h => .inl h, ?_⟩
    · refine hheap k fun q hoq => ?_
      rintro rfl
      obtain ⟨hm, _⟩ := hq k hoq
      exact hn (l.length * t.sz) (hWb k _ hm (.inr (Nat.le_refl _)))
    · cases hoq : oq with
      | none => rw [(hnone hoq).1]; exact ⟨vk, hvk, rfl, fun _ _ => rfl⟩
      | some q =>
        obtain ⟨hm, us, us', e, ⟨fz0, hz0, h1, h2⟩, h3, h4, h5, _⟩ := hq q hoq
        by_cases hkq : k = q
        · subst hkq
          rw [h1] at hvk
          injection hvk with hvk
          injection hvk with e1 e2 e3
          subst e1; subst e2; subst e3
          refine ⟨us', h2, h3, fun o ho => ?_⟩
          cases hf : frz with
          | true => exact absurd (hWb k o hm (.inl hf)) ho
          | false => exact h5 o hf (Nat.lt_of_not_le fun hle' => ho (hWb k o hm (.inr hle')))
        · exact ⟨vk, (h4 k hkq).trans hvk, rfl, fun _ _ => rfl⟩
    · cases hoq : oq with
      | none => rw [(hnone hoq).1] at hx; exact hh x hx
      | some q =>
        obtain ⟨hm, us, us', e, ⟨fz0, hz0, h1, h2⟩, h3, h4, h5, _⟩ := hq q hoq
        by_cases hkq : k = q
        · subst hkq; rw [h2] at hx; cases hx; exact (show NF (.cells us e fz0) from hh _ h1)
        · rw [h4 k hkq] at hx; exact hh x hx
    · rintro q o (hi | ⟨hf, hoq, ho⟩)
      · exact .inl hi
      · obtain ⟨hm, _⟩ := hq q hoq
        by_cases hlt : o < l.length * t.sz
        · rcases R.blk b _ hbb with hnil | ⟨q', us, e, g1, g2, g3, g4, g5⟩
          · subst hnil; simp at hlt
          · rw [hm] at g1; injection g1 with g1; subst g1
            exact .inl (g5 hf o hlt)
        · exact .inr (.inl (hWb q o hm (.inr (by omega))))
  have M : HM h μ (hput (hput h b .gone) b0 (.arr t l' frz)) (updO μ b0 oq) := by
    refine ⟨fun i x hx => ?_, fun i x y hx hy lx ly => ?_⟩
    · rw [hget]
      by_cases hi0 : i = b0
      · subst hi0
        rw [if_pos rfl]
        refine ⟨_, rfl, ?_⟩
        rcases hh with hh | hh
        · rw [hh] at hx; cases hx
        · rw [hh] at hx; cases hx; trivial
      · rw [if_neg hi0]
        by_cases hib : i = b
        · subst hib
          rw [hbb] at hx; cases hx
          rw [if_pos rfl]
          exact ⟨_, rfl, .inl rfl⟩
        · rw [if_neg hib]
          obtain ⟨y, hy, k⟩ := (HM.refl h μ).kept i x hx
          rw [hx] at hy; cases hy
          exact ⟨x, hx, k⟩
    · by_cases hi0 : i = b0
      · subst hi0
        rcases hh with hh | hh
        · rw [hh] at hx; cases hx
        · rw [hh] at hx; cases hx; exact lx.elim
      · exact updO_ne _ _ hi0
  have hold : ∀ (i : Nat) (x : AB), (hput (hput h b .gone) b0 (.arr t l' frz))[i]? = some x → live x → i ≠ b0 → h[i]? = some x ∧ i ≠ b := by
    intro i x hx lx hi0
    rw [hget, if_neg hi0] at hx
    by_cases hib : i = b
    · rw [if_pos hib] at hx; cases hx; exact lx.elim
    · rw [if_neg hib] at hx; exact ⟨hx, hib⟩
  refine ⟨I', ⟨?_, ?_, ?_, ?_, ?_, R.laid.step R.disj R.ilt F⟩, F, M⟩
  · intro i j x y q hi hj lx ly gi gj
    by_cases hi0 : i = b0 <;> by_cases hj0 : j = b0
    · rw [hi0, hj0]
    · subst hi0
      obtain ⟨hj', hjb⟩ := hold j y hj ly hj0
      rw [updO_same] at gi
      rw [updO_ne _ _ hj0] at gj
      obtain ⟨hm, _⟩ := hq q gi
      exact absurd (R.inj j b y _ q hj' hbb ly trivial gj hm) hjb
    · subst hj0
      obtain ⟨hi', hib⟩ := hold i x hi lx hi0
      rw [updO_same] at gj
      rw [updO_ne _ _ hi0] at gi
      obtain ⟨hm, _⟩ := hq q gj
      exact absurd (R.inj i b x _ q hi' hbb lx trivial gi hm) hib
    · obtain ⟨hi', _⟩ := hold i x hi lx hi0
      obtain ⟨hj', _⟩ := hold j y hj ly hj0
      rw [updO_ne _ _ hi0] at gi
      rw [updO_ne _ _ hj0] at gj
      exact R.inj i j x y q hi' hj' lx ly gi gj
  · intro i x q hi lx gi
    rw [hsize]
    by_cases hi0 : i = b0
    · subst hi0
      rw [updO_same] at gi
      obtain ⟨hm, _⟩ := hq q gi
      exact R.lt b _ q hbb trivial hm
    · obtain ⟨hi', _⟩ := hold i x hi lx hi0
      rw [updO_ne _ _ hi0] at gi
      exact R.lt i x q hi' lx gi
  · intro i x hi
    by_cases hi0 : i = b0
    · subst hi0
      rw [hget, if_pos rfl] at hi
      cases hi
      cases hoq : oq with
      | none => exact .inl (hnone hoq).2
      | some q =>
        obtain ⟨hm, us, us', e, ⟨fz0, hz0, h1, h2⟩, h3, h4, h5, h6⟩ := hq q hoq
        obtain ⟨r1, r2⟩ := h6 I' (fun t d cs r => r.mono (R.cell F) (fun _ _ h => .inl h))
        exact .inr ⟨q, us', e, by rw [updO_same], ⟨fz0, h2, by rw [h3]; exact hz0⟩, by simpa using r1, r2, fun hf o ho => .inr ⟨hf, hoq, ho⟩⟩
    · by_cases lx : live x
      · obtain ⟨hi', hib⟩ := hold i x hi lx hi0
        refine RepB.mono M F.shape (R.keptI F) F.im (fun _ => updO_ne _ _ hi0) (fun q hq' => hheap q fun q2 hoq => ?_) (R.blk i x hi')
        rintro rfl
        obtain ⟨hm, _⟩ := hq q hoq
        exact hib (R.inj i b x _ q hi' hbb lx trivial hq' hm)
      · cases x with
        | hole => trivial
        | gone => trivial
        | var => exact absurd trivial lx
        | arr => exact absurd trivial lx
        | mp => exact absurd trivial lx
  · rintro q o (hi | ⟨hf, hoq, ho⟩) hw
    · exact R.disj q o hi (hWr q o hw)
    · obtain ⟨i, hi, hx⟩ := hw
      rw [hget] at hx
      by_cases hi0 : i = b0
      · subst hi0
        rw [if_pos rfl] at hx
        rcases hx with ⟨cs, hx⟩ | ⟨t2, l2, hx⟩ | ⟨t2, l2, hx, ho'⟩ | ⟨_, _, _, hx⟩
        · cases hx
        · cases hx; cases hf
        · cases hx; omega
        · cases hx
      · rw [if_neg hi0] at hx
        rw [updO_ne _ _ hi0] at hi
        by_cases hib : i = b
        · rw [if_pos hib] at hx
          rcases hx with ⟨cs, hx⟩ | ⟨t2, l2, hx⟩ | ⟨t2, l2, hx, ho'⟩ | ⟨_, _, _, hx⟩ <;> cases hx
        · rw [if_neg hib] at hx
          obtain ⟨hm, _⟩ := hq q hoq
          have : ∃ y, h[i]? = some y ∧ live y := by
            rcases hx with ⟨cs, hx⟩ | ⟨t', l', hx⟩ | ⟨t', l', hx, _⟩ | ⟨_, _, _, hx⟩
            · exact ⟨_, hx, trivial⟩
            · exact ⟨_, hx, trivial⟩
            · exact ⟨_, hx, trivial⟩
            · exact ⟨_, hx, trivial⟩
          obtain ⟨y, hy, ly⟩ := this
          exact hib (R.inj i b y _ q hy hbb ly trivial hi hm)
  · rintro q o (hi | ⟨_, hoq, _⟩)
    · rw [hsize]; exact R.ilt q o hi
    · rw [hsize]
      obtain ⟨hm, _⟩ := hq q hoq
      exact R.lt b _ q hbb trivial hm

/-- A block is no one's any more. -/
theorem RelH.drop (R : RelH w I μ h) {b : Nat} {t : Ty} {l : List t.den} {frz : Bool} (hbb : h[b]? = some (.arr t l frz)) :
    RelH w I μ (hput h b .gone) ∧ Fr w (Wr h μ) I w (Wr (hput h b .gone) μ) I ∧ HM h μ (hput h b .gone) μ := by
  have hblt : b < h.length := (List.getElem?_eq_some_iff.1 hbb).1
  have hget : ∀ i : Nat, (hput h b .gone)[i]? = if i = b then some .gone else h[i]? := fun i => hput_get _ h b i (by omega)
  have hold : ∀ (i : Nat) (x : AB), (hput h b .gone)[i]? = some x → live x → h[i]? = some x := by
    intro i x hx lx
    rw [hget] at hx
    by_cases hib : i = b
    · rw [if_pos hib] at hx; cases hx; exact lx.elim
    · rw [if_neg hib] at hx; exact hx
  have hWr : ∀ q o, Wr (hput h b .gone) μ q o → Wr h μ q o := by
    rintro q o ⟨i, hi, hx⟩
    rw [hget] at hx
    by_cases hib : i = b
    · rw [if_pos hib] at hx
      rcases hx with ⟨cs, hx⟩ | ⟨t2, l2, hx⟩ | ⟨t2, l2, hx, ho⟩ | ⟨_, _, _, hx⟩ <;> cases hx
    · rw [if_neg hib] at hx
      exact ⟨i, hi, hx⟩
  have F : Fr w (Wr h μ) I w (Wr (hput h b .gone) μ) I :=
    ⟨rfl, rfl, rfl, Nat.le_refl _, fun _ _ _ => rfl, fun g vs e fz _ hv => ⟨vs, hv, rfl, fun _ _ => rfl⟩, fun _ _ hh => hh, fun q o hw => .inl (hWr q o hw), fun _ _ h => h, fun _ _ h => .inl h⟩
  have M : HM h μ (hput h b .gone) μ := by
    refine ⟨fun i x hx => ?_, fun _ _ _ _ _ _ _ => rfl⟩
    rw [hget]
    by_cases hib : i = b
    · subst hib
      rw [hbb] at hx; cases hx
      rw [if_pos rfl]
      exact ⟨_, rfl, .inl rfl⟩
    · rw [if_neg hib]
      obtain ⟨y, hy, k⟩ := (HM.refl h μ).kept i x hx
      rw [hx] at hy; cases hy
      exact ⟨x, hx, k⟩
  refine ⟨⟨?_, ?_, ?_, ?_, R.ilt, R.laid.step R.disj R.ilt F⟩, F, M⟩
  · intro i j x y q hi hj lx ly gi gj
    exact R.inj i j x y q (hold i x hi lx) (hold j y hj ly) lx ly gi gj
  · intro i x q hi lx gi
    exact R.lt i x q (hold i x hi lx) lx gi
  · intro i x hi
    by_cases lx : live x
    · exact RepB.mono M F.shape (R.keptI F) F.im (fun _ => rfl) (fun _ _ => rfl) (R.blk i x (hold i x hi lx))
    · cases x with
      | hole => trivial
      | gone => trivial
      | var => exact absurd trivial lx
      | arr => exact absurd trivial lx
      | mp => exact absurd trivial lx
  · intro q o hi hw
    exact R.disj q o hi (hWr q o hw)

theorem RelH.drew (R : RelH w I μ h) : RelH w.drew I μ h ∧ Fr w (Wr h μ) I w.drew (Wr h μ) I := by
  have F : Fr w (Wr h μ) I w.drew (Wr h μ) I :=
    ⟨rfl, rfl, rfl, Nat.le_refl _, fun _ _ _ => rfl, fun g vs e fz _ hv => ⟨vs, hv, rfl, fun _ _ => rfl⟩, fun _ _ hh => hh, fun q o hw => .inl hw, fun _ _ h => h, fun _ _ h => .inl h⟩
  exact ⟨⟨R.inj, R.lt, fun i x hi => RepB.mono (HM.refl h μ) F.shape (R.keptI F) F.im (fun _ => rfl) (fun _ _ => rfl) (R.blk i x hi), R.disj, R.ilt, R.laid.step R.disj R.ilt F⟩, F⟩
end
end Go.AM
