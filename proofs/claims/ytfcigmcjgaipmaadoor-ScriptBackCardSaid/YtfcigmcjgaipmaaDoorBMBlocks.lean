/-
  AM, part 5: blocks that are laid, written, frozen.
-/
import Derived.Test.YtfcigmcjgaipmaaDoorBMOps
namespace Go.AM
set_option linter.unusedSectionVars false
variable [Lay]

theorem hput_get (v : AB) : ∀ (h : Heap) (b i : Nat), b ≤ h.length → (hput h b v)[i]? = if i = b then some v else h[i]?
  | [], 0, i, _ => by cases i <;> simp [hput]
  | [], b + 1, _, hb => by simp at hb
  | x :: r, 0, i, _ => by cases i <;> simp [hput]
  | x :: r, b + 1, 0, _ => by simp [hput]
  | x :: r, b + 1, i + 1, hb => by
    have := hput_get v r b i (by simpa using hb)
    simp only [hput, List.getElem?_cons_succ, this]
    simp

theorem hput_len (v : AB) : ∀ (h : Heap) (b : Nat), b ≤ h.length → h.length ≤ (hput h b v).length
  | [], 0, _ => by simp [hput]
  | [], b + 1, hb => by simp at hb
  | x :: r, 0, _ => by simp [hput]
  | x :: r, b + 1, hb => by
    have := hput_len v r b (by simpa using hb)
    simp only [hput, List.length_cons]
    omega

def upd (μ : Nat → Option Nat) (b g : Nat) : Nat → Option Nat := fun i => if i = b then some g else μ i
theorem upd_same (μ : Nat → Option Nat) (b g : Nat) : upd μ b g b = some g := by simp [upd]
theorem upd_ne (μ : Nat → Option Nat) {b i : Nat} (g : Nat) (h : i ≠ b) : upd μ b g i = μ i := by simp [upd, h]

section
variable {w w' : World} {I I' : Nat → Nat → Prop} {h h' : Heap} {μ μ' : Nat → Option Nat}

theorem RepB.mono (m : HM h μ h' μ')
    (hs : ∀ (g : Nat) (vs : Array Value) (e : TypeId), CellsAt w g vs e → ∃ vs', CellsAt w' g vs' e ∧ vs'.size = vs.size)
    (hc : KeptI w I w') (hI : ∀ g o, I g o → I' g o)
    {i : Nat} {x : AB} (hmu : live x → μ' i = μ i) (hb : ∀ g, μ i = some g → w'.heap[g]? = w.heap[g]?) (r : RepB w I h μ i x) : RepB w' I' h' μ' i x := by
  cases x with
  | hole => trivial
  | gone => trivial
  | var cs =>
    obtain ⟨g, vs, e, h1, h2, h3, h4⟩ := r
    exact ⟨g, vs, e, (hmu trivial).trans h1, (hb g h1).trans h2, h3, fun k v c hv hc' => (h4 k v c hv hc').mono m hs hc hI⟩
  | arr t l fr =>
    rcases r with r | ⟨g, vs, e, h1, h2, h3, h4, h5⟩
    · exact .inl r
    · exact .inr ⟨g, vs, e, (hmu trivial).trans h1, h2.eq (hb g h1), h3, fun k hk => (h4 k hk).mono hc.1 hI, fun hf o ho => hI _ _ (h5 hf o ho)⟩
  | mp k v l => exact MpAt.mono (hmu trivial) hb hI hc.2 r

/-- A new block. -/
theorem RelH.layF (R : RelH w I μ h) {b0 : Nat} (hb : b0 ≤ h.length) (hh : h[b0]? = none ∨ h[b0]? = some .hole) (ob : Obj) (ab : AB)
    (hB : RepB (w.alloc ob) I (hput h b0 ab) (upd μ b0 w.heap.size) b0 ab) :
    RelH (w.alloc ob) I (upd μ b0 w.heap.size) (hput h b0 ab) ∧
      Fr w (Wr h μ) I (w.alloc ob) (Wr (hput h b0 ab) (upd μ b0 w.heap.size)) I ∧ HM h μ (hput h b0 ab) (upd μ b0 w.heap.size) := by
  have hget : ∀ i : Nat, i ≠ b0 → (hput h b0 ab)[i]? = h[i]? := fun i hi => by rw [hput_get ab h b0 i hb, if_neg hi]
  have hget0 : (hput h b0 ab)[b0]? = some ab := by rw [hput_get ab h b0 b0 hb, if_pos rfl]
  have hheap : ∀ g, g < w.heap.size → (w.alloc ob).heap[g]? = w.heap[g]? := fun g hg => RowKit.Below.heap_alloc w _ g hg
  have hW : ∀ g o, Wr (hput h b0 ab) (upd μ b0 w.heap.size) g o → Wr h μ g o ∨ w.heap.size ≤ g := by
    rintro g o ⟨i, hi, hx⟩
    by_cases hib : i = b0
    · subst hib
      rw [upd_same] at hi
      injection hi with hi
      exact .inr (by omega)
    · rw [upd_ne _ _ hib] at hi
      rw [hget i hib] at hx
      exact .inl ⟨i, hi, hx⟩
  have hNF : ∀ g : Nat, g < w.heap.size → (∀ x, w.heap[g]? = some x → NF x) → ∀ x, (w.alloc ob).heap[g]? = some x → NF x := by
    intro g hlt hg x hx
    rw [hheap g hlt] at hx
    exact hg x hx
  have F : Fr w (Wr h μ) I (w.alloc ob) (Wr (hput h b0 ab) (upd μ b0 w.heap.size)) I :=
    ⟨rfl, rfl, rfl, by simp, fun g hg _ => hheap g hg, fun g vs' e' fz hg hv => ⟨vs', (hheap g hg).trans hv, rfl, fun _ _ => rfl⟩, hNF, hW, fun _ _ h => h, fun _ _ h => .inl h⟩
  have M : HM h μ (hput h b0 ab) (upd μ b0 w.heap.size) := by
    refine ⟨fun i x hx => ?_, fun i x y hx hy lx ly => ?_⟩
    · by_cases hib : i = b0
      · subst hib
        refine ⟨ab, hget0, ?_⟩
        rcases hh with hh | hh
        · rw [hh] at hx; cases hx
        · rw [hh] at hx; injection hx with hx; subst hx; trivial
      · refine ⟨x, (hget i hib).trans hx, ?_⟩
        obtain ⟨y, hy, k⟩ := (HM.refl h μ).kept i x hx
        rw [hx] at hy; injection hy with hy; subst hy; exact k
    · by_cases hib : i = b0
      · subst hib
        rcases hh with hh | hh
        · rw [hh] at hx; cases hx
        · rw [hh] at hx; injection hx with hx; subst hx; exact lx.elim
      · exact upd_ne _ _ hib
  refine ⟨⟨?_, ?_, ?_, ?_, ?_, R.laid.step R.disj R.ilt F⟩, F, M⟩
  · intro i j x y g hi hj lx ly gi gj
    by_cases hib : i = b0 <;> by_cases hjb : j = b0
    · rw [hib, hjb]
    · subst hib
      rw [upd_same] at gi; injection gi with gi
      rw [upd_ne _ _ hjb] at gj; rw [hget j hjb] at hj
      have := R.lt j y g hj ly gj
      omega
    · subst hjb
      rw [upd_same] at gj; injection gj with gj
      rw [upd_ne _ _ hib] at gi; rw [hget i hib] at hi
      have := R.lt i x g hi lx gi
      omega
    · rw [upd_ne _ _ hib] at gi; rw [hget i hib] at hi
      rw [upd_ne _ _ hjb] at gj; rw [hget j hjb] at hj
      exact R.inj i j x y g hi hj lx ly gi gj
  · intro i x g hi lx gi
    by_cases hib : i = b0
    · subst hib
      rw [upd_same] at gi; injection gi with gi
      simp
      omega
    · rw [upd_ne _ _ hib] at gi; rw [hget i hib] at hi
      have := R.lt i x g hi lx gi
      simp
      omega
  · intro i x hi
    by_cases hib : i = b0
    · subst hib
      rw [hget0] at hi; injection hi with hi; subst hi
      exact hB
    · rw [hget i hib] at hi
      by_cases lx : live x
      · exact RepB.mono M F.shape (R.keptI F) F.im (fun _ => upd_ne _ _ hib) (fun g hg => hheap g (R.lt i x g hi lx hg)) (R.blk i x hi)
      · cases x with
        | hole => trivial
        | gone => trivial
        | var => exact absurd trivial lx
        | arr => exact absurd trivial lx
        | mp => exact absurd trivial lx
  · intro g o hi hw
    rcases hW g o hw with hw | hw
    · exact R.disj g o hi hw
    · have := R.ilt g o hi
      omega
  · intro g o hi
    have := R.ilt g o hi
    simp
    omega

theorem RelH.layO (R : RelH w I μ h) {b0 : Nat} (hb : b0 ≤ h.length) (hh : h[b0]? = none ∨ h[b0]? = some .hole) (ob : Obj) (_hob : NF ob) (ab : AB)
    (hB : RepB (w.alloc ob) I (hput h b0 ab) (upd μ b0 w.heap.size) b0 ab) :
    RelH (w.alloc ob) I (upd μ b0 w.heap.size) (hput h b0 ab) ∧
      Fr w (Wr h μ) I (w.alloc ob) (Wr (hput h b0 ab) (upd μ b0 w.heap.size)) I ∧ HM h μ (hput h b0 ab) (upd μ b0 w.heap.size) :=
  R.layF hb hh ob ab hB

theorem RelH.lay (R : RelH w I μ h) {b0 : Nat} (hb : b0 ≤ h.length) (hh : h[b0]? = none ∨ h[b0]? = some .hole) (vs : Array Value) (e : TypeId) (ab : AB)
    (hB : RepB (w.alloc (.cells vs e (0, 0))) I (hput h b0 ab) (upd μ b0 w.heap.size) b0 ab) :
    RelH (w.alloc (.cells vs e (0, 0))) I (upd μ b0 w.heap.size) (hput h b0 ab) ∧
      Fr w (Wr h μ) I (w.alloc (.cells vs e (0, 0))) (Wr (hput h b0 ab) (upd μ b0 w.heap.size)) I ∧ HM h μ (hput h b0 ab) (upd μ b0 w.heap.size) :=
  R.layO hb hh (.cells vs e (0, 0)) rfl ab hB

/-- A block is written: what is behind what may have turned. -/
theorem RelH.writeF (R : RelH w I μ h) {i g : Nat} {x x' : AB} (hi : h[i]? = some x) (lx : live x) (hg : μ i = some g) (hother : ∀ k, k ≠ g → w'.heap[k]? = w.heap[k]?)
    (hsize : w'.heap.size = w.heap.size) (k : keptB x x') (hWr : ∀ g o, Wr (hput h i x') μ g o → Wr h μ g o) (F : Fr w (Wr h μ) I w' (Wr (hput h i x') μ) I)
    (hB : HM h μ (hput h i x') μ → (∀ (v : Value) (c : AV), Rep w I h μ v c → Rep w' I (hput h i x') μ v c) →
      (∀ (t : Ty) (d : t.den) (cs : List Value), RD w I t d cs → RD w' I t d cs) → RepB w' I (hput h i x') μ i x') :
    RelH w' I μ (hput h i x') ∧ Fr w (Wr h μ) I w' (Wr (hput h i x') μ) I ∧ HM h μ (hput h i x') μ := by
  have hlen : i ≤ h.length := by
    have := (List.getElem?_eq_some_iff.1 hi).1
    omega
  have hget : ∀ j : Nat, j ≠ i → (hput h i x')[j]? = h[j]? := fun j hj => by rw [hput_get x' h i j hlen, if_neg hj]
  have hget0 : (hput h i x')[i]? = some x' := by rw [hput_get x' h i i hlen, if_pos rfl]
  have M : HM h μ (hput h i x') μ := by
    refine ⟨fun j y hy => ?_, fun _ _ _ _ _ _ _ => rfl⟩
    by_cases hji : j = i
    · subst hji
      rw [hi] at hy; injection hy with hy; subst hy
      exact ⟨x', hget0, k⟩
    · refine ⟨y, (hget j hji).trans hy, ?_⟩
      obtain ⟨z, hz, kz⟩ := (HM.refl h μ).kept j y hy
      rw [hy] at hz; injection hz with hz; subst hz; exact kz
  refine ⟨⟨?_, ?_, ?_, ?_, ?_, R.laid.step R.disj R.ilt F⟩, F, M⟩
  · intro a b y z q ha hb ly lz ga gb
    have key : ∀ (a : Nat) (y : AB), (hput h i x')[a]? = some y → live y → ∃ y0, h[a]? = some y0 ∧ live y0 := by
      intro a y ha ly
      by_cases hai : a = i
      · subst hai; exact ⟨x, hi, lx⟩
      · exact ⟨y, (hget a hai).symm.trans ha, ly⟩
    obtain ⟨y0, ha0, ly0⟩ := key a y ha ly
    obtain ⟨z0, hb0, lz0⟩ := key b z hb lz
    exact R.inj a b y0 z0 q ha0 hb0 ly0 lz0 ga gb
  · intro a y q ha ly ga
    rw [hsize]
    by_cases hai : a = i
    · subst hai; exact R.lt a x q hi lx ga
    · exact R.lt a y q ((hget a hai).symm.trans ha) ly ga
  · intro a y ha
    by_cases hai : a = i
    · subst hai
      rw [hget0] at ha; injection ha with ha; subst ha
      exact hB M (fun v c r => r.step R F M) (fun t d cs r => r.mono (R.cell F) (fun _ _ h => h))
    · have ha' := (hget a hai).symm.trans ha
      by_cases ly : live y
      · refine RepB.mono M F.shape (R.keptI F) F.im (fun _ => rfl) (fun q hq => hother q ?_) (R.blk a y ha')
        rintro rfl
        exact hai (R.inj a i y x q ha' hi ly lx hq hg)
      · cases y with
        | hole => trivial
        | gone => trivial
        | var => exact absurd trivial ly
        | arr => exact absurd trivial ly
        | mp => exact absurd trivial ly
  · intro q o hq hw
    exact R.disj q o hq (hWr q o hw)
  · intro q o hq
    rw [hsize]
    exact R.ilt q o hq

/-- A block is written. -/
theorem RelH.write (R : RelH w I μ h) {i g : Nat} {x x' : AB} (hi : h[i]? = some x) (lx : live x) (hg : μ i = some g) {vs vs' : Array Value} {e : TypeId} {fz : Nat × Nat}
    (hv : w.heap[g]? = some (.cells vs e fz)) (hw' : w'.heap[g]? = some (.cells vs' e fz)) (hsz : vs'.size = vs.size) (hother : ∀ k, k ≠ g → w'.heap[k]? = w.heap[k]?)
    (hos : w'.os = w.os) (htp : w'.tape = w.tape) (hout : w'.output = w.output) (hsize : w'.heap.size = w.heap.size)
    (hkeep : ∀ o, ¬ Wr h μ g o → vs'[o]? = vs[o]?) (k : keptB x x') (_lx' : live x') (hWr : ∀ g o, Wr (hput h i x') μ g o → Wr h μ g o)
    (hB : HM h μ (hput h i x') μ → (∀ (v : Value) (c : AV), Rep w I h μ v c → Rep w' I (hput h i x') μ v c) →
      (∀ (t : Ty) (d : t.den) (cs : List Value), RD w I t d cs → RD w' I t d cs) → RepB w' I (hput h i x') μ i x') :
    RelH w' I μ (hput h i x') ∧ Fr w (Wr h μ) I w' (Wr (hput h i x') μ) I ∧ HM h μ (hput h i x') μ := by
  have hlen : i ≤ h.length := by
    have := (List.getElem?_eq_some_iff.1 hi).1
    omega
  have hget : ∀ j : Nat, j ≠ i → (hput h i x')[j]? = h[j]? := fun j hj => by rw [hput_get x' h i j hlen, if_neg hj]
  have hget0 : (hput h i x')[i]? = some x' := by rw [hput_get x' h i i hlen, if_pos rfl]
  have hgl : g < w.heap.size := R.lt i x g hi lx hg
  have F : Fr w (Wr h μ) I w' (Wr (hput h i x') μ) I := by
    refine ⟨hos, htp, hout, by omega, fun k hk hn => ?_, fun k vk ek fz hk hvk => ?_, fun k _ hh x hx => ?_, fun g o hw => .inl (hWr g o hw), fun _ _ h => h, fun _ _ h => .inl h⟩
    · by_cases hkg : k = g
      · subst hkg
        rw [hv, hw']
        congr 2
        apply Array.ext_getElem?
        intro o
        exact hkeep o (hn o)
      · exact hother k hkg
    · by_cases hkg : k = g
      · subst hkg
        rw [hv] at hvk
        injection hvk with hvk
        injection hvk with h1 h2 h3
        subst h1; subst h2; subst h3
        exact ⟨vs', hw', hsz, hkeep⟩
      · exact ⟨vk, (hother k hkg).trans hvk, rfl, fun _ _ => rfl⟩
    · by_cases hkg : k = g
      · subst hkg; rw [hw'] at hx; cases hx; exact (show NF (.cells vs e fz) from hh _ hv)
      · rw [hother k hkg] at hx; exact hh x hx
  exact R.writeF hi lx hg hother hsize k hWr F hB

/-- A map's block, or a range's, is written. -/
theorem RelH.writeMp (R : RelH w I μ h) {i g : Nat} {kt vt : Ty} {l l' : List (kt.den × vt.den)} (hi : h[i]? = some (.mp kt vt l)) (hg : μ i = some g) {ob ob' : Obj}
    (hv : w.heap[g]? = some ob) (hnc : ∀ vs e fz, ob ≠ .cells vs e fz) (hw' : w'.heap[g]? = some ob') (hnf : NF ob') (hother : ∀ k, k ≠ g → w'.heap[k]? = w.heap[k]?)
    (hos : w'.os = w.os) (htp : w'.tape = w.tape) (hout : w'.output = w.output) (hsize : w'.heap.size = w.heap.size)
    (hd : MpAt w' I μ i kt vt l') :
    RelH w' I μ (hput h i (.mp kt vt l')) ∧ Fr w (Wr h μ) I w' (Wr (hput h i (.mp kt vt l')) μ) I ∧ HM h μ (hput h i (.mp kt vt l')) μ := by
  have hlen : i ≤ h.length := by
    have := (List.getElem?_eq_some_iff.1 hi).1
    omega
  have hget : ∀ j : Nat, j ≠ i → (hput h i (.mp kt vt l'))[j]? = h[j]? := fun j hj => by rw [hput_get _ h i j hlen, if_neg hj]
  have hget0 : (hput h i (.mp kt vt l'))[i]? = some (.mp kt vt l') := by rw [hput_get _ h i i hlen, if_pos rfl]
  have hW : ∀ o, Wr h μ g o := fun o => ⟨i, hg, .inr (.inr (.inr ⟨kt, vt, l, hi⟩))⟩
  have hWr : ∀ g o, Wr (hput h i (.mp kt vt l')) μ g o → Wr h μ g o := by
    rintro q o ⟨j, hj, hx⟩
    by_cases hji : j = i
    · subst hji
      rw [hg] at hj; injection hj with hj; subst hj
      exact hW o
    · rw [hget j hji] at hx
      exact ⟨j, hj, hx⟩
  have F : Fr w (Wr h μ) I w' (Wr (hput h i (.mp kt vt l')) μ) I := by
    refine ⟨hos, htp, hout, by omega, fun k hk hn => ?_, fun k vk ek fz hk hvk => ?_, fun k _ hh x hx => ?_, fun g o hw => .inl (hWr g o hw), fun _ _ h => h, fun _ _ h => .inl h⟩
    · by_cases hkg : k = g
      · subst hkg
        exact absurd (hW 0) (hn 0)
      · exact hother k hkg
    · by_cases hkg : k = g
      · subst hkg
        rw [hv] at hvk
        injection hvk with hvk
        exact absurd hvk (hnc _ _ _)
      · exact ⟨vk, (hother k hkg).trans hvk, rfl, fun _ _ => rfl⟩
    · by_cases hkg : k = g
      · subst hkg; rw [hw'] at hx; cases hx; exact hnf
      · rw [hother k hkg] at hx; exact hh x hx
  exact R.writeF hi trivial hg hother hsize (.inr ⟨l', rfl⟩) hWr F fun _ _ _ => hd

/-- A map is written. -/
theorem RelH.writeMap (R : RelH w I μ h) {i g : Nat} {kt vt : Ty} {l l' : List (kt.den × vt.den)} (hi : h[i]? = some (.mp kt vt l)) (hg : μ i = some g) {es es' : Array MapEntry} {c c' : Nat}
    (hv : w.heap[g]? = some (.map es c)) (hw' : w'.heap[g]? = some (.map es' c')) (hother : ∀ k, k ≠ g → w'.heap[k]? = w.heap[k]?)
    (hos : w'.os = w.os) (htp : w'.tape = w.tape) (hout : w'.output = w.output) (hsize : w'.heap.size = w.heap.size)
    (hk : isKey kt = true) (hd : MapD kt vt es' c' l') :
    RelH w' I μ (hput h i (.mp kt vt l')) ∧ Fr w (Wr h μ) I w' (Wr (hput h i (.mp kt vt l')) μ) I ∧ HM h μ (hput h i (.mp kt vt l')) μ :=
  R.writeMp hi hg hv (fun _ _ _ e => by cases e) hw' trivial hother hos htp hout hsize (by rw [MpAt.of hk]; exact ⟨g, es', c', hg, hw', hd⟩)

/-- A map is written no more. -/
theorem RelH.freezeMap (R : RelH w I μ h) {i g : Nat} {kt vt : Ty} {l : List (kt.den × vt.den)} (hi : h[i]? = some (.mp kt vt l)) (hg : μ i = some g) :
    ∃ I', RelH w I' μ (hput h i .gone) ∧ Fr w (Wr h μ) I w (Wr (hput h i .gone) μ) I' ∧ HM h μ (hput h i .gone) μ ∧ ∀ o, I' g o := by
  have hlen : i ≤ h.length := by
    have := (List.getElem?_eq_some_iff.1 hi).1
    omega
  have hget : ∀ j : Nat, j ≠ i → (hput h i .gone)[j]? = h[j]? := fun j hj => by rw [hput_get _ h i j hlen, if_neg hj]
  have hget0 : (hput h i .gone)[i]? = some .gone := by rw [hput_get _ h i i hlen, if_pos rfl]
  have hne : ∀ (j : Nat) (y : AB), (hput h i .gone)[j]? = some y → live y → j ≠ i := by
    rintro j y hy ly rfl
    rw [hget0] at hy; injection hy with hy; subst hy; exact ly
  let I' : Nat → Nat → Prop := fun q o => I q o ∨ q = g
  have M : HM h μ (hput h i .gone) μ := by
    refine ⟨fun j y hy => ?_, fun _ _ _ _ _ _ _ => rfl⟩
    by_cases hji : j = i
    · subst hji
      rw [hi] at hy; injection hy with hy; subst hy
      exact ⟨_, hget0, .inl rfl⟩
    · refine ⟨y, (hget j hji).trans hy, ?_⟩
      obtain ⟨z, hz, kz⟩ := (HM.refl h μ).kept j y hy
      rw [hy] at hz; injection hz with hz; subst hz; exact kz
  have wl : ∀ {j o : Nat}, ((∃ cs, (hput h i .gone)[j]? = some (.var cs)) ∨ (∃ t l, (hput h i .gone)[j]? = some (.arr t l true)) ∨ (∃ t l, (hput h i .gone)[j]? = some (.arr t l false) ∧ l.length * t.sz ≤ o) ∨ (∃ k v l, (hput h i .gone)[j]? = some (.mp k v l))) → ∃ y, (hput h i .gone)[j]? = some y ∧ live y := by
    rintro j o (⟨cs, hx⟩ | ⟨t', l', hx⟩ | ⟨t', l', hx, _⟩ | ⟨_, _, _, hx⟩) <;> exact ⟨_, hx, trivial⟩
  have hWr : ∀ q o, Wr (hput h i .gone) μ q o → Wr h μ q o := by
    rintro q o ⟨j, hj, hx⟩
    obtain ⟨y, hy, ly⟩ := wl hx
    rw [hget j (hne j y hy ly)] at hx
    exact ⟨j, hj, hx⟩
  have F : Fr w (Wr h μ) I w (Wr (hput h i .gone) μ) I' := by
    refine ⟨rfl, rfl, rfl, Nat.le_refl _, fun _ _ _ => rfl, fun g vs e fz _ hv => ⟨vs, hv, rfl, fun _ _ => rfl⟩, fun _ _ hh => hh, fun g o hw => .inl (hWr g o hw), fun _ _ h => .inl h, ?_⟩
    rintro q o (hI | rfl)
    · exact .inl hI
    · exact .inr (.inl ⟨i, hg, .inr (.inr (.inr ⟨kt, vt, l, hi⟩))⟩)
  refine ⟨I', ⟨?_, ?_, ?_, ?_, ?_, R.laid.step R.disj R.ilt F⟩, F, M, fun o => .inr rfl⟩
  · intro a b y z q ha hb ly lz ga gb
    exact R.inj a b y z q ((hget a (hne a y ha ly)).symm.trans ha) ((hget b (hne b z hb lz)).symm.trans hb) ly lz ga gb
  · intro a y q ha ly ga
    exact R.lt a y q ((hget a (hne a y ha ly)).symm.trans ha) ly ga
  · intro a y ha
    by_cases hai : a = i
    · subst hai
      rw [hget0] at ha; injection ha with ha; subst ha
      trivial
    · exact RepB.mono M F.shape (R.keptI F) F.im (fun _ => rfl) (fun _ _ => rfl) (R.blk a y ((hget a hai).symm.trans ha))
  · rintro q o (hq | rfl) hw
    · exact R.disj q o hq (hWr q o hw)
    · obtain ⟨j, hj, hx⟩ := hw
      obtain ⟨y, hy, ly⟩ := wl hx
      have hji := hne j y hy ly
      exact hji (R.inj j i y _ q ((hget j hji).symm.trans hy) hi ly trivial hj hg)
  · rintro q o (hq | rfl)
    · exact R.ilt q o hq
    · exact R.lt i _ q hi trivial hg

/-- An array's elements are written no more. -/
theorem RelH.freeze (R : RelH w I μ h) {i : Nat} {t : Ty} {l : List t.den} {fr : Bool} (hi : h[i]? = some (.arr t l fr)) :
    ∃ I', RelH w I' μ (hput h i (.arr t l false)) ∧ Fr w (Wr h μ) I w (Wr (hput h i (.arr t l false)) μ) I' ∧ HM h μ (hput h i (.arr t l false)) μ ∧
      (∀ g, μ i = some g → l ≠ [] → ∀ o, o < l.length * t.sz → I' g o) := by
  have hlen : i ≤ h.length := by
    have := (List.getElem?_eq_some_iff.1 hi).1
    omega
  have hget : ∀ j : Nat, j ≠ i → (hput h i (.arr t l false))[j]? = h[j]? := fun j hj => by rw [hput_get _ h i j hlen, if_neg hj]
  have hget0 : (hput h i (.arr t l false))[i]? = some (.arr t l false) := by rw [hput_get _ h i i hlen, if_pos rfl]
  let I' : Nat → Nat → Prop := fun g o => I g o ∨ (μ i = some g ∧ l ≠ [] ∧ o < l.length * t.sz)
  have M : HM h μ (hput h i (.arr t l false)) μ := by
    refine ⟨fun j y hy => ?_, fun _ _ _ _ _ _ _ => rfl⟩
    by_cases hji : j = i
    · subst hji
      rw [hi] at hy; injection hy with hy; subst hy
      exact ⟨_, hget0, .inr ⟨l, false, rfl, rfl⟩⟩
    · refine ⟨y, (hget j hji).trans hy, ?_⟩
      obtain ⟨z, hz, kz⟩ := (HM.refl h μ).kept j y hy
      rw [hy] at hz; injection hz with hz; subst hz; exact kz
  have hWr : ∀ g o, Wr (hput h i (.arr t l false)) μ g o → Wr h μ g o := by
    rintro g o ⟨j, hj, hx⟩
    by_cases hji : j = i
    · subst hji
      rw [hget0] at hx
      refine ⟨j, hj, ?_⟩
      cases fr with
      | true => exact .inr (.inl ⟨t, l, hi⟩)
      | false =>
        refine .inr (.inr (.inl ⟨t, l, hi, ?_⟩))
        rcases hx with ⟨cs, hx⟩ | ⟨t', l', hx⟩ | ⟨t', l', hx, ho⟩ | ⟨_, _, _, hx⟩
        · injection hx with hx; cases hx
        · injection hx with hx; cases hx
        · injection hx with hx; cases hx; exact ho
        · injection hx with hx; cases hx
    · rw [hget j hji] at hx
      exact ⟨j, hj, hx⟩
  have F : Fr w (Wr h μ) I w (Wr (hput h i (.arr t l false)) μ) I' := by
    refine ⟨rfl, rfl, rfl, Nat.le_refl _, fun _ _ _ => rfl, fun g vs e fz _ hv => ⟨vs, hv, rfl, fun _ _ => rfl⟩, fun _ _ hh => hh, fun g o hw => .inl (hWr g o hw), fun _ _ h => .inl h, ?_⟩
    rintro g o (hI | ⟨hg, hne, ho⟩)
    · exact .inl hI
    · cases fr with
      | true => exact .inr (.inl ⟨i, hg, .inr (.inl ⟨t, l, hi⟩)⟩)
      | false =>
        rcases R.blk i _ hi with hnil | ⟨g', vs, e, h1, h2, h3, h4, h5⟩
        · exact absurd hnil hne
        · rw [hg] at h1; injection h1 with h1; subst h1
          exact .inl (h5 rfl o ho)
  refine ⟨I', ⟨?_, ?_, ?_, ?_, ?_, R.laid.step R.disj R.ilt F⟩, F, M, fun g hg hne o ho => .inr ⟨hg, hne, ho⟩⟩
  · intro a b y z q ha hb ly lz ga gb
    have key : ∀ (a : Nat) (y : AB), (hput h i (.arr t l false))[a]? = some y → live y → ∃ y0, h[a]? = some y0 ∧ live y0 := by
      intro a y ha ly
      by_cases hai : a = i
      · subst hai; exact ⟨_, hi, trivial⟩
      · exact ⟨y, (hget a hai).symm.trans ha, ly⟩
    obtain ⟨y0, ha0, ly0⟩ := key a y ha ly
    obtain ⟨z0, hb0, lz0⟩ := key b z hb lz
    exact R.inj a b y0 z0 q ha0 hb0 ly0 lz0 ga gb
  · intro a y q ha ly ga
    by_cases hai : a = i
    · subst hai; exact R.lt a _ q hi trivial ga
    · exact R.lt a y q ((hget a hai).symm.trans ha) ly ga
  · intro a y ha
    by_cases hai : a = i
    · subst hai
      rw [hget0] at ha; injection ha with ha; subst ha
      rcases R.blk a _ hi with hnil | ⟨g', vs, e, h1, h2, h3, h4, h5⟩
      · exact .inl hnil
      · by_cases hne : l = []
        · exact .inl hne
        · exact .inr ⟨g', vs, e, h1, h2, h3, fun k hk => (h4 k hk).mono (fun _ _ _ _ h => h) (fun _ _ h => .inl h), fun _ o ho => .inr ⟨h1, hne, ho⟩⟩
    · exact RepB.mono M F.shape (R.keptI F) F.im (fun _ => rfl) (fun _ _ => rfl) (R.blk a y ((hget a hai).symm.trans ha))
  · rintro q o (hq | ⟨hq, hne, ho⟩) hw
    · exact R.disj q o hq (hWr q o hw)
    · obtain ⟨j, hj, hx⟩ := hw
      by_cases hji : j = i
      · subst hji
        rw [hget0] at hx
        rcases hx with ⟨cs, hx⟩ | ⟨t', l', hx⟩ | ⟨t', l', hx, ho'⟩ | ⟨_, _, _, hx⟩
        · injection hx with hx; cases hx
        · injection hx with hx; cases hx
        · injection hx with hx; cases hx; omega
        · injection hx with hx; cases hx
      · rw [hget j hji] at hx
        have : ∃ y, h[j]? = some y ∧ live y := by
          rcases hx with ⟨cs, hx⟩ | ⟨t', l', hx⟩ | ⟨t', l', hx, _⟩ | ⟨_, _, _, hx⟩
          · exact ⟨_, hx, trivial⟩
          · exact ⟨_, hx, trivial⟩
          · exact ⟨_, hx, trivial⟩
          · exact ⟨_, hx, trivial⟩
        obtain ⟨y, hy, ly⟩ := this
        exact hji (R.inj j i y _ q hy hi ly trivial hj hq)
  · rintro q o (hq | ⟨hq, _, _⟩)
    · exact R.ilt q o hq
    · exact R.lt i _ q hi trivial hq
end
end Go.AM
