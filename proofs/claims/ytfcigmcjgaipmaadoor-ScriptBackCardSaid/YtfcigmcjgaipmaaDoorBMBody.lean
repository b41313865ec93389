/-
  AM, part 19: what must hold for a piece of code ('aCode'); loops; a function by its body. All of it is sound.
-/
import Derived.Test.YtfcigmcjgaipmaaDoorBMDraw3
namespace Go.AM
set_option linter.unusedSectionVars false
variable [Lay] [Dfr]

/-- How a piece of code is left. -/
def XRep (w : World) (I : Nat → Nat → Prop) (h : Heap) (μ : Nat → Option Nat) : Exit → AX → Prop
  | .normal, .normal => True
  | .exit i, .exit j => i = j
  | .ret, .ret => True
  | .panic chain, .panic x => ∃ v, chain = [{ v, recovered := false }] ∧ Rep w I h μ v x
  | _, _ => False

def CQ (F : Fp) (w0 : World) (I0 : Nat → Nat → Prop) (μ0 : Nat → Option Nat) (h0 : Heap) (K : AX → Slots → Heap → Prop) (e : Exit) (a : Act) (w : World) : Prop :=
  ∃ x I μ h s, SR F w0 I0 μ0 h0 w I μ h a s ∧ XRep w I h μ e x ∧ K x s h

/-- Code that goes where K says, whatever the machine's memory. -/
@[irreducible] def Ok (E : Env) (F : Fp) (c : Code) (K : AX → Slots → Heap → Prop) (s : Slots) (h : Heap) : Prop :=
  ∀ (w0 : World) (I0 : Nat → Nat → Prop) (μ0 : Nat → Option Nat) (h0 : Heap), h0.length = F.n0 → ∀ (w : World) (I : Nat → Nat → Prop) (μ : Nat → Option Nat) (a : Act), SR F w0 I0 μ0 h0 w I μ h a s → c.wp E.P (CQ F w0 I0 μ0 h0 K) a w

/-- What a loop is told by: states, each of one thing x; what holds of x; a number that goes down. -/
structure LoopAt (X : Type) where
  inv : X → Prop
  st : X → Slots × Heap
  m : X → Nat

def seqK (K : AX → Slots → Heap → Prop) (next : Slots → Heap → Prop) (e : AX) (s : Slots) (h : Heap) : Prop :=
  match e with
  | .normal => next s h
  | .exit i => K (.exit i) s h
  | .ret => K .ret s h
  | .panic v => K (.panic v) s h
def blockK (id : Nat) (K : AX → Slots → Heap → Prop) (e : AX) (s : Slots) (h : Heap) : Prop :=
  match e with
  | .normal => K .normal s h
  | .exit i => match Nat.beq i id with | true => K .normal s h | false => K (.exit i) s h
  | .ret => K .ret s h
  | .panic v => K (.panic v) s h

/-- How many ways lead through a piece of code; how many lead out of it to a block's end. -/
def waysOut (id : Nat) : Code → Nat
  | .seq a b => waysOut id a + waysOut id b
  | .cond _ a b => waysOut id a + waysOut id b
  | .block _ c => waysOut id c
  | .loop c => waysOut id c
  | .exit j => match Nat.beq j id with | true => 1 | false => 0
  | _ => 0
def ways : Code → Nat
  | .skip => 1
  | .seq a b => match ways a with | 0 => 0 | _ => ways b
  | .cond _ a b => ways a + ways b
  | .block id c => ways c + waysOut id c
  | .region _ _ _ => 1
  | _ => 0

/-- Where ways meet: on with the state as it is, or as it is told anew. -/
@[irreducible] def jn (n0 : Nat) (k : Slots → Heap → Prop) (s : Slots) (h : Heap) : Prop := k s h ∨ ∃ (fz : List Nat) (ρ : List Src) (s' : Slots) (h' : Heap), View n0 fz ρ s h s' h' ∧ k s' h'
def aNext (j : Bool) (n0 : Nat) (k : Slots → Heap → Prop) (s : Slots) (h : Heap) : Prop :=
  match j with
  | true => jn n0 k s h
  | false => k s h

def aCode (E : Env) (F : Fp) : Code → (AX → Slots → Heap → Prop) → Slots → Heap → Prop
  | .skip, K, s, h => K .normal s h
  | .seq a b, K, s, h => aCode E F a (seqK K (aNext (F.jn && Nat.ble 2 (ways a)) F.n0 (aCode E F b K))) s h
  | .cond c a b, K, s, h =>
    match ev E s 0 c with
    | .t => aCode E F a K s h
    | .f => aCode E F b K s h
    | .bool t => aIf t (aCode E F a K s h) (aCode E F b K s h)
    | _ => False
  | .block id c, K, s, h => aCode E F c (blockK id K) s h
  | .loop c, K, s, h => ∃ (X : Type) (L : LoopAt X) (x0 : X) (fz : List Nat) (ρ : List Src), L.inv x0 ∧ View F.n0 fz ρ s h (L.st x0).1 (L.st x0).2 ∧
      ∀ x, L.inv x → aCode E F c (seqK K fun s h => ∃ (y : X) (fz : List Nat) (ρ : List Src), L.inv y ∧ L.m y < L.m x ∧ View F.n0 fz ρ s h (L.st y).1 (L.st y).2) (L.st x).1 (L.st x).2
  | .exit i, K, s, h => K (.exit i) s h
  | .ret, K, s, h => K .ret s h
  | .region _ ops false, K, s, h => aOps E F ops.toList (K .normal) (fun v => K (.panic v)) ops.toList s h
  | .region _ ops true, K, s, h => aDr E F ops.toList (h.length + ops.size) (drawK F.n0 (K .normal)) (fun v h => K (.panic v) [] h) ops.toList [] s h
  | _, _, _, _ => False

section
variable {E : Env} {F : Fp} {w w0 : World} {I I0 : Nat → Nat → Prop} {h h0 h' : Heap} {μ μ0 : Nat → Option Nat} {a : Act} {s s' : Slots}

theorem CQ.mono {K K' : AX → Slots → Heap → Prop} (hk : ∀ x s h, K x s h → K' x s h) {e : Exit} {a : Act} {w : World} (hq : CQ F w0 I0 μ0 h0 K e a w) : CQ F w0 I0 μ0 h0 K' e a w := by
  obtain ⟨x, I, μ, h, s, S, hx, hk'⟩ := hq
  exact ⟨x, I, μ, h, s, S, hx, hk _ _ _ hk'⟩

/-- A loop by a relation of whatever kind. -/
theorem wp_loop_rel {P : Program} {c : Code} {Q : Exit → Act → World → Prop} {Y : Type} (J : Y → Act → World → Prop) (m : Y → Nat)
    (round : ∀ y a w, J y a w → c.wp P (Exit.then (fun a' w' => ∃ z, J z a' w' ∧ m z < m y) Q) a w) {y : Y} {a : Act} {w : World} (h0 : J y a w) : (Code.loop c).wp P Q a w := by
  intro b k cs
  have key : ∀ n y a w, m y = n → J y a w → ∃ e a' w', Q e a' w' ∧ Arrives P (lone (b.at a (.code c :: .inLoop c :: k)) cs w) b k cs e a' w' := by
    intro n
    induction n using Nat.strongRecOn with
    | _ n ih =>
      intro y a w hn hJ
      obtain ⟨e, a₁, w₁, hq, harr⟩ := round y a w hJ b (.inLoop c :: k) cs
      cases e with
      | normal =>
        obtain ⟨z, hJ1, hlt⟩ := hq
        obtain ⟨e₂, a₂, w₂, hq₂, harr₂⟩ := ih (m z) (hn ▸ hlt) z a₁ w₁ rfl hJ1
        exact ⟨e₂, a₂, w₂, hq₂, .of_steps (Steps.trans harr (.one step_inLoop)) harr₂⟩
      | exit id => exact ⟨_, a₁, w₁, hq, .pass (x := .inLoop c) rfl (fun _ _ => .inl (by simp)) harr⟩
      | goto l => exact ⟨_, a₁, w₁, hq, .pass (x := .inLoop c) rfl (fun _ _ => .inl (by simp)) harr⟩
      | ret => exact ⟨_, a₁, w₁, hq, .pass (x := .inLoop c) rfl (fun _ _ => .inl (by simp)) harr⟩
      | panic ch => exact ⟨_, a₁, w₁, hq, .pass (x := .inLoop c) rfl (fun _ _ => .inl (by simp)) harr⟩
      | outgrown => exact ⟨_, a₁, w₁, hq, .pass (x := .inLoop c) rfl (fun _ _ => .inl (by simp)) harr⟩
  obtain ⟨e, a', w', hq, harr⟩ := key _ y a w rfl h0
  exact ⟨e, a', w', hq, .of_steps (.one step_loop) harr⟩

/-- From a piece's own post to that of two. -/
theorem seq_post {K : AX → Slots → Heap → Prop} {next : Slots → Heap → Prop} {N : Act → World → Prop} (hn : ∀ a w I μ h s, SR F w0 I0 μ0 h0 w I μ h a s → next s h → N a w) {e : Exit} {a : Act} {w : World}
    (hq : CQ F w0 I0 μ0 h0 (seqK K next) e a w) : Exit.then N (CQ F w0 I0 μ0 h0 K) e a w := by
  obtain ⟨x, I, μ, h, s, S, hx, hk⟩ := hq
  cases e with
  | normal =>
    cases x with
    | normal => exact hn _ _ _ _ _ _ S hk
    | _ => exact hx.elim
  | exit i =>
    cases x with
    | exit j => exact ⟨.exit j, I, μ, h, s, S, hx, hk⟩
    | _ => exact hx.elim
  | ret =>
    cases x with
    | ret => exact ⟨.ret, I, μ, h, s, S, hx, hk⟩
    | _ => exact hx.elim
  | panic chain =>
    cases x with
    | panic v => exact ⟨.panic v, I, μ, h, s, S, hx, hk⟩
    | _ => exact hx.elim
  | goto l => cases x <;> exact hx.elim
  | outgrown => cases x <;> exact hx.elim

theorem block_post {K : AX → Slots → Heap → Prop} {id : Nat} {e : Exit} {a : Act} {w : World} (hq : CQ F w0 I0 μ0 h0 (blockK id K) e a w) : Exit.inBlock id (CQ F w0 I0 μ0 h0 K) e a w := by
  obtain ⟨x, I, μ, h, s, S, hx, hk⟩ := hq
  cases e with
  | normal =>
    cases x with
    | normal => exact ⟨.normal, I, μ, h, s, S, hx, hk⟩
    | _ => exact hx.elim
  | exit i =>
    cases x with
    | exit j =>
      obtain rfl : i = j := hx
      simp only [blockK] at hk
      simp only [Exit.inBlock]
      split at hk
      · rename_i hb
        rw [if_pos (Nat.eq_of_beq_eq_true hb)]
        exact ⟨.normal, I, μ, h, s, S, trivial, hk⟩
      · rename_i hb
        rw [if_neg (by rintro rfl; rw [Nat.beq_refl] at hb; cases hb)]
        exact ⟨.exit i, I, μ, h, s, S, rfl, hk⟩
    | _ => exact hx.elim
  | ret =>
    cases x with
    | ret => exact ⟨.ret, I, μ, h, s, S, hx, hk⟩
    | _ => exact hx.elim
  | panic chain =>
    cases x with
    | panic v => exact ⟨.panic v, I, μ, h, s, S, hx, hk⟩
    | _ => exact hx.elim
  | goto l => cases x <;> exact hx.elim
  | outgrown => cases x <;> exact hx.elim

theorem ops_post {K : AX → Slots → Heap → Prop} {e : Exit} {a : Act} {w : World} (hq : OQ' F w0 I0 μ0 h0 (K .normal) (fun v => K (.panic v)) e a w) : CQ F w0 I0 μ0 h0 K e a w := by
  obtain ⟨I, μ, h, s, S, hq⟩ := hq
  rcases hq with ⟨rfl, hk⟩ | ⟨v, x, rfl, hr, hk⟩
  · exact ⟨.normal, I, μ, h, s, S, trivial, hk⟩
  · exact ⟨.panic x, I, μ, h, s, S, ⟨v, rfl, hr⟩, hk⟩

theorem aCode_wp (hE : EnvOK E) (hn0 : h0.length = F.n0) : ∀ (c : Code) (K : AX → Slots → Heap → Prop) (s : Slots) (h : Heap) (w : World) (I : Nat → Nat → Prop) (μ : Nat → Option Nat) (a : Act), SR F w0 I0 μ0 h0 w I μ h a s →
    aCode E F c K s h → c.wp E.P (CQ F w0 I0 μ0 h0 K) a w := by
  intro c
  induction c with
  | skip => intro K s h w I μ a S hk; exact wp_skip ⟨.normal, I, μ, h, s, S, trivial, hk⟩
  | seq x y ihx ihy =>
    intro K s h w I μ a S hk
    refine wp_seq (Code.wp_mono (fun e a w hq => ?_) (ihx _ s h w I μ a S hk))
    refine seq_post (fun a w I μ h s S hk => ?_) hq
    cases hj : (F.jn && Nat.ble 2 (ways x)) with
    | false => rw [hj] at hk; exact ihy K s h w I μ a S hk
    | true =>
      rw [hj] at hk
      have hk : jn F.n0 (aCode E F y K) s h := hk
      unfold jn at hk
      rcases hk with hk | ⟨fz, ρ, s', h', hv, hk⟩
      · exact ihy K s h w I μ a S hk
      · obtain ⟨I', μ', S'⟩ := hv.sr S hn0
        exact ihy K s' h' w I' μ' a S' hk
  | cond c x y ihx ihy =>
    intro K s h w I μ a S hk
    simp only [aCode] at hk
    have r := ev_rep (E := E) S.slots 0 c
    split at hk
    · rename_i he
      rw [he] at r
      exact wp_cond_true (rep_bool r rfl) (ihx K s h w I μ a S hk)
    · rename_i he
      rw [he] at r
      exact wp_cond_false (rep_bool r rfl) (ihy K s h w I μ a S hk)
    · rename_i t he
      rw [he] at r
      obtain ⟨h1, h2⟩ := aIf_get hk
      refine wp_cond_split (rep_bool r rfl) (fun ht => ihx K s h w I μ a S (h1 ht)) (fun ht => ihy K s h w I μ a S (h2 ht))
    · exact hk.elim
  | block id c ih =>
    intro K s h w I μ a S hk
    exact wp_block (Code.wp_mono (fun e a w hq => block_post hq) (ih _ s h w I μ a S hk))
  | loop c ih =>
    intro K s h w I μ a S hk
    obtain ⟨X, L, x0, fz, ρ, hi, hv, hround⟩ := hk
    let J : X → Act → World → Prop := fun x a w => L.inv x ∧ ∃ I μ, SR F w0 I0 μ0 h0 w I μ (L.st x).2 a (L.st x).1
    refine wp_loop_rel J L.m (fun x a w hJ => ?_) (y := x0) ⟨hi, hv.sr S hn0⟩
    obtain ⟨hix, I, μ, S⟩ := hJ
    refine Code.wp_mono (fun e a w hq => ?_) (ih _ _ _ w I μ a S (hround x hix))
    refine seq_post (fun a w I μ h s S hk => ?_) hq
    obtain ⟨y, fz, ρ, hy, hlt, hv⟩ := hk
    exact ⟨y, ⟨hy, hv.sr S hn0⟩, hlt⟩
  | exit i => intro K s h w I μ a S hk; exact wp_exit ⟨.exit i, I, μ, h, s, S, rfl, hk⟩
  | ret => intro K s h w I μ a S hk; exact wp_ret ⟨.ret, I, μ, h, s, S, trivial, hk⟩
  | region id ops draw =>
    intro K s h w I μ a S hk
    cases draw with
    | false =>
      exact Code.wp_mono (fun e a w hq => ops_post hq) (wp_region_list (aOps_sound hE ops.toList a w I μ h s S hk))
    | true => exact wp_region_dr hE hE.mixed hn0 hk S (fun a w I μ h s S hk => ⟨.normal, I, μ, h, s, S, trivial, hk⟩) (fun a w I μ h v x S hr hx => ⟨.panic x, I, μ, h, [], S, ⟨v, rfl, hr⟩, hx⟩)
  | rangeFunc f ps x y _ _ => intro K s h w I μ a S hk; exact hk.elim
  | scope c _ => intro K s h w I μ a S hk; exact hk.elim
  | label l => intro K s h w I μ a S hk; exact hk.elim
  | goto l => intro K s h w I μ a S hk; exact hk.elim
  | refuse why => intro K s h w I μ a S hk; exact hk.elim
end
end Go.AM
