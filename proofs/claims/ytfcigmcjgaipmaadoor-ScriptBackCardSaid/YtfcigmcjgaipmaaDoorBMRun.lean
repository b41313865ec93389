/-
  BM, part 30: a tree, run by what is known of the calls and of the pieces at its cuts.
-/
import Derived.Test.YtfcigmcjgaipmaaDoorBMShape
namespace Go.AM
set_option linter.unusedSectionVars false
variable [Lay]
set_option linter.unusedVariables false

section
variable {E : Env} {F : Fp} {w w0 : World} {I I0 : Nat → Nat → Prop} {h h0 h' : Heap} {μ μ0 : Nat → Option Nat} {a : Act} {s s' : Slots}

theorem decSt0_view {n0 : Nat} {S : SS} {x : S.ty.den} (hd : decSt0 n0 S s h = some x) : ∃ ρ, View n0 [] ρ s h (S.slots x) (S.heap x) := by
  unfold decSt0 at hd
  split at hd
  · cases hd
  · rename_i ρ hρ
    split at hd
    · rename_i u v hn hu hw
      split at hd
      · rename_i hb
        injection hd with hd
        subst hd
        refine ⟨ρ, ?_, ?_, ?_⟩
        · simp only [SS.heap, tsnd_mk, hb, hn, Bool.and_self]
        · simp only [SS.heap, tsnd_mk]; exact decH_view _ _ _ hw
        · simp only [SS.slots, tfst_mk]; exact decSl_view _ _ hu
      · cases hd
    · cases hd

theorem resF_rep (R : RelH w I μ h) {fz : List Nat} {g : Nat → AB} {v : Value} {x : AV} (r : Rep w I h μ v x) (hfz : ∀ b ∈ fz, ∀ t l fr, g b = .arr t l fr → h[b]? = some (.arr t l false)) : Rep w I h μ v (resF fz g x) := by
  unfold resF
  split
  · rename_i hall
    refine res_rep R r fun b hb t l fr hg => hfz b ?_ t l fr hg
    have := List.all_eq_true.1 hall b hb
    obtain ⟨c, hc, he⟩ := List.any_eq_true.1 this
    rw [Nat.eq_of_beq_eq_true he]
    exact hc
  · exact r

mutual
theorem daS_fz (hp : List BSh) : ∀ (sh : Sh) (v : AV) (b : Nat), b ∈ daS sh v → b ∈ fzS hp sh v
  | .d _, v, b, h => by unfold daS at h; unfold fzS; exact h
  | .fx w, v, b, h => by unfold daS at h; cases h
  | .agg l, v, b, h => by
    cases v <;> first | (unfold daS at h; cases h; done) | skip
    unfold daS at h; unfold fzS; exact daL_fz hp l _ b h
  | .tup l, v, b, h => by
    cases v <;> first | (unfold daS at h; cases h; done) | skip
    unfold daS at h; unfold fzS; exact daL_fz hp l _ b h
  | .fn f a c, v, b, h => by
    cases v <;> first | (unfold daS at h; cases h; done) | skip
    unfold daS at h; unfold fzS
    rcases List.mem_append.1 h with h | h
    · exact List.mem_append_left _ (daL_fz hp a _ b h)
    · exact List.mem_append_right _ (daL_fz hp c _ b h)
  | .iface t s, v, b, h => by
    cases v <;> first | (unfold daS at h; cases h; done) | skip
    unfold daS at h; unfold fzS; exact daS_fz hp s _ b h
  | .ep _ _ _, v, b, h => by unfold daS at h; cases h
  | .ip _ _, v, b, h => by unfold daS at h; cases h
  | .fm _ _, v, b, h => by unfold daS at h; cases h
  | .fs _, v, b, h => by unfold daS at h; cases h
theorem daL_fz (hp : List BSh) : ∀ (l : List Sh) (vs : List AV) (b : Nat), b ∈ daS.daL l vs → b ∈ fzS.fzL hp l vs
  | [], vs, b, h => by unfold daS.daL at h; cases h
  | s :: r, [], b, h => by unfold daS.daL at h; cases h
  | s :: r, v :: vs, b, h => by
    unfold daS.daL at h; unfold fzS.fzL
    rcases List.mem_append.1 h with h | h
    · exact List.mem_append_left _ (daS_fz hp s v b h)
    · exact List.mem_append_right _ (daL_fz hp r vs b h)
end

theorem resSl_lkp (hp : List BSh) {g : Nat → AB} : ∀ (l : List (Nat × Sh)) (i : Nat), lkp i (resSl g s l) = .junk ∨ ∃ q : List Nat, (∀ b ∈ q, b ∈ fzSl hp s l) ∧ lkp i (resSl g s l) = resF q g (lkp i s)
  | [], _ => .inl rfl
  | p :: r, i => by
    have e : lkp i (resSl g s (p :: r)) = (match Nat.beq i p.1 with | true => resF (daS p.2 (lkp p.1 s)) g (lkp p.1 s) | false => lkp i (resSl g s r)) := rfl
    rw [e]
    cases hb : Nat.beq i p.1 with
    | true =>
      rw [Nat.eq_of_beq_eq_true hb]
      exact .inr ⟨_, fun b h => List.mem_append_left _ (daS_fz hp _ _ _ h), rfl⟩
    | false =>
      rcases resSl_lkp hp r i with h | ⟨q, h1, h2⟩
      · exact .inl h
      · exact .inr ⟨q, fun b h => List.mem_append_right _ (h1 b h), h2⟩

theorem daB_fz (hp : List BSh) (b : BSh) (x : AB) : ∀ q ∈ daB b x, q ∈ fzB hp b x := by
  intro q hq
  cases b <;> cases x <;> first | exact daL_fz hp _ _ q hq | exact hq

/-- A block's parts told otherwise. -/
theorem RelH.revar {m : Nat} {cs1 cs2 : List AV} (R : RelH w I μ h) (hm : h[m]? = some (.var cs1)) (hr : RepB w I h μ m (.var cs2)) :
    RelH w I μ (hput h m (.var cs2)) ∧ Fr w (Wr h μ) I w (Wr (hput h m (.var cs2)) μ) I ∧ HM h μ (hput h m (.var cs2)) μ := by
  obtain ⟨g, vs, e, h1, h2, h3, h4⟩ := hr
  have hlen : m ≤ h.length := by
    have := (List.getElem?_eq_some_iff.1 hm).1
    omega
  have hget : ∀ j : Nat, j ≠ m → (hput h m (.var cs2))[j]? = h[j]? := fun j hj => by rw [hput_get _ h m j hlen, if_neg hj]
  have hself : (hput h m (.var cs2))[m]? = some (.var cs2) := by rw [hput_get _ h m m hlen, if_pos rfl]
  have hWr : ∀ g o, Wr (hput h m (.var cs2)) μ g o → Wr h μ g o := by
    rintro g o ⟨i, hi, hx⟩
    by_cases e : i = m
    · subst e
      exact ⟨i, hi, .inl ⟨_, hm⟩⟩
    · rw [hget i e] at hx
      exact ⟨i, hi, hx⟩
  exact R.writeF hm trivial h1 (fun _ _ => rfl) rfl ⟨_, rfl⟩ hWr
    ⟨rfl, rfl, rfl, Nat.le_refl _, fun _ _ _ => rfl, fun _ vs _ _ _ h => ⟨vs, h, rfl, fun _ _ => rfl⟩, fun _ _ hh => hh, fun g o hw => .inl (hWr g o hw), fun _ _ h => h, fun _ _ h => .inl h⟩
    (fun _ hrep _ => ⟨g, vs, e, h1, h2, h3, fun k v c e1 e2 => hrep v c (h4 k v c e1 e2)⟩)

theorem revars {g0 : Nat → AB} {fz : List Nat} : ∀ (l : List (Nat × AB)) (I : Nat → Nat → Prop) (h1 : Heap), (∀ p ∈ l, ∃ (cs : List AV) (q : List Nat), g0 p.1 = .var cs ∧ p.2 = .var (cs.map (resF q g0)) ∧ ∀ b ∈ q, b ∈ fz) →
    RelH w I μ h1 → (∀ m cs, g0 m = .var cs → (∃ cs1, h1[m]? = some (.var cs1)) ∧ RepB w I h1 μ m (.var cs)) → (∀ b ∈ fz, ∀ t l fr, g0 b = .arr t l fr → h1[b]? = some (.arr t l false)) →
    RelH w I μ (hputs h1 l) ∧ Fr w (Wr h1 μ) I w (Wr (hputs h1 l) μ) I ∧ HM h1 μ (hputs h1 l) μ
  | [], I, h1, _, R, _, _ => ⟨R, Fr.refl _ _ _, HM.refl _ _⟩
  | p :: r, I, h1, hl, R, V, A => by
    obtain ⟨cs, q, hg, hp, hq⟩ := hl p (by simp)
    obtain ⟨m, x⟩ := p
    simp only at hg hp
    subst hp
    obtain ⟨⟨cs1, hm⟩, hrep⟩ := V m cs hg
    have hrep2 : RepB w I h1 μ m (.var (cs.map (resF q g0))) := by
      obtain ⟨g, vs, e, k1, k2, k3, k4⟩ := hrep
      refine ⟨g, vs, e, k1, k2, by simpa using k3, fun k v c e1 e2 => ?_⟩
      rw [List.getElem?_map] at e2
      cases hc : cs[k]? with
      | none => rw [hc] at e2; cases e2
      | some c0 =>
        rw [hc] at e2
        simp at e2
        subst e2
        exact resF_rep R (k4 k v c0 e1 hc) fun b hb t l fr hgb => A b (hq b hb) t l fr hgb
    obtain ⟨R2, F2, M2⟩ := R.revar hm hrep2
    have hlen : m ≤ h1.length := by
      have := (List.getElem?_eq_some_iff.1 hm).1
      omega
    have V2 : ∀ k cs2, g0 k = .var cs2 → (∃ cs3, (hput h1 m (.var (List.map (resF q g0) cs)))[k]? = some (.var cs3)) ∧ RepB w I (hput h1 m (.var (List.map (resF q g0) cs))) μ k (.var cs2) := by
      intro k cs' hk
      obtain ⟨⟨c1, hc1⟩, hrep'⟩ := V k cs' hk
      refine ⟨?_, ?_⟩
      · rw [hput_get _ h1 m k hlen]
        split
        · exact ⟨_, rfl⟩
        · exact ⟨c1, hc1⟩
      · obtain ⟨g, vs, e, k1, k2, k3, k4⟩ := hrep'
        exact ⟨g, vs, e, k1, k2, k3, fun k v c e1 e2 => (k4 k v c e1 e2).step R F2 M2⟩
    have A2 : ∀ b ∈ fz, ∀ t l fr, g0 b = .arr t l fr → (hput h1 m (.var (List.map (resF q g0) cs)))[b]? = some (.arr t l false) := by
      intro b hb t l fr hgb
      rw [hput_get _ h1 m b hlen, if_neg]
      · exact A b hb t l fr hgb
      · rintro rfl
        rw [hg] at hgb
        cases hgb
    obtain ⟨R3, F3, M3⟩ := revars r I (hput h1 m (.var (List.map (resF q g0) cs))) (fun p hp => hl p (by simp [hp])) R2 V2 A2
    exact ⟨R3, F2.trans F3, M2.trans M3⟩

theorem fzHp_sub (hp : List BSh) (h : Heap) : ∀ (ρ : List Src) (l : List BSh), ∀ p ∈ resHp h ρ l, ∃ (cs : List AV) (q : List Nat), hget h p.1 = .var cs ∧ p.2 = .var (cs.map (resF q (hget h))) ∧ ∀ b ∈ q, b ∈ fzHp hp h ρ l
  | [], _, p, hp' => by unfold resHp at hp'; cases hp'
  | .emp t f :: ρ, [], p, hp' => by unfold resHp at hp'; cases hp'
  | .no t :: ρ, [], p, hp' => by unfold resHp at hp'; cases hp'
  | .no t :: ρ, b :: l, p, hp' => by
    unfold resHp at hp'
    unfold fzHp
    exact fzHp_sub hp h ρ l p hp'
  | .old m :: ρ, [], p, hp' => by unfold resHp at hp'; cases hp'
  | .emp t f :: ρ, b :: l, p, hp' => by
    unfold resHp at hp'
    unfold fzHp
    exact fzHp_sub hp h ρ l p hp'
  | .old m :: ρ, b :: l, p, hp' => by
    have ih := fzHp_sub hp h ρ l p
    unfold resHp at hp'
    unfold fzHp
    split at hp'
    · rename_i cs x xs e1 e2
      rcases List.mem_cons.1 hp' with rfl | hp'
      · exact ⟨cs, x :: xs, e1, rfl, fun c hc => List.mem_append_left _ (daB_fz hp b _ c (e2 ▸ hc))⟩
      · obtain ⟨cs', q, k1, k2, k3⟩ := ih hp'
        exact ⟨cs', q, k1, k2, fun c hc => List.mem_append_right _ (k3 c hc)⟩
    · obtain ⟨cs', q, k1, k2, k3⟩ := ih hp'
      exact ⟨cs', q, k1, k2, fun c hc => List.mem_append_right _ (k3 c hc)⟩

theorem SR.dec {S : SS} {x : S.ty.den} (S0 : SR F w0 I0 μ0 h0 w I μ h a s) (hn0 : h0.length = F.n0) (hd : decSt F.n0 S s h = some x) : ∃ I' μ', SR F w0 I0 μ0 h0 w I' μ' (S.heap x) a (S.slots x) ∧ ∀ g o, I g o → I' g o := by
  unfold decSt at hd
  split at hd
  · cases hd
  · rename_i ρ0 hρ
    obtain ⟨ρ, hv⟩ := decSt0_view hd
    obtain ⟨I1, R1, F1, M1, _, hfz, hno⟩ := frz_ok (fzSl S.hp s S.sl ++ fzHp S.hp h ρ0 S.hp) I h S0.rel (show GOKf (hget h) h from fun b => .inl rfl)
    have S1 := S0.step R1 F1 M1
    obtain ⟨R2, F2, M2⟩ := revars (g0 := hget h) (fz := fzSl S.hp s S.sl ++ fzHp S.hp h ρ0 S.hp) (resHp h ρ0 S.hp) I1 _ (fun p hp => by
        obtain ⟨cs, q, k1, k2, k3⟩ := fzHp_sub S.hp h ρ0 S.hp p hp
        exact ⟨cs, q, k1, k2, fun b hb => List.mem_append_right _ (k3 b hb)⟩) R1 (fun m cs hm => by
        have hm0 : h[m]? = some (.var cs) := hget_some hm (by simp)
        have hm1 : ∃ cs1, (hputs h (frz (hget h) (fzSl S.hp s S.sl ++ fzHp S.hp h ρ0 S.hp)))[m]? = some (.var cs1) := by
          obtain ⟨y, hy, hk⟩ := M1.kept m _ hm0
          obtain ⟨cs1, rfl⟩ := hk
          exact ⟨cs1, hy⟩
        refine ⟨hm1, ?_⟩
        obtain ⟨g, vs, e, k1, k2, k3, k4⟩ := S0.rel.blk m _ hm0
        exact ⟨g, vs, e, k1, k2, k3, fun k v c e1 e2 => (k4 k v c e1 e2).step S0.rel F1 M1⟩) hfz
    have S2 : SR F w0 I0 μ0 h0 w I1 μ (hputs (hputs h (frz (hget h) (fzSl S.hp s S.sl ++ fzHp S.hp h ρ0 S.hp))) (resHp h ρ0 S.hp)) a (resSl (hget h) s S.sl) := by
      refine ⟨R2, S1.fr.trans F2, S1.hm.trans M2, fun i => ?_, S1.nt, S1.nd⟩
      rcases resSl_lkp S.hp (g := hget h) (s := s) S.sl i with e | ⟨q, h1, e⟩
      · rw [e]; exact .junk _
      · rw [e]; exact (resF_rep R1 (S1.slots i) fun b hb => hfz b (List.mem_append_left _ (h1 b hb))).step R1 F2 M2
    obtain ⟨I', μ', S', hI⟩ := hv.sr2 S2 hn0
    exact ⟨I', μ', S', fun g o hi => hI g o (F1.im g o hi)⟩

theorem Ok.dec {c : Code} {K : AX → Slots → Heap → Prop} {S : SS} {x : S.ty.den} (hd : decSt F.n0 S s h = some x) (o : Ok E F c K (S.slots x) (S.heap x)) : Ok E F c K s h := by
  unfold Ok at o ⊢
  intro w0 I0 μ0 h0 hn0 w I μ a S
  obtain ⟨I', μ', S', _⟩ := S.dec hn0 hd
  exact o w0 I0 μ0 h0 hn0 w I' μ' a S'
theorem OkL.dec {c : Code} {K : AX → Slots → Heap → Prop} {S : SS} {x : S.ty.den} (hd : decSt F.n0 S s h = some x) (o : OkL E F c K (S.slots x) (S.heap x)) : OkL E F c K s h := by
  unfold OkL at o ⊢
  intro w0 I0 μ0 h0 hn0 w I μ a S
  obtain ⟨I', μ', S', _⟩ := S.dec hn0 hd
  exact o w0 I0 μ0 h0 hn0 w I' μ' a S'
end

/-! ### one of several ends -/

def dAlts : List Ty → Type
  | [] => Empty
  | [t] => t.den
  | t :: u :: r => t.den ⊕ dAlts (u :: r)

/-- An end of a function: a panic, or none; the result's shape in slot 0. -/
structure FA where
  pn : Bool
  S : SS
def FA.ty (a : FA) : Ty := a.S.ty
def tysF : List FA → List Ty
  | [] => []
  | a :: r => a.ty :: tysF r
def FA.val (a : FA) (z : a.ty.den) : AV := lkp 0 (a.S.slots z)
def FA.hs (a : FA) (z : a.ty.den) : Heap := a.S.heap z
def FA.res (a : FA) (z : a.ty.den) : ARes := match a.pn with | true => .panic (a.val z) | false => .ret (a.val z)
/-- An end of a piece. -/
inductive XS where
  | normal
  | exit (i : Nat)
  | ret
  | panic (s : Sh)
structure CA where
  e : XS
  S : SS
def XS.ty : XS → Ty
  | .panic s => s.ty
  | _ => .unit
def CA.ty (a : CA) : Ty := tpair a.e.ty a.S.ty
def tysC : List CA → List Ty
  | [] => []
  | a :: r => a.ty :: tysC r
def encX : (e : XS) → e.ty.den → AX
  | .normal, _ => .normal
  | .exit i, _ => .exit i
  | .ret, _ => .ret
  | .panic s, x => .panic (encS s x)
def CA.ax (a : CA) (z : a.ty.den) : AX := encX a.e (tfst _ _ z)
def CA.sl (a : CA) (z : a.ty.den) : Slots := a.S.slots (tsnd _ _ z)
def CA.hs (a : CA) (z : a.ty.den) : Heap := a.S.heap (tsnd _ _ z)

def elimF {R : Sort _} : (l : List FA) → dAlts (tysF l) → ((a : FA) → a.ty.den → R) → R
  | [], y, _ => nomatch y
  | [a], y, K => K a y
  | a :: b :: r, y, K => match y with
    | .inl y => K a y
    | .inr y => elimF (b :: r) y K
def elimC {R : Sort _} : (l : List CA) → dAlts (tysC l) → ((a : CA) → a.ty.den → R) → R
  | [], y, _ => nomatch y
  | [a], y, K => K a y
  | a :: b :: r, y, K => match y with
    | .inl y => K a y
    | .inr y => elimC (b :: r) y K
def pickF (tr : (a : FA) → Option a.ty.den) : (l : List FA) → Option (dAlts (tysF l))
  | [] => none
  | [a] => tr a
  | a :: b :: r => match tr a with
    | some x => some (.inl x)
    | none => match pickF tr (b :: r) with | some y => some (.inr y) | none => none
def pickC (tr : (a : CA) → Option a.ty.den) : (l : List CA) → Option (dAlts (tysC l))
  | [] => none
  | [a] => tr a
  | a :: b :: r => match tr a with
    | some x => some (.inl x)
    | none => match pickC tr (b :: r) with | some y => some (.inr y) | none => none


theorem pickF_elim {tr : (a : FA) → Option a.ty.den} {P : (a : FA) → a.ty.den → Prop} (hP : ∀ a z, tr a = some z → P a z) : ∀ {l : List FA} {y : dAlts (tysF l)}, pickF tr l = some y → elimF l y P
  | [], y, h => by cases h
  | [a], y, h => hP a y h
  | a :: b :: r, y, h => by
    unfold pickF at h
    split at h
    · rename_i x hx
      injection h with h; subst h
      exact hP a x hx
    · split at h
      · rename_i z hz
        injection h with h; subst h
        exact pickF_elim (l := b :: r) hP hz
      · cases h
theorem pickC_elim {tr : (a : CA) → Option a.ty.den} {P : (a : CA) → a.ty.den → Prop} (hP : ∀ a z, tr a = some z → P a z) : ∀ {l : List CA} {y : dAlts (tysC l)}, pickC tr l = some y → elimC l y P
  | [], y, h => by cases h
  | [a], y, h => hP a y h
  | a :: b :: r, y, h => by
    unfold pickC at h
    split at h
    · rename_i x hx
      injection h with h; subst h
      exact hP a x hx
    · split at h
      · rename_i z hz
        injection h with h; subst h
        exact pickC_elim (l := b :: r) hP hz
      · cases h
theorem elimF_mp {P Q : (a : FA) → a.ty.den → Prop} (hPQ : ∀ a z, P a z → Q a z) : ∀ {l : List FA} {y : dAlts (tysF l)}, elimF l y P → elimF l y Q
  | [], y, _ => nomatch y
  | [a], y, h => hPQ a y h
  | a :: b :: r, .inl y, h => hPQ a y h
  | a :: b :: r, .inr y, h => elimF_mp (l := b :: r) hPQ h
theorem elimF_ex : ∀ (l : List FA) (y : dAlts (tysF l)), ∃ a z, (∀ (P : (a : FA) → a.ty.den → Prop), elimF l y P = P a z) ∧ ∀ (R : Type) (K : (a : FA) → a.ty.den → Option R), elimF l y K = K a z
  | [], y => nomatch y
  | [a], y => ⟨a, y, fun _ => rfl, fun _ _ => rfl⟩
  | a :: b :: r, .inl y => ⟨a, y, fun _ => rfl, fun _ _ => rfl⟩
  | a :: b :: r, .inr y => elimF_ex (b :: r) y
theorem elimC_ex : ∀ (l : List CA) (y : dAlts (tysC l)), ∃ a z, (∀ (P : (a : CA) → a.ty.den → Prop), elimC l y P = P a z) ∧ ∀ (R : Type) (K : (a : CA) → a.ty.den → Option R), elimC l y K = K a z
  | [], y => nomatch y
  | [a], y => ⟨a, y, fun _ => rfl, fun _ _ => rfl⟩
  | a :: b :: r, .inl y => ⟨a, y, fun _ => rfl, fun _ _ => rfl⟩
  | a :: b :: r, .inr y => elimC_ex (b :: r) y

/-! ### what is known of calls and pieces -/

/-- U: what is not known yet (functions that are being made). -/
structure Ent (U : Type) where
  f : FuncId
  ins : List Sh
  hin : List BSh
  outs : List FA
  G : U → (tpair (Sh.ty.tyL ins) (tyH hin)).den → Option (dAlts (tysF outs))
structure Cut (U : Type) where
  k : Nat
  S : SS
  outs : List CA
  L : U → S.ty.den → Option (dAlts (tysC outs))

/-- A call at x ends as y says. -/
def EntP (E : Env) (f : FuncId) (ins : List Sh) (hin : List BSh) (outs : List FA) (x : (tpair (Sh.ty.tyL ins) (tyH hin)).den) (y : dAlts (tysF outs)) : Prop :=
  ACall E f (encS.encL ins (tfst _ _ x)) (encH hin (tsnd _ _ x)) fun r h => elimF outs y fun a z => r = a.res z ∧ h = a.hs z
def endC (outs : List CA) (y : dAlts (tysC outs)) (e : AX) (s : Slots) (h : Heap) : Prop := elimC outs y fun a z => e = a.ax z ∧ s = a.sl z ∧ h = a.hs z
/-- A piece at x ends as y says. -/
def CutP (E : Env) (F : Fp) (body : Code) (k : Nat) (S : SS) (outs : List CA) (x : S.ty.den) (y : dAlts (tysC outs)) : Prop :=
  match pieceAt k 0 body with
  | some (true, _, c) => OkL E F c (endC outs y) (S.slots x) (S.heap x)
  | some (false, _, c) => Ok E F c (endC outs y) (S.slots x) (S.heap x)
  | none => False
def Ent.Sound {U : Type} (E : Env) (u : U) (e : Ent U) : Prop := ∀ x y, e.G u x = some y → EntP E e.f e.ins e.hin e.outs x y
def Cut.Sound {U : Type} (E : Env) (F : Fp) (body : Code) (u : U) (c : Cut U) : Prop := ∀ x y, c.L u x = some y → CutP E F body c.k c.S c.outs x y
def EntsOK {U : Type} (E : Env) (u : U) : List (Ent U) → Prop
  | [] => True
  | e :: r => e.Sound E u ∧ EntsOK E u r
def CutsOK {U : Type} (E : Env) (F : Fp) (body : Code) (u : U) : List (Cut U) → Prop
  | [] => True
  | c :: r => c.Sound E F body u ∧ CutsOK E F body u r
theorem CutP.ok {E : Env} {F : Fp} {body : Code} {k : Nat} {S : SS} {outs : List CA} {x : S.ty.den} {y : dAlts (tysC outs)} (h : CutP E F body k S outs x y) :
    ∃ p, pieceAt k 0 body = some p ∧ Ok E F (codeOf p) (endC outs y) (S.slots x) (S.heap x) := by
  unfold CutP at h
  split at h
  · rename_i hp; exact ⟨_, hp, h.ok⟩
  · rename_i hp; exact ⟨_, hp, h⟩
  · exact h.elim

def oldsOf : List Src → Option (List Nat)
  | [] => some []
  | .old m :: r => match oldsOf r with | some q => some (m :: q) | none => none
  | .emp _ _ :: _ => none
  | .no _ :: _ => none
theorem oldsOf_eq : ∀ {r : List Src} {q : List Nat}, oldsOf r = some q → r = q.map Src.old
  | [], q, h => by injection h with h; subst h; rfl
  | .old m :: r, q, h => by
    unfold oldsOf at h
    split at h
    · rename_i q' hq
      injection h with h; subst h
      rw [oldsOf_eq hq]; rfl
    · cases h
  | .emp _ _ :: _, q, h => by cases h
  | .no _ :: _, q, h => by cases h

/-- A call's data. -/
def decCall {U : Type} (e : Ent U) (args : List AV) (h : Heap) : Option (List Nat × (tpair (Sh.ty.tyL e.ins) (tyH e.hin)).den) :=
  match rhoB 0 h 0 e.hin (srcS.srcL e.ins args) with
  | none => none
  | some ρ => match oldsOf ρ with
    | none => none
    | some q => match nodupB ρ, decS.decL ρ e.ins args, decH ρ h e.hin ρ with
      | true, some u, some w => match liveL (encH e.hin w) with
        | true => some (q, tmk _ _ u w)
        | false => none
      | _, _, _ => none

section
variable {U : Type} {u : U} {E : Env} {F : Fp} {h : Heap} {args : List AV}
theorem decCall_ok {e : Ent U} {q : List Nat} {x : (tpair (Sh.ty.tyL e.ins) (tyH e.hin)).den} (hd : decCall e args h = some (q, x)) :
    (liveL (encH e.hin (tsnd _ _ x)) && nodupB (q.map Src.old)) = true ∧ viewH (q.map Src.old) h (q.map Src.old) (encH e.hin (tsnd _ _ x)) ∧ viewV.viewL (q.map Src.old) args (encS.encL e.ins (tfst _ _ x)) := by
  unfold decCall at hd
  split at hd
  · cases hd
  · rename_i ρ _
    split at hd
    · cases hd
    · rename_i q' ho
      split at hd
      · rename_i u v hn hu hw
        split at hd
        · rename_i hl
          injection hd with hd
          injection hd with h1 h2
          subst h1 h2
          have ho := oldsOf_eq ho
          subst ho
          rw [tfst_mk, tsnd_mk]
          exact ⟨by rw [hl, hn]; rfl, decH_view _ _ _ hw, decL_view _ _ _ hu⟩
        · cases hd
      · cases hd

theorem ent_call {e : Ent U} (hs : e.Sound E u) {q : List Nat} {x : (tpair (Sh.ty.tyL e.ins) (tyH e.hin)).den} (hd : decCall e args h = some (q, x)) {y : dAlts (tysF e.outs)} (hy : e.G u x = some y) :
    ACall E e.f args h fun r h' => elimF e.outs y fun a z => r = unR q h.length (a.res z) ∧ h' = hputs h (unH q h.length 0 (a.hs z)) := by
  obtain ⟨h1, h2, h3⟩ := decCall_ok hd
  refine (ACall.lift (hs x y hy) h1 h2 h3).mono fun r h' hq => ?_
  obtain ⟨r', hs', hq, e1, e2⟩ := hq
  refine elimF_mp (fun a z hz => ?_) hq
  rw [e1, e2, hz.1, hz.2]
  exact ⟨rfl, rfl⟩

/-- A call, in a region whose order is drawn: no new blocks. -/
theorem ent_icall {e : Ent U} (hs : e.Sound E u) {q : List Nat} {x : (tpair (Sh.ty.tyL e.ins) (tyH e.hin)).den} (hd : decCall e args h = some (q, x)) {y : dAlts (tysF e.outs)} (hy : e.G u x = some y)
    {v : AV} {hs' : Heap} (hlen : hs'.length = q.length) (he : ∀ r k, (elimF e.outs y fun a z => r = a.res z ∧ k = a.hs z) → r = .ret v ∧ k = hs') (hv : ∀ n, unV q n v = unV q 0 v) (hw : ∀ n, unH q n 0 hs' = unH q 0 0 hs') :
    ICall E e.f args q h (unV q 0 v) (unH q 0 0 hs') := by
  obtain ⟨h1, h2, h3⟩ := decCall_ok hd
  unfold ICall
  intro h' hg
  refine (ACall.lift (hs x y hy) h1 (viewH_agree q _ hg h2) h3).mono fun r k hq => ?_
  obtain ⟨r', hs2, hq, e1, e2⟩ := hq
  obtain ⟨rfl, rfl⟩ := he _ _ hq
  rw [e1, e2, hw]
  exact ⟨by simp only [unR, hv], rfl⟩

/-- Are all blocks that are named of the first k? -/
def inVk (k : Nat) : AV → Bool
  | .own _ b _ => Nat.blt b k
  | .ptr b _ => Nat.blt b k
  | .mptr b => Nat.blt b k
  | .eptr _ b _ _ => Nat.blt b k
  | .agg cs => inLk cs
  | .tup cs => inLk cs
  | .fn _ a c => inLk a && inLk c
  | .iface _ v => inVk k v
  | _ => true
where inLk : List AV → Bool
  | [] => true
  | v :: r => inVk k v && inLk r
def inHp (k : Nat) : Heap → Bool
  | [] => true
  | .var cs :: r => inVk.inLk k cs && inHp k r
  | _ :: r => inHp k r

theorem unN_in {q : List Nat} {b : Nat} (n : Nat) (h : Nat.blt b q.length = true) : unN q n b = unN q 0 b := by
  have h : b < q.length := by simpa using h
  simp [unN, List.getElem?_eq_getElem h]
mutual
theorem unV_in {q : List Nat} (n : Nat) : ∀ (v : AV), inVk q.length v = true → unV q n v = unV q 0 v
  | .own t b f, h => by simp only [inVk] at h; simp only [unV, unN_in n h]
  | .ptr b j, h => by simp only [inVk] at h; simp only [unV, unN_in n h]
  | .mptr b, h => by simp only [inVk] at h; simp only [unV, unN_in n h]
  | .eptr t b i j, h => by simp only [inVk] at h; simp only [unV, unN_in n h]
  | .agg cs, h => by simp only [inVk] at h; simp only [unV, unL_in n cs h]
  | .tup cs, h => by simp only [inVk] at h; simp only [unV, unL_in n cs h]
  | .fn f a c, h => by simp only [inVk, Bool.and_eq_true] at h; simp only [unV, unL_in n a h.1, unL_in n c h.2]
  | .iface t v, h => by simp only [inVk] at h; simp only [unV, unV_in n v h]
  | .junk, _ => rfl
  | .t, _ => rfl
  | .f, _ => rfl
  | .bool _, _ => rfl
  | .int _ _, _ => rfl
  | .str _, _ => rfl
  | .nilsl, _ => rfl
  | .sl _ _ _, _ => rfl
  | .iptr _ _ _, _ => rfl
  | .fmap _ _ _, _ => rfl
  | .nilptr, _ => rfl
  | .nilfn, _ => rfl
  | .niliface, _ => rfl
theorem unL_in {q : List Nat} (n : Nat) : ∀ (l : List AV), inVk.inLk q.length l = true → unV.unL q n l = unV.unL q 0 l
  | [], _ => rfl
  | v :: r, h => by simp only [inVk.inLk, Bool.and_eq_true] at h; simp only [unV.unL, unV_in n v h.1, unL_in n r h.2]
end
theorem unH_in {q : List Nat} (n : Nat) : ∀ (hs : Heap) (k : Nat), inHp q.length hs = true → k + hs.length ≤ q.length → unH q n k hs = unH q 0 k hs
  | [], _, _, _ => rfl
  | x :: r, k, h, hk => by
    have hk1 : k < q.length := by simp only [List.length_cons] at hk; omega
    have hr : k + 1 + r.length ≤ q.length := by simp only [List.length_cons] at hk; omega
    have e1 := unN_in (q := q) (b := k) n (by simpa using hk1)
    cases x with
    | var cs => simp only [inHp, Bool.and_eq_true] at h; simp only [unH, e1, unB, unL_in n cs h.1, unH_in n r (k + 1) h.2 hr]
    | hole => simp only [unH, e1, unB, unH_in n r (k + 1) h hr]
    | gone => simp only [unH, e1, unB, unH_in n r (k + 1) h hr]
    | arr t l f => simp only [unH, e1, unB, unH_in n r (k + 1) h hr]
    | mp a b l => simp only [unH, e1, unB, unH_in n r (k + 1) h hr]
end

/-! ### running a tree -/

def runCall {U R : Type} (u : U) (args : List AV) (h : Heap) (g : FuncId) (K : ARes → Heap → Option R) : List (Ent U) → Option R
  | [] => none
  | e :: r => match Nat.beq e.f g with
    | true => match decCall e args h with
      | some (q, x) => e.G u x >>= fun y => elimF e.outs y fun a z => K (unR q h.length (a.res z)) (hputs h (unH q h.length 0 (a.hs z)))
      | none => runCall u args h g K r
    | false => runCall u args h g K r
def runICall {U R : Type} (u : U) (args : List AV) (h : Heap) (g : FuncId) (K : List Nat → AV → List (Nat × AB) → Option R) (X : AV → Heap → Option R) : List (Ent U) → Option R
  | [] => none
  | e :: r => match Nat.beq e.f g with
    | true => match decCall e args h with
      | some (q, x) => e.G u x >>= fun y => elimF e.outs y fun a z =>
        match a.pn, Nat.beq (a.hs z).length q.length && inVk q.length (a.val z) && inHp q.length (a.hs z) with
        | false, true => K q (unV q 0 (a.val z)) (unH q 0 0 (a.hs z))
        | true, _ => X (unV q h.length (a.val z)) (hputs h (unH q h.length 0 (a.hs z)))
        | _, _ => none
      | none => runICall u args h g K X r
    | false => runICall u args h g K X r
def runCut {U R : Type} (u : U) (n0 k : Nat) (s : Slots) (h : Heap) (K : AX → Slots → Heap → Option R) : List (Cut U) → Option R
  | [] => none
  | c :: r => match Nat.beq c.k k with
    | true => match decSt n0 c.S s h with
      | some x => c.L u x >>= fun y => elimC c.outs y fun a z => K (a.ax z) (a.sl z) (a.hs z)
      | none => runCut u n0 k s h K r
    | false => runCut u n0 k s h K r

open Classical in
/-- What all of some come to, if it is one. -/
noncomputable def agree {R : Type} (n : Nat) (f : Nat → Option R) : Option R :=
  match f 0 with
  | some y => if 0 < n ∧ ∀ j, j < n → f j = some y then some y else none
  | none => none
omit [Lay] in
theorem agree_ok {R : Type} {n : Nat} {f : Nat → Option R} {r : R} (h : agree n f = some r) : 0 < n ∧ ∀ j, j < n → f j = some r := by
  unfold agree at h
  split at h
  · split at h
    · rename_i hc; injection h with h; subst h; exact hc
    · cases h
  · cases h
omit [Lay] in
theorem agree_is {R : Type} {n : Nat} {f : Nat → Option R} {r : R} (hn : 0 < n) (h : ∀ j, j < n → f j = some r) : agree n f = some r := by
  unfold agree
  rw [h 0 hn]
  exact if_pos ⟨hn, h⟩

noncomputable def Tr.run {U R : Type} (u : U) (n0 : Nat) (es : List (Ent U)) (cs : List (Cut U)) (fin : AX → Slots → Heap → Option R) : Tr → Option R
  | .fail _ => none
  | .chk c t => @_root_.ite _ c.p c.d (t.run u n0 es cs fin) none
  | .ite b t e => if b = true then t.run u n0 es cs fin else e.run u n0 es cs fin
  | .call g args h K => runCall u args h g (fun r h' => (K r h').run u n0 es cs fin) es
  | .icall g args h K X => runICall u args h g (fun q v ws => (K q v ws).run u n0 es cs fin) (fun v h' => (X v h').run u n0 es cs fin) es
  | .cut k s h K => runCut u n0 k s h (fun e s h => (K e s h).run u n0 es cs fin) cs
  | .pick n K => agree n fun j => (K j).run u n0 es cs fin
  | .out e s h => fin e s h

section
variable {U : Type} {u : U} {E : Env} {F : Fp} {body : Code} {R : Type} {r : R} {es : List (Ent U)} {cs : List (Cut U)} {fin : AX → Slots → Heap → Option R} {finP : AX → Slots → Heap → Prop}

theorem runCall_ok {args : List AV} {h : Heap} {g : FuncId} {K : ARes → Heap → Option R} {P : ARes → Heap → Prop} (hP : ∀ x k, K x k = some r → P x k) : ∀ {l : List (Ent U)}, EntsOK E u l → runCall u args h g K l = some r → ACall E g args h P
  | [], _, hr => by cases hr
  | e :: l, ho, hr => by
    unfold runCall at hr
    split at hr
    · rename_i hg
      obtain rfl := Nat.eq_of_beq_eq_true hg
      split at hr
      · rename_i q x hd
        obtain ⟨y, hy, hr⟩ := Option.bind_eq_some_iff.1 hr
        refine (ent_call ho.1 hd hy).mono fun x' k hq => hP _ _ ?_
        obtain ⟨a, z, e1, e2⟩ := elimF_ex e.outs y
        rw [e1] at hq
        rw [e2] at hr
        rw [hq.1, hq.2]
        exact hr
      · exact runCall_ok hP ho.2 hr
    · exact runCall_ok hP ho.2 hr
theorem runICall_ok {args : List AV} {h : Heap} {g : FuncId} {K : List Nat → AV → List (Nat × AB) → Option R} {X : AV → Heap → Option R} {P : List Nat → AV → List (Nat × AB) → Prop} {Xp : AV → Heap → Prop} (hP : ∀ q v ws, K q v ws = some r → P q v ws)
    (hX : ∀ v h, X v h = some r → Xp v h) : ∀ {l : List (Ent U)}, EntsOK E u l → runICall u args h g K X l = some r → (∃ q v ws, ICall E g args q h v ws ∧ P q v ws) ∨ ∃ v h', ACall E g args h (fun r h'' => r = .panic v ∧ h'' = h') ∧ Xp v h'
  | [], _, hr => by cases hr
  | e :: l, ho, hr => by
    unfold runICall at hr
    split at hr
    · rename_i hg
      obtain rfl := Nat.eq_of_beq_eq_true hg
      split at hr
      · rename_i q x hd
        obtain ⟨y, hy, hr⟩ := Option.bind_eq_some_iff.1 hr
        obtain ⟨a, z, e1, e2⟩ := elimF_ex e.outs y
        rw [e2] at hr
        split at hr
        · rename_i hpn hck
          simp only [Bool.and_eq_true] at hck
          obtain ⟨⟨hl, hv⟩, hh⟩ := hck
          have hl := Nat.eq_of_beq_eq_true hl
          refine .inl ⟨_, _, _, ent_icall ho.1 hd hy hl (fun r k hq => ?_) (fun n => unV_in n _ hv) (fun n => unH_in n _ 0 hh (by omega)), hP _ _ _ hr⟩
          rw [e1] at hq
          rw [hq.1, hq.2]
          exact ⟨by unfold FA.res; rw [hpn], rfl⟩
        · rename_i hpn
          refine .inr ⟨_, _, (ent_call ho.1 hd hy).mono fun x' k hq => ?_, hX _ _ hr⟩
          rw [e1] at hq
          refine ⟨?_, hq.2⟩
          rw [hq.1]
          unfold FA.res
          rw [hpn]
          rfl
        · cases hr
      · exact runICall_ok hP hX ho.2 hr
    · exact runICall_ok hP hX ho.2 hr
theorem runCut_ok {k : Nat} {s : Slots} {h : Heap} {K : AX → Slots → Heap → Option R} {P : AX → Slots → Heap → Prop} (hP : ∀ x s h, K x s h = some r → P x s h) : ∀ {l : List (Cut U)}, CutsOK E F body u l → runCut u F.n0 k s h K l = some r → ∃ p, pieceAt k 0 body = some p ∧ Ok E F (codeOf p) P s h
  | [], _, hr => by cases hr
  | c :: l, ho, hr => by
    unfold runCut at hr
    split at hr
    · rename_i hg
      obtain rfl := Nat.eq_of_beq_eq_true hg
      split at hr
      · rename_i x hd
        obtain ⟨y, hy, hr⟩ := Option.bind_eq_some_iff.1 hr
        obtain ⟨p, hp, ok⟩ := (ho.1 x y hy).ok
        refine ⟨p, hp, Ok.dec hd (Ok.mono (fun e s h hq => hP _ _ _ ?_) ok)⟩
        obtain ⟨a, z, e1, e2⟩ := elimC_ex c.outs y
        unfold endC at hq
        rw [e1] at hq
        rw [e2] at hr
        rw [hq.1, hq.2.1, hq.2.2]
        exact hr
      · exact runCut_ok hP ho.2 hr
    · exact runCut_ok hP ho.2 hr

def CO (E : Env) (F : Fp) (body : Code) (k : Nat) (s : Slots) (h : Heap) (Q : AX → Slots → Heap → Prop) : Prop := ∃ p, pieceAt k 0 body = some p ∧ Ok E F (codeOf p) Q s h

theorem run_holds (he : EntsOK E u es) (hc : CutsOK E F body u cs) (hf : ∀ e s h, fin e s h = some r → finP e s h) : ∀ (t : Tr), t.run u F.n0 es cs fin = some r → t.holds E (CO E F body) finP := by
  intro t
  induction t with
  | fail => intro h; cases h
  | chk c t ih =>
    intro h
    have h : (@_root_.ite _ c.p c.d (t.run u F.n0 es cs fin) none) = some r := h
    cases c with
    | mk p d =>
      cases d with
      | isTrue hp => exact ⟨hp, ih h⟩
      | isFalse hp => cases h
  | ite b t e iht ihe =>
    intro h
    have h : (if b = true then t.run u F.n0 es cs fin else e.run u F.n0 es cs fin) = some r := h
    refine aIf_mk (fun hb => iht ?_) (fun hb => ihe ?_)
    · rw [if_pos hb] at h; exact h
    · rw [if_neg (by rw [hb]; simp)] at h; exact h
  | call g args h K ih => intro hr; exact runCall_ok (fun x k hk => ih x k hk) he hr
  | icall g args h K X ih ihx => intro hr; exact runICall_ok (fun q v ws hk => ih q v ws hk) (fun v h hk => ihx v h hk) he hr
  | cut k s h K ih => intro hr; exact runCut_ok (fun e s h hk => ih e s h hk) hc hr
  | pick n K ih => intro hr; exact fun j hj => ih j ((agree_ok hr).2 j hj)
  | out e s h => intro hr; exact hf _ _ _ hr
end
end Go.AM
