/-
  AM, part 26: what proofs of functions use.
-/
import Derived.Test.YtloelaoobeoapaaDoorBMEnv
namespace Go.AM
set_option linter.unusedSectionVars false
variable [Lay]

theorem sumOk_le {n m b b' : Nat} (h : n ≤ m) (hb : b' = b) (h1 : m * b ≤ 140737488355328) (h2 : m ≤ 140737488355328) : sumOk n b' := by
  subst hb
  exact ⟨Nat.le_trans (Nat.mul_le_mul_right _ h) h1, Nat.le_trans h h2⟩
structure Box (T : Prop) : Prop where
  out : T
/-- What several ways lead to is shown once. -/
theorem share {T G : Prop} (h : Box T → G) (hT : T) : G := h ⟨hT⟩

theorem aIf_dec {p : Prop} [Decidable p] {P Q : Prop} (hp : p → P) (hq : ¬ p → Q) : aIf (decide p) P Q :=
  aIf_mk (fun h => hp (of_decide_eq_true h)) (fun h => hq (of_decide_eq_false h))

theorem aIf_beq {a b : Int} {P Q : Prop} (hp : a = b → P) (hq : ¬ a = b → Q) : aIf (a == b) P Q :=
  aIf_mk (fun h => hp (by simpa using h)) (fun h => hq (by simpa using h))
theorem aIf_bne {a b : Int} {P Q : Prop} (hp : ¬ a = b → P) (hq : a = b → Q) : aIf (a != b) P Q :=
  aIf_mk (fun h => hp (by simpa using h)) (fun h => hq (by simpa using h))
theorem aIf_not {b : Bool} {P Q : Prop} (hp : b = false → P) (hq : b = true → Q) : aIf (!b) P Q :=
  aIf_mk (fun h => hp (by simpa using h)) (fun h => hq (by simpa using h))

section
variable {E : Env} {f : FuncId} {args args' : List AV} {h hs hs' : Heap} {v : AV} {x : ARes} {Q : ARes → Heap → Prop} {ρ : List Nat}

theorem ACall.det {h' : Heap} (c : ACall E f args h (fun r k => r = x ∧ k = h')) (k : Q x h') : ACall E f args h Q :=
  c.mono fun r h' ⟨e1, e2⟩ => by rw [e1, e2]; exact k

/-- A call over few blocks, used where there are many. -/
theorem ACall.use (ρ : List Nat) (c : ACall E f args' hs (fun r k => r = .ret v ∧ k = hs')) (hb : (liveL hs && nodupB (ρ.map Src.old)) = true) (hv : viewH (ρ.map Src.old) h (ρ.map Src.old) hs)
    (ha : viewV.viewL (ρ.map Src.old) args args') (k : Q (.ret (unV ρ h.length v)) (hputs h (unH ρ h.length 0 hs'))) : ACall E f args h Q :=
  (ACall.lift c hb hv ha).mono fun r h' ⟨r', hs2, ⟨e1, e2⟩, e3, e4⟩ => by rw [e3, e4, e1, e2]; exact k

/-- No block is named. -/
def cleanB : AV → Bool
  | .own _ _ _ => false
  | .ptr _ _ => false
  | .eptr _ _ _ _ => false
  | .mptr _ => false
  | .agg cs => cleanL cs
  | .tup cs => cleanL cs
  | .fn _ as cs => cleanL as && cleanL cs
  | .iface _ v => cleanB v
  | _ => true
where cleanL : List AV → Bool
  | [] => true
  | v :: r => cleanB v && cleanL r

theorem viewV_clean (ρ : List Src) : ∀ (v : AV), cleanB v = true → viewV ρ v v := by
  intro v
  refine AV.rec (motive_1 := fun v => cleanB v = true → viewV ρ v v) (motive_2 := fun l => cleanB.cleanL l = true → viewV.viewL ρ l l) ?_ ?_ ?_ ?_ ?_ ?_ ?_ ?_ ?_ ?_ ?_ ?_ ?_ ?_ ?_ ?_ ?_ ?_ ?_ ?_ ?_ ?_ v
  case refine_21 => intro _; trivial
  case refine_22 =>
    intro x r hx hr hc
    simp only [cleanB.cleanL, Bool.and_eq_true] at hc
    exact ⟨hx hc.1, hr hc.2⟩
  case refine_14 => intro cs ih hc; exact ih hc
  case refine_15 => intro cs ih hc; exact ih hc
  case refine_16 =>
    intro f x y ih1 ih2 hc
    simp only [cleanB, Bool.and_eq_true] at hc
    exact ⟨rfl, ih1 hc.1, ih2 hc.2⟩
  case refine_18 => intro t v ih hc; exact ⟨rfl, ih hc⟩
  all_goals (intros; first | trivial | rfl | (rename_i hc; simp [cleanB] at hc; done) | (unfold viewV; exact tell1_refl _ trivial))

theorem viewL_clean (ρ : List Src) : ∀ (l : List AV), cleanB.cleanL l = true → viewV.viewL ρ l l
  | [], _ => trivial
  | v :: r, h => by
    simp only [cleanB.cleanL, Bool.and_eq_true] at h
    exact ⟨viewV_clean ρ v h.1, viewL_clean ρ r h.2⟩

theorem unV_clean (ρ : List Nat) (n : Nat) : ∀ (v : AV), cleanB v = true → unV ρ n v = v := by
  intro v
  refine AV.rec (motive_1 := fun v => cleanB v = true → unV ρ n v = v) (motive_2 := fun l => cleanB.cleanL l = true → unV.unL ρ n l = l) ?_ ?_ ?_ ?_ ?_ ?_ ?_ ?_ ?_ ?_ ?_ ?_ ?_ ?_ ?_ ?_ ?_ ?_ ?_ ?_ ?_ ?_ v
  case refine_21 => intro _; rfl
  case refine_22 =>
    intro x r hx hr hc
    simp only [cleanB.cleanL, Bool.and_eq_true] at hc
    simp only [unV.unL, hx hc.1, hr hc.2]
  case refine_14 => intro cs ih hc; simp only [unV, ih hc]
  case refine_15 => intro cs ih hc; simp only [unV, ih hc]
  case refine_16 =>
    intro f x y ih1 ih2 hc
    simp only [cleanB, Bool.and_eq_true] at hc
    simp only [unV, ih1 hc.1, ih2 hc.2]
  case refine_18 => intro t v ih hc; simp only [unV, ih hc]
  all_goals (intros; first | rfl | (rename_i hc; simp [cleanB] at hc; done))

/-- A call over no block, used wherever. -/
theorem ACall.use0 (c : ACall E f args [] (fun r k => r = .ret v ∧ k = [])) (ha : (cleanB.cleanL args && cleanB v) = true) (k : Q (.ret v) h) : ACall E f args h Q := by
  simp only [Bool.and_eq_true] at ha
  refine ACall.use [] c rfl trivial (viewL_clean _ _ ha.1) ?_
  rw [unV_clean _ _ _ ha.2]
  exact k

theorem hput_self : ∀ (h : Heap) (b : Nat), b < h.length → hput h b (hget h b) = h
  | x :: r, 0, _ => rfl
  | x :: r, b + 1, hb => by
    have ih := hput_self r b (by simpa using hb)
    show x :: hput r b (hget (x :: r) (b + 1)) = x :: r
    rw [show hget (x :: r) (b + 1) = hget r b by simp [hget], ih]
theorem hputs_self : ∀ (ws : List (Nat × AB)) (h : Heap), (∀ p ∈ ws, p.1 < h.length ∧ p.2 = hget h p.1) → hputs h ws = h
  | [], _, _ => rfl
  | (b, x) :: r, h, hw => by
    obtain ⟨h1, h2⟩ := hw _ List.mem_cons_self
    simp only at h1 h2
    show hputs (hput h b x) r = h
    rw [h2, hput_self h b h1]
    exact hputs_self r h fun p hp => hw p (List.mem_cons_of_mem _ hp)
theorem viewH_agree {h h' : Heap} {τ : List Src} : ∀ (ρ : List Nat) (hs : Heap), (∀ b ∈ ρ, hget h' b = hget h b) → viewH τ h (ρ.map Src.old) hs → viewH τ h' (ρ.map Src.old) hs
  | [], [], _, _ => trivial
  | [], _ :: _, _, hv => hv.elim
  | b :: ρ, [], _, hv => hv.elim
  | b :: ρ, y :: hs, hg, hv => ⟨by rw [hg b List.mem_cons_self]; exact hv.1, viewH_agree ρ hs (fun c hc => hg c (List.mem_cons_of_mem _ hc)) hv.2⟩
theorem viewH_lt {h : Heap} {τ : List Src} : ∀ (ρ : List Nat) (hs : Heap), liveL hs = true → viewH τ h (ρ.map Src.old) hs → ∀ b ∈ ρ, b < h.length
  | [], _, _, _, b, hb => by cases hb
  | c :: ρ, [], _, hv, b, hb => hv.elim
  | c :: ρ, y :: hs, hl, hv, b, hb => by
    rcases List.mem_cons.1 hb with rfl | hb
    · refine Nat.lt_of_not_le fun hle => ?_
      have e : hget h b = .hole := by simp [hget, List.getD, List.getElem?_eq_none hle]
      have h1 := hv.1
      rw [e] at h1
      cases y with
      | hole => simp [liveL] at hl
      | gone => simp [liveL] at hl
      | var => exact h1.elim
      | arr => cases h1
      | mp => cases h1
    · refine viewH_lt ρ hs ?_ hv.2 b hb
      cases y with
      | hole => simp [liveL] at hl
      | gone => simp [liveL] at hl
      | var => exact hl
      | arr => exact hl
      | mp => exact hl

/-- A call over blocks that stay as they are, in a region of drawn order. -/
theorem ICall.use (ρ : List Nat) (c : ACall E f args' hs (fun r k => r = .ret v ∧ k = hs)) (hb : (liveL hs && nodupB (ρ.map Src.old)) = true) (hv : viewH (ρ.map Src.old) h (ρ.map Src.old) hs)
    (ha : viewV.viewL (ρ.map Src.old) args args') (hc : cleanB v = true) (hw : ∀ n, unH ρ n 0 hs = ρ.map fun b => (b, hget h b)) : ICall E f args ρ h v [] := by
  unfold ICall
  intro h' hg
  have hv' := viewH_agree ρ hs hg hv
  refine ACall.use ρ c hb hv' ha ⟨by rw [unV_clean _ _ _ hc], ?_⟩
  rw [hw]
  simp only [Bool.and_eq_true] at hb
  refine hputs_self _ _ fun p hp => ?_
  obtain ⟨b, hb', rfl⟩ := List.mem_map.1 hp
  exact ⟨viewH_lt ρ hs hb.1 hv' b hb', (hg b hb').symm⟩

theorem ICall.use0 (c : ACall E f args [] (fun r k => r = .ret v ∧ k = [])) (ha : (cleanB.cleanL args && cleanB v) = true) : ICall E f args [] h v [] := by
  unfold ICall
  intro h' _
  exact ACall.use0 c ha ⟨rfl, rfl⟩
end
end Go.AM
