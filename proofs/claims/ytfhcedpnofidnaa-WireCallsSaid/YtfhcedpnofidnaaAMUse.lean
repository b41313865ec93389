/-
  AM, part 26: what proofs of functions use.
-/
import Derived.Test.YtfhcedpnofidnaaAMEnv
namespace Go.AM

structure Box (T : Prop) : Prop where
  out : T
/-- What several ways lead to is shown once. -/
theorem share {T G : Prop} (h : Box T → G) (hT : T) : G := h ⟨hT⟩

theorem aIf_dec {p : Prop} [Decidable p] {P Q : Prop} (hp : p → P) (hq : ¬ p → Q) : aIf (decide p) P Q :=
  aIf_mk (fun h => hp (of_decide_eq_true h)) (fun h => hq (of_decide_eq_false h))

theorem aIf_beq {a b : Int} {P Q : Prop} (hp : a = b → P) (hq : ¬ a = b → Q) : aIf (a == b) P Q :=
  aIf_mk (fun h => hp (by simpa using h)) (fun h => hq (by simpa using h))
theorem aIf_bne {a b : Int} {P Q : Prop} (hp : ¬ a = b → P) (hq : a = b → Q) : aIf (a != b) P Q :=
  aIf_mk (fun h => hp (by simpa using h)) (fun h => hq (by simpa using h))
theorem aIf_not {b : Bool} {P Q : Prop} (hp : b = false → P) (hq : b = true → Q) : aIf (!b) P Q :=
  aIf_mk (fun h => hp (by simpa using h)) (fun h => hq (by simpa using h))

section
variable {E : Env} {f : FuncId} {args args' : List AV} {h hs hs' : Heap} {v : AV} {x : ARes} {Q : ARes → Heap → Prop} {ρ : List Nat}

theorem ACall.det {h' : Heap} (c : ACall E f args h (fun r k => r = x ∧ k = h')) (k : Q x h') : ACall E f args h Q :=
  c.mono fun r h' ⟨e1, e2⟩ => by rw [e1, e2]; exact k

/-- A call over few blocks, used where there are many. -/
theorem ACall.use (ρ : List Nat) (c : ACall E f args' hs (fun r k => r = .ret v ∧ k = hs')) (hb : (liveL hs && nodupB (ρ.map Src.old)) = true) (hv : viewH (ρ.map Src.old) h (ρ.map Src.old) hs)
    (ha : viewV.viewL (ρ.map Src.old) args args') (k : Q (.ret (unV ρ h.length v)) (hputs h (unH ρ h.length 0 hs'))) : ACall E f args h Q :=
  (ACall.lift c hb hv ha).mono fun r h' ⟨r', hs2, ⟨e1, e2⟩, e3, e4⟩ => by rw [e3, e4, e1, e2]; exact k

/-- No block is named. -/
def cleanB : AV → Bool
  | .own _ _ _ => false
  | .ptr _ _ => false
  | .eptr _ _ _ _ => false
  | .agg cs => cleanL cs
  | .tup cs => cleanL cs
  | .fn _ as cs => cleanL as && cleanL cs
  | .iface _ v => cleanB v
  | _ => true
where cleanL : List AV → Bool
  | [] => true
  | v :: r => cleanB v && cleanL r

theorem viewV_clean (ρ : List Src) : ∀ (v : AV), cleanB v = true → viewV ρ v v := by
  intro v
  refine AV.rec (motive_1 := fun v => cleanB v = true → viewV ρ v v) (motive_2 := fun l => cleanB.cleanL l = true → viewV.viewL ρ l l) ?_ ?_ ?_ ?_ ?_ ?_ ?_ ?_ ?_ ?_ ?_ ?_ ?_ ?_ ?_ ?_ ?_ ?_ ?_ ?_ ?_ v
  case refine_20 => intro _; trivial
  case refine_21 =>
    intro x r hx hr hc
    simp only [cleanB.cleanL, Bool.and_eq_true] at hc
    exact ⟨hx hc.1, hr hc.2⟩
  case refine_14 => intro cs ih hc; exact ih hc
  case refine_15 => intro cs ih hc; exact ih hc
  case refine_16 =>
    intro f x y ih1 ih2 hc
    simp only [cleanB, Bool.and_eq_true] at hc
    exact ⟨rfl, ih1 hc.1, ih2 hc.2⟩
  case refine_18 => intro t v ih hc; exact ⟨rfl, ih hc⟩
  all_goals (intros; first | trivial | rfl | (rename_i hc; simp [cleanB] at hc; done) | (unfold viewV; exact tell1_refl _ trivial))

theorem viewL_clean (ρ : List Src) : ∀ (l : List AV), cleanB.cleanL l = true → viewV.viewL ρ l l
  | [], _ => trivial
  | v :: r, h => by
    simp only [cleanB.cleanL, Bool.and_eq_true] at h
    exact ⟨viewV_clean ρ v h.1, viewL_clean ρ r h.2⟩

theorem unV_clean (ρ : List Nat) (n : Nat) : ∀ (v : AV), cleanB v = true → unV ρ n v = v := by
  intro v
  refine AV.rec (motive_1 := fun v => cleanB v = true → unV ρ n v = v) (motive_2 := fun l => cleanB.cleanL l = true → unV.unL ρ n l = l) ?_ ?_ ?_ ?_ ?_ ?_ ?_ ?_ ?_ ?_ ?_ ?_ ?_ ?_ ?_ ?_ ?_ ?_ ?_ ?_ ?_ v
  case refine_20 => intro _; rfl
  case refine_21 =>
    intro x r hx hr hc
    simp only [cleanB.cleanL, Bool.and_eq_true] at hc
    simp only [unV.unL, hx hc.1, hr hc.2]
  case refine_14 => intro cs ih hc; simp only [unV, ih hc]
  case refine_15 => intro cs ih hc; simp only [unV, ih hc]
  case refine_16 =>
    intro f x y ih1 ih2 hc
    simp only [cleanB, Bool.and_eq_true] at hc
    simp only [unV, ih1 hc.1, ih2 hc.2]
  case refine_18 => intro t v ih hc; simp only [unV, ih hc]
  all_goals (intros; first | rfl | (rename_i hc; simp [cleanB] at hc; done))

/-- A call over no block, used wherever. -/
theorem ACall.use0 (c : ACall E f args [] (fun r k => r = .ret v ∧ k = [])) (ha : (cleanB.cleanL args && cleanB v) = true) (k : Q (.ret v) h) : ACall E f args h Q := by
  simp only [Bool.and_eq_true] at ha
  refine ACall.use [] c rfl trivial (viewL_clean _ _ ha.1) ?_
  rw [unV_clean _ _ _ ha.2]
  exact k

theorem ICall.use0 (c : ACall E f args [] (fun r k => r = .ret v ∧ k = [])) (ha : (cleanB.cleanL args && cleanB v) = true) : ICall E f args [] h v [] := by
  unfold ICall
  intro h' _
  exact ACall.use0 c ha ⟨rfl, rfl⟩
end
end Go.AM
