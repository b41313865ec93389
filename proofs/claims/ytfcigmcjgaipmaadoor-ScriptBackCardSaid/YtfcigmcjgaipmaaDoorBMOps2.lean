/-
  AM, part 6: the operations that only read.
-/
import Derived.Test.YtfcigmcjgaipmaaDoorBMBlocks
namespace Go.AM
set_option linter.unusedSectionVars false
variable [Lay]

def Reps (w : World) (I : Nat → Nat → Prop) (h : Heap) (μ : Nat → Option Nat) (ρ : Operand → Value) : List (TypeId × Operand) → List AV → Prop
  | [], [] => True
  | (_, x) :: r, v :: vs => Rep w I h μ (ρ x) v ∧ Reps w I h μ ρ r vs
  | _, _ => False

theorem Reps.len {w : World} {I : Nat → Nat → Prop} {h : Heap} {μ : Nat → Option Nat} {ρ : Operand → Value} : ∀ {l : List (TypeId × Operand)} {vs : List AV}, Reps w I h μ ρ l vs → vs.length = l.length
  | [], [], _ => rfl
  | _ :: _, _ :: _, hr => by simp [Reps.len hr.2]
  | [], _ :: _, hr => hr.elim
  | (_, _) :: _, [], hr => hr.elim

section
variable {E : Env} {w : World} {I : Nat → Nat → Prop} {h : Heap} {μ : Nat → Option Nat} {ρ : Operand → Value} {g : Nat → AB} {b0 : Nat} {fr : FR}
variable {dst : Option Tmp} {ty : TypeId} {pos : String} {aft : Array Edge} {gd : Option (Nat × Bool)}

/-- An operation that hands on a value: by its own run. -/
theorem run_v {P : Program} {s : Sem Value} {v : Value} {w' : World} (hs : s.run P w = .ok v w') : (do pure (Next.value (← s)) : Sem Next).run P w = .ok (.value v) w' := by
  rw [Sem.run_bind, hs]; rfl
theorem run_u {P : Program} {s : Sem Unit} {w' : World} (hs : s.run P w = .ok () w') : (do s; pure Next.skip : Sem Next).run P w = .ok .skip w' := by
  rw [Sem.run_bind, hs]; rfl

theorem op_move (R : RelH w I μ h) {x : Operand} {vs : List AV} (hv : Reps w I h μ ρ (opnds E ⟨dst, .move x, ty, pos, aft, gd⟩) vs)
    (hf : fCore E ⟨dst, .move x, ty, pos, aft, gd⟩ vs g b0 = some fr) : OpOK E ⟨dst, .move x, ty, pos, aft, gd⟩ ρ w I h μ fr := by
  match vs, hv with
  | [v], hv =>
    simp only [fCore, Option.some.injEq] at hf
    subst hf
    exact .quiet R rfl (ρ x) rfl hv.1

theorem op_assign (R : RelH w I μ h) {x : Operand} {vs : List AV} (hv : Reps w I h μ ρ (opnds E ⟨dst, .assign x, ty, pos, aft, gd⟩) vs)
    (hf : fCore E ⟨dst, .assign x, ty, pos, aft, gd⟩ vs g b0 = some fr) : OpOK E ⟨dst, .assign x, ty, pos, aft, gd⟩ ρ w I h μ fr := by
  match vs, hv with
  | [v], hv =>
    simp only [fCore, Option.some.injEq] at hf
    subst hf
    exact .quiet R rfl (ρ x) rfl hv.1

theorem run_pick {P : Program} {c a b : Operand} {t : Bool} (hc : ρ c = .bool t) :
    (execOp ρ ⟨dst, .pick c a b, ty, pos, aft, gd⟩).run P w = .ok (.value (if t then ρ a else ρ b)) w := by
  show (do pure (Next.value (if ← asBool (ρ c) then ρ a else ρ b)) : Sem Next).run P w = _
  rw [Sem.run_bind, hc]
  cases t <;> rfl

theorem op_pick (R : RelH w I μ h) {c a b : Operand} {vs : List AV} (hv : Reps w I h μ ρ (opnds E ⟨dst, .pick c a b, ty, pos, aft, gd⟩) vs)
    (hf : fCore E ⟨dst, .pick c a b, ty, pos, aft, gd⟩ vs g b0 = some fr) : OpOK E ⟨dst, .pick c a b, ty, pos, aft, gd⟩ ρ w I h μ fr := by
  match vs, hv with
  | [vc, va, vb], hv =>
    obtain ⟨hc, ha, hb, _⟩ := hv
    simp only [fCore, pickA] at hf
    split at hf
    · cases hf
      exact .quiet R rfl _ (run_pick (rep_bool hc rfl)) ha
    · cases hf
      exact .quiet R rfl _ (run_pick (rep_bool hc rfl)) hb
    · rename_i t
      have hrun := run_pick (P := E.P) (w := w) (a := a) (b := b) (dst := dst) (ty := ty) (pos := pos) (aft := aft) (gd := gd) (rep_bool hc rfl)
      split at hf
      · rename_i x y hx hy
        cases hf
        refine .quiet R rfl _ hrun ?_
        rw [rep_bool ha hx, rep_bool hb hy]
        cases t <;> exact .bool _
      · split at hf
        · rename_i k x k' y _
          split at hf
          · cases hf
            obtain rfl := ‹k = k'›
            refine .quiet R rfl _ hrun ?_
            rw [rep_int ha, rep_int hb]
            cases t <;> exact .int _ _
          · cases hf
        · cases hf
          refine .quiet R rfl _ hrun ?_
          rw [rep_str ha, rep_str hb]
          cases t <;> exact .str _
        · cases hf
    · cases hf

theorem op_nilCheck (R : RelH w I μ h) {x : Operand} {vs : List AV} (hv : Reps w I h μ ρ (opnds E ⟨dst, .nilCheck x, ty, pos, aft, gd⟩) vs)
    (hf : fCore E ⟨dst, .nilCheck x, ty, pos, aft, gd⟩ vs g b0 = some fr) : OpOK E ⟨dst, .nilCheck x, ty, pos, aft, gd⟩ ρ w I h μ fr := by
  match vs, hv with
  | [v], hv =>
    have hx := hv.1
    have hrun : ∀ a, ρ x = .pointer (some a) → (execOp ρ ⟨dst, .nilCheck x, ty, pos, aft, gd⟩).run E.P w = .ok (.value (.pointer (some a))) w := by
      intro a ha
      show (match ρ x with
        | .pointer none | .nilIface | .nilFunc => runtimePanic .nilDeref
        | .func (.method name) first captured => _
        | x => pure (Next.value x) : Sem Next).run E.P w = _
      rw [ha]; rfl
    simp only [fCore] at hf
    split at hf
    · cases hf
      obtain ⟨a, ha⟩ : ∃ a, ρ x = .pointer (some a) := by generalize ρ x = q at hx; cases hx; exact ⟨_, rfl⟩
      exact .quiet R rfl _ (hrun a ha) (ha ▸ hx)
    · cases hf
      obtain ⟨a, ha⟩ : ∃ a, ρ x = .pointer (some a) := by generalize ρ x = q at hx; cases hx; exact ⟨_, rfl⟩
      exact .quiet R rfl _ (hrun a ha) (ha ▸ hx)
    · cases hf
      obtain ⟨a, ha⟩ : ∃ a, ρ x = .pointer (some a) := by generalize ρ x = q at hx; cases hx; exact ⟨_, rfl⟩
      exact .quiet R rfl _ (hrun a ha) (ha ▸ hx)
    · cases hf

theorem op_makeFunc (R : RelH w I μ h) {f : Fn} {a c : Array Operand} {vs : List AV} (hv : Reps w I h μ ρ (opnds E ⟨dst, .makeFunc f a c, ty, pos, aft, gd⟩) vs)
    (hf : fCore E ⟨dst, .makeFunc f a c, ty, pos, aft, gd⟩ vs g b0 = some fr) : OpOK E ⟨dst, .makeFunc f a c, ty, pos, aft, gd⟩ ρ w I h μ fr := by
  simp only [fCore, Option.some.injEq] at hf
  subst hf
  have key : ∀ (l : List Operand) (r : List Operand) (vs : List AV), Reps w I h μ ρ (l.map (fun x => ((0 : TypeId), x)) ++ r.map (fun x => ((0 : TypeId), x))) vs →
      ((vs.take l.length).length = l.length ∧ (vs.drop l.length).length = r.length ∧
        (∀ (i : Nat) (v : Value) (x : AV), (l.map ρ)[i]? = some v → (vs.take l.length)[i]? = some x → Rep w I h μ v x) ∧
        (∀ (i : Nat) (v : Value) (x : AV), (r.map ρ)[i]? = some v → (vs.drop l.length)[i]? = some x → Rep w I h μ v x)) := by
    intro l
    induction l with
    | nil =>
      intro r vs hr
      simp only [List.map_nil, List.nil_append] at hr
      refine ⟨rfl, ?_, fun i v x hv _ => by simp at hv, ?_⟩
      · have := hr.len; simpa using this
      · simp only [List.length_nil, List.drop_zero]
        clear hv
        induction r generalizing vs with
        | nil => intro i v x hv _; simp at hv
        | cons y r ih =>
          match vs, hr with
          | u :: vs, hr =>
            intro i v x hv hx
            cases i with
            | zero => simp at hv hx; subst hv; subst hx; exact hr.1
            | succ i => exact ih vs hr.2 i v x (by simpa using hv) (by simpa using hx)
    | cons y l ih =>
      intro r vs hr
      match vs, hr with
      | u :: vs, hr =>
        obtain ⟨h1, h2, h3, h4⟩ := ih r vs hr.2
        refine ⟨by simpa using h1, by simpa using h2, ?_, by simpa using h4⟩
        intro i v x hv hx
        cases i with
        | zero => simp at hv hx; subst hv; subst hx; exact hr.1
        | succ i => exact h3 i v x (by simpa using hv) (by simpa using hx)
  obtain ⟨h1, h2, h3, h4⟩ := key a.toList c.toList vs (by simpa [opnds] using hv)
  simp only [Array.length_toList] at h1 h2 h3 h4
  refine .quiet R rfl (.func f (a.map ρ) (c.map ρ)) rfl ?_
  refine .fn f _ _ _ _ (by simp [h1]) (by simp [h2]) (fun i v x hv hx => h3 i v x ?_ hx) (fun i v x hv hx => h4 i v x ?_ hx)
  · simpa [Array.getElem?_map, List.getElem?_map] using hv
  · simpa [Array.getElem?_map, List.getElem?_map] using hv

theorem op_extract (R : RelH w I μ h) {x : Operand} {i : Nat} {vs : List AV} (hv : Reps w I h μ ρ (opnds E ⟨dst, .extract x i, ty, pos, aft, gd⟩) vs)
    (hf : fCore E ⟨dst, .extract x i, ty, pos, aft, gd⟩ vs g b0 = some fr) : OpOK E ⟨dst, .extract x i, ty, pos, aft, gd⟩ ρ w I h μ fr := by
  match vs, hv with
  | [v], hv =>
    have hx := hv.1
    cases v with
    | tup cs =>
      simp only [fCore] at hf
      split at hf
      · rename_i c hc
        cases hf
        generalize hq : ρ x = q at hx
        cases hx with
        | tup us _ hl hcs =>
          have hi : i < us.size := by
            have := (List.getElem?_eq_some_iff.1 hc).1
            omega
          refine .quiet R rfl us[i] ?_ (hcs i _ _ (by simp [hi]) hc)
          refine run_v (s := Instr.extract (ρ x) i) ?_
          rw [hq]
          simp [Instr.extract, hi]
      · cases hf
    | _ => simp [fCore] at hf

theorem addPtr_ok {a p : AV} {n : Nat} {v : Value} (ha : addPtr a n = some p) (r : Rep w I h μ v a) : ∃ q, v = .pointer (some q) ∧ q.spot = none ∧ Rep w I h μ (.pointer (some ⟨q.block, q.off + n, none⟩)) p := by
  cases r with
  | ptr b j g hp => cases ha; exact ⟨_, rfl, rfl, .ptr b (j + n) g hp⟩
  | eptr t b i j g hp =>
    cases ha
    refine ⟨_, rfl, rfl, ?_⟩
    have := Rep.eptr (w := w) (I := I) t b i (j + n) g hp
    simpa [Nat.add_assoc] using this
  | iptr t x j g o cs hr hc =>
    cases ha
    refine ⟨_, rfl, rfl, ?_⟩
    have := Rep.iptr (h := h) (μ := μ) t x (j + n) g o cs hr hc
    simpa [Nat.add_assoc] using this
  | _ => cases ha

theorem op_fieldAddr (hE : EnvOK E) (R : RelH w I μ h) {t : TypeId} {x : Operand} {i : Nat} {vs : List AV} (hv : Reps w I h μ ρ (opnds E ⟨dst, .fieldAddr t x i, ty, pos, aft, gd⟩) vs)
    (hf : fCore E ⟨dst, .fieldAddr t x i, ty, pos, aft, gd⟩ vs g b0 = some fr) : OpOK E ⟨dst, .fieldAddr t x i, ty, pos, aft, gd⟩ ρ w I h μ fr := by
  match vs, hv with
  | [v], hv =>
    have hx := hv.1
    simp only [fCore] at hf
    split at hf
    · rename_i fs hud
      split at hf
      · rename_i u off hfs
        split at hf
        · rename_i p hp
          obtain ⟨hck, hf⟩ := chk_some hf
          cases hf
          obtain ⟨q, hq, hsp, hr⟩ := addPtr_ok hp hx
          have hu := hE.und t (kn_ud (by rw [hud]; rfl))
          rw [hud] at hu
          obtain ⟨fields, hu, hfl⟩ := hu
          simp only [Bool.and_eq_true, Nat.ble_eq] at hck
          obtain ⟨iu, hiu, hsz, _⟩ := hE.info u (kn_size hck.2)
          have hfi : ∃ f, fields[i]? = some f ∧ f.type = u ∧ f.offset = off := by
            rw [← hfl, List.getElem?_map] at hfs
            cases hq' : fields.toList[i]? with
            | none => rw [hq'] at hfs; cases hfs
            | some f =>
              rw [hq'] at hfs
              simp at hfs
              exact ⟨f, by simpa using hq', hfs.1, hfs.2⟩
          obtain ⟨f, hfi, rfl, rfl⟩ := hfi
          refine .quiet R rfl _ (run_v (s := Instr.fieldAt t (ρ x) i) ?_) hr
          rw [hq]
          have hne : ¬ iu.size = 0 := by omega
          obtain ⟨qb, qo, qs⟩ := q
          simp only at hsp
          subst hsp
          simp [Instr.fieldAt, run_underlying hu, hfi, Instr.sureAddr, fieldPlace, sizeOf, typeInfo, hiu, hne, Addr.add_lit]
        · cases hf
      · cases hf
    · cases hf
end
end Go.AM
