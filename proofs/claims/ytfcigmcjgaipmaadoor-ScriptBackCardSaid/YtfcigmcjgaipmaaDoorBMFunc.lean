/-
  AM, part 20: a function by its body.
-/
import Derived.Test.YtfcigmcjgaipmaaDoorBMBody
namespace Go.AM
set_option linter.unusedSectionVars false
variable [Lay]

/-- A result's slices as data. -/
def resR (g : Nat → AB) : AV → AV
  | .tup cs => .tup (cs.map (res g))
  | v => res g v
def ownsOfR : AV → List Nat
  | .tup cs => ownsOfVs cs
  | v => ownsOf v.cells

def tupOf : List AV → AV
  | [v] => v
  | vs => .tup vs

/-- Do they hold, as reckoned? -/
def dpAll : List DP → Bool
  | [] => true
  | c :: r => match @decide c.p c.d with | true => dpAll r | false => false
theorem dpAll_get : ∀ {l : List DP}, dpAll l = true → ∀ c ∈ l, c.p
  | [], _, c, h => by cases h
  | a :: r, h, c, hc => by
    unfold dpAll at h
    split at h
    · rename_i ha
      rcases List.mem_cons.1 hc with rfl | hc
      · exact @of_decide_eq_true _ c.d ha
      · exact dpAll_get h c hc
    · cases h
/-- The results. -/
def resV (E : Env) (s : Slots) (h : Heap) : List ResultVar → Option (List AV)
  | [] => some []
  | .tmp t :: r => match resV E s h r with
    | some vs => some (lkp t s :: vs)
    | none => none
  | .cell a t :: r => match loadA (E.ti t) (hget h) (lkp a s), resV E s h r with
    | some ⟨v, _, cs⟩, some vs => match dpAll cs with | true => some (v :: vs) | false => none
    | _, _ => none

/-- What is handed out: rows as data (but of a function that hands out rows that may be written: 'gen'), and as a view says. -/
def outK (gen : Bool) (n0 : Nat) (mk : AV → ARes) (Q : ARes → Heap → Prop) (v : AV) (h : Heap) : Prop :=
  match gen with
  | true => ∃ (ρ : List Src) (v' : AV) (h' : Heap), View n0 [] ρ [(0, v)] h [(0, v')] h' ∧ Q (mk v') h'
  | false => nfR (resR (hget h) v) fun v1 => nfH (hputs h (frz (hget h) (ownsOfR v))) fun h1 => ∃ (ρ : List Src) (v' : AV) (h' : Heap), View n0 [] ρ [(0, v1)] h1 [(0, v')] h' ∧ Q (mk v') h'

def bodyK (E : Env) (rs : List ResultVar) (gen : Bool) (n0 : Nat) (Q : ARes → Heap → Prop) (e : AX) (s : Slots) (h : Heap) : Prop :=
  match e with
  | .normal => match resV E s h rs with
    | some vs => outK gen n0 .ret Q (tupOf vs) h
    | none => False
  | .ret => match resV E s h rs with
    | some vs => outK gen n0 .ret Q (tupOf vs) h
    | none => False
  | .panic v => outK gen n0 .panic Q v h
  | .exit _ => False

def initS : Nat → List AV → Slots
  | _, [] => []
  | i, v :: r => (i, v) :: initS (i + 1) r

section
variable [Dfr] {E : Env} {F : Fp} {w w0 : World} {I I0 : Nat → Nat → Prop} {h h0 h' : Heap} {μ μ0 : Nat → Option Nat} {a : Act} {s s' : Slots}

theorem resR_rep (R : RelH w I μ h) {g : Nat → AB} {v : Value} {x : AV} (r : Rep w I h μ v x) (hfz : ∀ b ∈ ownsOfR x, ∀ t l fr, g b = .arr t l fr → h[b]? = some (.arr t l false)) : Rep w I h μ v (resR g x) := by
  cases x with
  | tup cs =>
    cases r with
    | tup vs _ hl hc =>
      refine .tup vs _ (by simpa using hl) fun k v c e1 e2 => ?_
      rw [List.getElem?_map] at e2
      cases hq : cs[k]? with
      | none => rw [hq] at e2; cases e2
      | some c0 =>
        rw [hq] at e2
        simp at e2
        subst e2
        exact res_rep R (hc k v c0 e1 hq) fun b hb t l fr hg => hfz b (mem_ownsOfVs _ c0 (List.mem_of_getElem? hq) b hb) t l fr hg
  | _ => exact res_rep R r hfz

/-- What is handed out. -/
theorem outK_sound {gen : Bool} {mk : AV → ARes} {Q : ARes → Heap → Prop} {v : Value} {x : AV} (hn0 : h0.length = F.n0) (S : SR F w0 I0 μ0 h0 w I μ h a s) (r : Rep w I h μ v x) (hk : outK gen F.n0 mk Q x h) :
    ∃ I' μ' h' x', Rep w I' h' μ' v x' ∧ RelH w I' μ' h' ∧ Fr w0 (Wr h0 μ0) I0 w (Wr h' μ') I' ∧ HM h0 μ0 h' μ' ∧ Q (mk x') h' := by
  have S0 : ∀ {I : Nat → Nat → Prop} {μ : Nat → Option Nat} {h : Heap} {x : AV}, SR F w0 I0 μ0 h0 w I μ h a s → Rep w I h μ v x → SR ⟨1, F.n0, F.jn⟩ w0 I0 μ0 h0 w I μ h { tmps := #[v], defers := Dfr.ds } [(0, x)] := by
    intro I μ h x S r
    refine ⟨S.rel, S.fr, S.hm, fun i => ?_, rfl, rfl⟩
    simp only [lkp]
    cases hb : Nat.beq i 0 with
    | true => obtain rfl := Nat.eq_of_beq_eq_true hb; exact r
    | false => exact .junk _
  unfold outK at hk
  cases gen with
  | true =>
    obtain ⟨ρ, v', h', hv, hq⟩ := hk
    obtain ⟨I', μ', S'⟩ := View.sr (F := ⟨1, F.n0, F.jn⟩) (S0 S r) hn0 hv
    exact ⟨I', μ', h', v', S'.slots 0, S'.rel, S'.fr, S'.hm, hq⟩
  | false =>
  simp only [nfR_eq, nfH_eq] at hk
  obtain ⟨ρ, v', h', hv, hq⟩ := hk
  obtain ⟨I1, R1, F1, M1, _, hfz, _⟩ := frz_ok (ownsOfR x) I h S.rel (show GOKf (hget h) h from fun b => .inl rfl)
  have S1 := S.step R1 F1 M1
  have r1 := resR_rep R1 (r.step S.rel F1 M1) (fun b hb t l fr hg => hfz b hb t l fr hg)
  obtain ⟨I', μ', S'⟩ := View.sr (F := ⟨1, F.n0, F.jn⟩) (S0 S1 r1) hn0 hv
  exact ⟨I', μ', h', v', S'.slots 0, S'.rel, S'.fr, S'.hm, hq⟩

theorem resV_sound (hE : EnvOK E) (S : SR F w0 I0 μ0 h0 w I μ h a s) : ∀ (l : List ResultVar) {xs : List AV}, resV E s h l = some xs →
    ∃ vs : List Value, (l.mapM fun r => (match r with | .tmp t => pure (a.tmps.getD t undef) | .cell b t => do loadVar t (← asAddr (a.tmps.getD b undef)) : Sem Value)).run E.P w = .ok vs w ∧ CRep w I h μ vs xs
  | [], xs, hx => by cases hx; exact ⟨[], rfl, CRep.nil⟩
  | .tmp t :: l, xs, hx => by
    simp only [resV] at hx
    split at hx
    · rename_i ys hy
      cases hx
      obtain ⟨vs, hr, hc⟩ := resV_sound hE S l hy
      refine ⟨a.tmps.getD t undef :: vs, ?_, CRep.cons (S.slots t) hc⟩
      simp only [List.mapM_cons, Sem.run_bind, Sem.run_pure, Result.andThen_ok, hr]
    · cases hx
  | .cell b t :: l, xs, hx => by
    simp only [resV] at hx
    split at hx
    · rename_i x0 ws0 cs0 ys hf hy
      split at hx
      case h_2 => cases hx
      rename_i hdp
      cases hx
      obtain ⟨vs, hr, hc⟩ := resV_sound hE S l hy
      obtain ⟨q, v', hp, hrun, _, hv⟩ := load_q hE S.rel (show GOK (hget h) h from fun b => .inl rfl) (S.slots b) hf (dpAll_get hdp)
      refine ⟨v' :: vs, ?_, CRep.cons hv hc⟩
      rw [hp] at hrun
      have hrun : (loadVar t q).run E.P w = .ok v' w := hrun
      have ha : asAddr (.pointer (some q)) = pure q := rfl
      simp only [List.mapM_cons, Sem.run_bind, Sem.run_pure, Result.andThen_ok, hr, hp, ha, hrun]
    · cases hx

theorem initS_lkp : ∀ (l : List AV) (k i : Nat), lkp i (initS k l) = .junk ∨ ∃ x, k ≤ i ∧ l[i - k]? = some x ∧ lkp i (initS k l) = x
  | [], _, _ => .inl rfl
  | v :: r, k, i => by
    simp only [initS, lkp]
    cases hb : Nat.beq i k with
    | true =>
      obtain rfl := Nat.eq_of_beq_eq_true hb
      exact .inr ⟨v, Nat.le_refl _, by simp, rfl⟩
    | false =>
      have hne : i ≠ k := by rintro rfl; rw [Nat.beq_refl] at hb; cases hb
      rcases initS_lkp r (k + 1) i with e | ⟨x, h1, h2, h3⟩
      · exact .inl e
      · refine .inr ⟨x, by omega, ?_, h3⟩
        rw [show i - k = (i - (k + 1)) + 1 by omega]
        simpa using h2

theorem Ok.of_aCode (hE : EnvOK E) {c : Code} {K : AX → Slots → Heap → Prop} (hk : aCode E F c K s h) : Ok E F c K s h := by
  unfold Ok
  intro w0 I0 μ0 h0 hn0 w I μ a S
  exact aCode_wp hE hn0 c K s h w I μ a S hk
end
section
variable {E : Env} {F : Fp} {w w0 : World} {I I0 : Nat → Nat → Prop} {h h0 h' : Heap} {μ μ0 : Nat → Option Nat} {a : Act} {s s' : Slots}


/-- A function's state as it is entered. -/
theorem initSR [Dfr] {n : Nat} {j : Bool} {μ : Nat → Option Nat} {h : Heap} {args : List AV} {vs : Array Value} (R : RelH w I0 μ h) (hv : CRep w I0 h μ vs.toList args) (hargs : args.length ≤ n) :
    SR ⟨n, h.length, j⟩ w I0 μ h w I0 μ h { tmps := vs ++ Array.replicate (n - vs.size) undef, defers := Dfr.ds } (initS 0 args) := by
  have hl : vs.size = args.length := by simpa using hv.1
  refine ⟨R, Fr.refl _ _ _, HM.refl _ _, fun i => ?_, by simp; omega, rfl⟩
  rcases initS_lkp args 0 i with e | ⟨x, _, e1, e2⟩
  · rw [e]; exact .junk _
  · rw [e2]
    have e1 : args[i]? = some x := by simpa using e1
    have hi : i < args.length := (List.getElem?_eq_some_iff.1 e1).1
    have hi' : i < vs.size := by omega
    have : (vs ++ Array.replicate (n - vs.size) undef).getD i undef = vs[i] := by
      simp [Array.getD_eq_getD_getElem?, Array.getElem?_append_left hi', Array.getElem?_eq_getElem hi']
    rw [this]
    exact hv.2 i vs[i] x (by simp [hi']) e1

/-- Results at a body's end. -/
theorem ret_end [Dfr] (hE : EnvOK E) {gen : Bool} {fn : Func} {Q : ARes → Heap → Prop} {w' : World} {I' : Nat → Nat → Prop} {μ' : Nat → Option Nat} {h' : Heap} {a' : Act} {s' : Slots} {x : AX} (hn0 : h0.length = F.n0) (S' : SR F w0 I0 μ0 h0 w' I' μ' h' a' s') (hx : x = .normal ∨ x = .ret) (hk' : bodyK E fn.results.toList gen h0.length Q x s' h') :
    ∃ v, (results fn a'.tmps).run E.P w' = .ok v w' ∧ CPost w0 I0 μ0 h0 Q (.returned v) w' := by
  have hk' : ∃ xs, resV E s' h' fn.results.toList = some xs ∧ outK gen h0.length .ret Q (tupOf xs) h' := by
    rcases hx with rfl | rfl
    · simp only [bodyK] at hk'
      split at hk'
      · rename_i xs he; exact ⟨xs, he, hk'⟩
      · exact hk'.elim
    · simp only [bodyK] at hk'
      split at hk'
      · rename_i xs he; exact ⟨xs, he, hk'⟩
      · exact hk'.elim
  obtain ⟨xs, hxs, hout⟩ := hk'
  obtain ⟨us, hrun, hc⟩ := resV_sound hE S' _ hxs
  refine ⟨if hz : us.toArray.size = 1 then us.toArray[0] else .tuple us.toArray, ?_, ?_⟩
  · unfold results
    have hm : (fn.results.mapM fun r => (match r with | .tmp t => pure (a'.tmps.getD t undef) | .cell b t => do loadVar t (← asAddr (a'.tmps.getD b undef)) : Sem Value)).run E.P w' = .ok us.toArray w' := by
      rw [Array.mapM_eq_mapM_toList]
      simp only [map_eq_pure_bind, Sem.run_bind, hrun, Result.andThen_ok, Sem.run_pure]
    rw [Sem.run_bind]
    refine (congrArg (fun r => Result.andThen r _) hm).trans ?_
    simp only [Result.andThen_ok, Sem.run_pure]
  · have hrep : Rep w' I' h' μ' (if hz : us.toArray.size = 1 then us.toArray[0] else .tuple us.toArray) (tupOf xs) := by
      match us, xs, hc with
      | [u], [x], hc => exact hc.2 0 u x rfl rfl
      | [], [], _ => exact .tup _ _ rfl (fun i v c e1 _ => by simp at e1)
      | u1 :: u2 :: us, x1 :: x2 :: xs, hc =>
        rw [dif_neg (by simp)]
        exact .tup _ _ (by simpa using hc.1) fun i v c e1 e2 => hc.2 i v c (by simpa using e1) e2
      | [], _ :: _, hc => have := hc.1; simp at this
      | _ :: _, [], hc => have := hc.1; simp at this
      | [_], _ :: _ :: _, hc => have := hc.1; simp at this
      | _ :: _ :: _, [_], hc => have := hc.1; simp at this
    obtain ⟨I2, μ2, h2, x2, hr2, hR2, hF2, hM2, hQ⟩ := outK_sound (gen := gen) hn0 S' hrep (hn0 ▸ hout)
    exact ⟨.ret x2, h2, I2, μ2, hQ, hr2, hR2, hF2, hM2⟩

theorem ACall.bodyOk (gen j : Bool) (hE : EnvOK E) {f : FuncId} {fn : Func} {c : Code} {args : List AV} {Q : ARes → Heap → Prop} (hf : E.P.funcs[f]? = some fn) (hb : fn.body = some c) (hname : (fn.name == "runtime.NumGoroutine") = false)
    (hargs : Nat.ble args.length fn.ntmps = true) (hk : Ok E ⟨fn.ntmps, h.length, j⟩ c (bodyK E fn.results.toList gen h.length Q) (initS 0 args) h) : ACall E f args h Q := by
  unfold ACall
  refine ⟨⟨fn, hf, by rw [hb]; rfl, hname⟩, fun w I μ vs R hv => calls_of_wp hf hb ?_⟩
  have hl : vs.size = args.length := by simpa using hv.1
  have hargs : args.length ≤ fn.ntmps := by simpa using hargs
  have S := initSR (j := j) R hv hargs
  unfold Ok at hk
  refine Code.wp_mono (fun e a' w' hq => ?_) (hk w I μ h rfl w I μ _ S)
  obtain ⟨x, I', μ', h', s', S', hx, hk'⟩ := hq
  have fin : ∀ {x : AX}, (x = .normal ∨ x = .ret) → bodyK E fn.results.toList gen h.length Q x s' h' → a'.defers = [] ∧ ∃ v, (results fn a'.tmps).run E.P w' = .ok v w' ∧ CPost w I μ h Q (.returned v) w' := fun hx hk' => ⟨S'.nd, ret_end hE rfl S' hx hk'⟩
  cases e with
  | normal =>
    cases x with
    | normal => exact fin (.inl rfl) hk'
    | _ => exact hx.elim
  | ret =>
    cases x with
    | ret => exact fin (.inr rfl) hk'
    | _ => exact hx.elim
  | panic chain =>
    cases x with
    | panic x =>
      obtain ⟨v, rfl, hr⟩ := hx
      simp only [bodyK] at hk'
      obtain ⟨I2, μ2, h2, x2, hr2, hR2, hF2, hM2, hQ⟩ := outK_sound (gen := gen) rfl S' hr hk'
      exact ⟨S'.nd, .panic x2, h2, I2, μ2, hQ, ⟨v, rfl, hr2⟩, hR2, hF2, hM2⟩
    | _ => exact hx.elim
  | exit i =>
    cases x with
    | exit j => exact hk'.elim
    | _ => exact hx.elim
  | goto l => cases x <;> exact hx.elim
  | outgrown => cases x <;> exact hx.elim

theorem ACall.bodyG (gen j : Bool) (hE : EnvOK E) {f : FuncId} {fn : Func} {c : Code} {args : List AV} {Q : ARes → Heap → Prop} (hf : E.P.funcs[f]? = some fn) (hb : fn.body = some c) (hname : (fn.name == "runtime.NumGoroutine") = false)
    (hargs : Nat.ble args.length fn.ntmps = true) (hk : aCode E ⟨fn.ntmps, h.length, j⟩ c (bodyK E fn.results.toList gen h.length Q) (initS 0 args) h) : ACall E f args h Q := ACall.bodyOk gen j hE hf hb hname hargs (Ok.of_aCode hE hk)

theorem ACall.body (hE : EnvOK E) {f : FuncId} {fn : Func} {c : Code} {args : List AV} {Q : ARes → Heap → Prop} (hf : E.P.funcs[f]? = some fn) (hb : fn.body = some c) (hname : (fn.name == "runtime.NumGoroutine") = false)
    (hargs : Nat.ble args.length fn.ntmps = true) (hk : aCode E ⟨fn.ntmps, h.length, false⟩ c (bodyK E fn.results.toList false h.length Q) (initS 0 args) h) : ACall E f args h Q := ACall.bodyG false false hE hf hb hname hargs hk
/-- A function that hands out rows that may be written. -/
theorem ACall.bodyR (hE : EnvOK E) {f : FuncId} {fn : Func} {c : Code} {args : List AV} {Q : ARes → Heap → Prop} (hf : E.P.funcs[f]? = some fn) (hb : fn.body = some c) (hname : (fn.name == "runtime.NumGoroutine") = false)
    (hargs : Nat.ble args.length fn.ntmps = true) (hk : aCode E ⟨fn.ntmps, h.length, false⟩ c (bodyK E fn.results.toList true h.length Q) (initS 0 args) h) : ACall E f args h Q := ACall.bodyG true false hE hf hb hname hargs hk
end
end Go.AM
