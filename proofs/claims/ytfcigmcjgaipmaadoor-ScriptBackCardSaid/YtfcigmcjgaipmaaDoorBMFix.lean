/-
  BM, part 31: functions and pieces that are made of themselves; a function by its tree, a loop by its round's.
-/
import Derived.Test.YtfcigmcjgaipmaaDoorBMRun
import Derived.Test.YtfcigmcjgaipmaaDoorBMCont
namespace Go.AM
set_option linter.unusedSectionVars false
variable [Lay]
set_option linter.unusedVariables false

section
variable {A : Type} {B : A → Type}
abbrev Un (A : Type) (B : A → Type) : Type := ∀ a, Option (B a)
omit [Lay] in
theorem agree_cont {R : Type} (n : Nat) {Φ : Nat → Un A B → Option R} (h : ∀ j, Cont fun u => Φ j u) : Cont fun u => agree n fun j => Φ j u := by
  refine ⟨fun u v hu r hr => ?_, fun u hu v hv r hr => ?_⟩
  · obtain ⟨hn, hr⟩ := agree_ok hr
    exact agree_is hn fun j hj => (h j).mono u v hu r (hr j hj)
  · obtain ⟨hn, hr⟩ := agree_ok hr
    have key : ∀ m, m ≤ n → ∃ N, ∀ j, j < m → Φ j (u N) = some r := by
      intro m
      induction m with
      | zero => intro _; exact ⟨0, fun j hj => absurd hj (Nat.not_lt_zero j)⟩
      | succ m ih =>
        intro hm
        obtain ⟨N, hN⟩ := ih (Nat.le_of_succ_le hm)
        obtain ⟨M, hM⟩ := (h m).lim u hu v hv r (hr m hm)
        refine ⟨max N M, fun j hj => ?_⟩
        rcases Nat.lt_or_ge j m with hl | hl
        · exact (h j).mono _ _ (fun a y hy => chain_le hu (Nat.le_max_left N M) hy) r (hN j hl)
        · obtain rfl : j = m := Nat.le_antisymm (Nat.le_of_lt_succ hj) hl
          exact (h j).mono _ _ (fun a y hy => chain_le hu (Nat.le_max_right N M) hy) r hM
    obtain ⟨N, hN⟩ := key n (Nat.le_refl n)
    exact ⟨N, agree_is hn hN⟩

end

/-! ### a function by its tree -/

/-- Does it hand out rows that may be written? -/
def ownSh : Sh → Bool
  | .fx (.own _ _ _) => true
  | .agg l => ownL l
  | .tup l => ownL l
  | _ => false
where ownL : List Sh → Bool
  | [] => false
  | s :: r => match ownSh s with | true => true | false => ownL r
def genF : List FA → Bool
  | [] => false
  | a :: r => match ownSh.ownL (a.S.sl.map (·.2)) with | true => true | false => genF r
def outV (gen : Bool) (h : Heap) (v : AV) : AV := match gen with | true => v | false => resR (hget h) v
def outH (gen : Bool) (h : Heap) (v : AV) : Heap := match gen with | true => h | false => hputs h (frz (hget h) (ownsOfR v))
def finF (E : Env) (gen : Bool) (rs : List ResultVar) (n0 : Nat) (outs : List FA) (e : AX) (s : Slots) (h : Heap) : Option (dAlts (tysF outs)) :=
  match (match e with
    | .normal => match resV E s h rs with | some vs => some (false, tupOf vs) | none => none
    | .ret => match resV E s h rs with | some vs => some (false, tupOf vs) | none => none
    | .panic v => some (true, v)
    | .exit _ => none) with
  | some (pn, v) => pickF (fun a => match a.pn, pn with
    | false, false => decSt0 n0 a.S [(0, outV gen h v)] (outH gen h v)
    | true, true => decSt0 n0 a.S [(0, outV gen h v)] (outH gen h v)
    | _, _ => none) outs
  | none => none

section
variable {E : Env} {s s' : Slots} {h h' : Heap} {n0 : Nat}

theorem View.slot0 {ρ : List Src} {fz : List Nat} (V : View n0 fz ρ s h s' h') : View n0 fz ρ s h [(0, lkp 0 s')] h' := by
  refine ⟨V.1, V.2.1, ?_, trivial⟩
  rcases viewS_get V.2.2 0 with e | e
  · rw [e]; exact (by unfold viewV; trivial)
  · exact e

theorem finF_ok {gen : Bool} {rs : List ResultVar} {outs : List FA} {y : dAlts (tysF outs)} {e : AX} (hy : finF E gen rs n0 outs e s h = some y) : bodyK E rs gen n0 (fun r k => elimF outs y fun a z => r = a.res z ∧ k = a.hs z) e s h := by
  have key : ∀ (pn : Bool) (v : AV) (mk : AV → ARes), (mk = match pn with | true => ARes.panic | false => ARes.ret) → pickF (fun a => match a.pn, pn with
    | false, false => decSt0 n0 a.S [(0, outV gen h v)] (outH gen h v)
    | true, true => decSt0 n0 a.S [(0, outV gen h v)] (outH gen h v)
    | _, _ => none) outs = some y → outK gen n0 mk (fun r k => elimF outs y fun a z => r = a.res z ∧ k = a.hs z) v h := by
    intro pn v mk hmk hp
    have hp := pickF_elim (P := fun a z => (a.pn = pn) ∧ decSt0 n0 a.S [(0, outV gen h v)] (outH gen h v) = some z) (fun a z hz => by
      cases ha : a.pn <;> rw [ha] at hz <;> cases pn <;> first | exact ⟨rfl, hz⟩ | cases hz) hp
    obtain ⟨a, z, e1, _⟩ := elimF_ex outs y
    rw [e1] at hp
    obtain ⟨hpn, hp⟩ := hp
    obtain ⟨ρ, hv⟩ := decSt0_view hp
    have fin : ∃ (ρ : List Src) (v' : AV) (h' : Heap), View n0 [] ρ [(0, outV gen h v)] (outH gen h v) [(0, v')] h' ∧ elimF outs y fun a z => mk v' = a.res z ∧ h' = a.hs z := by
      refine ⟨ρ, _, _, hv.slot0, ?_⟩
      rw [e1]
      refine ⟨?_, rfl⟩
      unfold FA.res
      rw [hmk, hpn]
      cases pn <;> rfl
    unfold outK
    cases gen with
    | true => exact fin
    | false =>
      simp only [nfR_eq, nfH_eq]
      exact fin
  unfold finF at hy
  cases e with
  | normal =>
    simp only at hy
    unfold bodyK
    cases hr : resV E s h rs with
    | none => rw [hr] at hy; cases hy
    | some vs => rw [hr] at hy; exact key false _ _ rfl hy
  | ret =>
    simp only at hy
    unfold bodyK
    cases hr : resV E s h rs with
    | none => rw [hr] at hy; cases hy
    | some vs => rw [hr] at hy; exact key false _ _ rfl hy
  | panic v => exact key true _ _ rfl hy
  | exit i => cases hy

theorem encH_len : ∀ (l : List BSh) (x : (tyH l).den), (encH l x).length = l.length
  | [], _ => rfl
  | b :: r, x => by simp only [encH, List.length_cons, encH_len r]
theorem encL_len : ∀ (l : List Sh) (x : (Sh.ty.tyL l).den), (encS.encL l x).length = l.length
  | [], _ => rfl
  | b :: r, x => by simp only [encS.encL, List.length_cons, encL_len r]

def Ent.fp {U : Type} (e : Ent U) (fn : Func) : Fp := ⟨fn.ntmps, e.hin.length, false⟩
/-- The function's tree at x, run. -/
def fnCode (fn : Func) : Code := match fn.body with | some c => c | none => .skip
noncomputable def Ent.runs {U : Type} (E : Env) (fn : Func) (ks : List Nat) (n : Nat) (es : List (Ent U)) (cs : List (Cut U)) (u : U) (e : Ent U) (x : (tpair (Sh.ty.tyL e.ins) (tyH e.hin)).den) : Option (dAlts (tysF e.outs)) :=
  (tCode E ⟨fn.ntmps, e.hin.length, false⟩ ks n 0 (fnCode fn) .out (initS 0 (encS.encL e.ins (tfst _ _ x))) (encH e.hin (tsnd _ _ x))).run u e.hin.length es cs (finF E (genF e.outs) fn.results.toList e.hin.length e.outs)

theorem ent_runs {U : Type} {u : U} {fn : Func} {ks : List Nat} {n : Nat} {es : List (Ent U)} {cs : List (Cut U)} {e : Ent U} (hE : EnvOK E) (hf : E.P.funcs[e.f]? = some fn) (hb : fn.body.isSome = true) (hname : (fn.name == "runtime.NumGoroutine") = false)
    (hargs : Nat.ble e.ins.length fn.ntmps = true) (hes : EntsOK E u es) (hcs : CutsOK E (e.fp fn) (fnCode fn) u cs) {x : (tpair (Sh.ty.tyL e.ins) (tyH e.hin)).den} {y : dAlts (tysF e.outs)} (hr : e.runs E fn ks n es cs u x = some y) : EntP E e.f e.ins e.hin e.outs x y := by
  unfold EntP
  have hb : fn.body = some (fnCode fn) := by
    unfold fnCode
    cases hq : fn.body with
    | none => rw [hq] at hb; cases hb
    | some c => rfl
  refine ACall.bodyOk (genF e.outs) false hE hf hb hname (by rw [encL_len]; exact hargs) ?_
  unfold Ent.runs at hr
  rw [encH_len]
  have hh := run_holds (finP := fun e' s h => bodyK E fn.results.toList (genF e.outs) e.hin.length (fun r k => elimF e.outs y fun a z => r = a.res z ∧ k = a.hs z) e' s h) (F := e.fp fn) hes hcs (fun e' s h hy => finF_ok hy) _ hr
  exact tCode_ok hE (fun k p s h Q hp hco => by obtain ⟨p', h1, h2⟩ := hco; rw [hp] at h1; cases h1; exact h2) (fnCode fn) 0 .out _ _ _ (fun k _ _ => rfl) (fun e s h hq => hq) hh
end

/-! ### a piece by its tree -/

def decX : (x : XS) → AX → Option x.ty.den
  | .normal, .normal => some ()
  | .exit i, .exit j => match Nat.beq i j with | true => some () | false => none
  | .ret, .ret => some ()
  | .panic s, .panic v => decS [] s v
  | _, _ => none
def trC (n0 : Nat) (e : AX) (s : Slots) (h : Heap) (a : CA) : Option a.ty.den :=
  match decX a.e e, decSt n0 a.S s h with
  | some u, some w => some (tmk _ _ u w)
  | _, _ => none
def finC (n0 : Nat) (outs : List CA) (e : AX) (s : Slots) (h : Heap) : Option (dAlts (tysC outs)) := pickC (trC n0 e s h) outs
def finL (n0 : Nat) (S : SS) (outs : List CA) (self : S.ty.den → Option (dAlts (tysC outs))) (e : AX) (s : Slots) (h : Heap) : Option (dAlts (tysC outs)) :=
  match e with
  | .normal => match decSt n0 S s h with | some x => self x | none => none
  | .exit i => finC n0 outs (.exit i) s h
  | .ret => finC n0 outs .ret s h
  | .panic v => finC n0 outs (.panic v) s h

section
variable {E : Env} {F : Fp} {w w0 : World} {I I0 : Nat → Nat → Prop} {h h0 h' : Heap} {μ μ0 : Nat → Option Nat} {a : Act} {s s' : Slots}

theorem decX_rep {x : XS} {e : AX} {z : x.ty.den} {ee : Exit} {I' : Nat → Nat → Prop} {μ' : Nat → Option Nat} (R : RelH w I μ h) (hI : ∀ g o, I g o → I' g o) (hd : decX x e = some z) (hx : XRep w I h μ ee e) : XRep w I' h' μ' ee (encX x z) := by
  cases x with
  | normal => cases e <;> first | (cases hd; done) | skip
              cases ee <;> first | exact hx.elim | exact hx
  | exit i =>
    cases e <;> first | (cases hd; done) | skip
    rename_i j
    have hd : (match Nat.beq i j with | true => some () | false => none) = some z := hd
    cases hb : Nat.beq i j with
    | false => rw [hb] at hd; cases hd
    | true =>
      obtain rfl := Nat.eq_of_beq_eq_true hb
      cases ee <;> first | exact hx.elim | exact hx
  | ret => cases e <;> first | (cases hd; done) | skip
           cases ee <;> first | exact hx.elim | exact hx
  | panic sh =>
    cases e <;> first | (cases hd; done) | skip
    rename_i v
    have hd : decS [] sh v = some z := hd
    cases ee <;> first | exact hx.elim | skip
    obtain ⟨u, hc, hr⟩ := hx
    refine ⟨u, hc, ?_⟩
    have V : HV [] h [] := ⟨rfl, fun k m e => by simp at e, fun k t fr e => by simp at e⟩
    have r1 := V.rep hr (decS_view sh v z hd)
    refine r1.mono (I' := I') (h' := h') (μ' := μ') ⟨fun b x e => by simp at e, fun b x y e => by simp at e⟩ (fun g vs e hg => ⟨vs, hg, rfl⟩) ⟨fun _ _ _ _ hu => hu, fun _ _ => rfl⟩ hI

/-- How a piece ends, told anew. -/
theorem Ok.fin {c : Code} {K K' : AX → Slots → Heap → Prop} (hk : ∀ e s h, K e s h → K' e s h ∨ ∃ (a : CA) (z : a.ty.den), trC F.n0 e s h a = some z ∧ K' (a.ax z) (a.sl z) (a.hs z)) (o : Ok E F c K s h) : Ok E F c K' s h := by
  unfold Ok at o ⊢
  intro w0 I0 μ0 h0 hn0 w I μ a S
  refine Code.wp_mono (fun ee a w hq => ?_) (o w0 I0 μ0 h0 hn0 w I μ a S)
  obtain ⟨x, I1, μ1, h1, s1, S1, hx, hK⟩ := hq
  rcases hk _ _ _ hK with hK | ⟨ca, z, ht, hK⟩
  · exact ⟨x, I1, μ1, h1, s1, S1, hx, hK⟩
  · unfold trC at ht
    split at ht
    · rename_i u v hu hv
      injection ht with ht
      subst ht
      obtain ⟨I2, μ2, S2, hI⟩ := S1.dec hn0 hv
      refine ⟨_, I2, μ2, _, _, S2, ?_, by simpa only [CA.ax, CA.sl, CA.hs, tfst_mk, tsnd_mk] using hK⟩
      exact decX_rep S1.rel hI hu hx
    · cases ht

theorem decX_ne {x : XS} {e : AX} {z : x.ty.den} (hd : decX x e = some z) (he : e ≠ .normal) : encX x z ≠ .normal := by
  cases x with
  | normal => cases e <;> first | exact absurd rfl he | cases hd
  | exit i => intro e; cases e
  | ret => intro e; cases e
  | panic s => intro e; cases e
theorem trC_ne {n0 : Nat} {e : AX} {a : CA} {z : a.ty.den} (ht : trC n0 e s h a = some z) (he : e ≠ .normal) : a.ax z ≠ .normal := by
  unfold trC at ht
  split at ht
  · rename_i u v hu hv
    injection ht with ht
    subst ht
    unfold CA.ax
    rw [tfst_mk]
    exact decX_ne hu he
  · cases ht
theorem seqK_ne {K : AX → Slots → Heap → Prop} {next : Slots → Heap → Prop} {e : AX} (he : e ≠ .normal) (hk : K e s h) : seqK K next e s h := by
  cases e <;> first | exact absurd rfl he | exact hk

theorem finC_ok {outs : List CA} {y : dAlts (tysC outs)} {e : AX} (hy : finC F.n0 outs e s h = some y) : ∃ (a : CA) (z : a.ty.den), trC F.n0 e s h a = some z ∧ endC outs y (a.ax z) (a.sl z) (a.hs z) := by
  unfold finC at hy
  have hp := pickC_elim (P := fun a z => trC F.n0 e s h a = some z) (fun a z hz => hz) hy
  obtain ⟨a, z, e1, _⟩ := elimC_ex outs y
  rw [e1] at hp
  refine ⟨a, z, hp, ?_⟩
  unfold endC
  rw [e1]
  exact ⟨rfl, rfl, rfl⟩

/-- The piece's tree at x, run; 'self' is what a loop's next round comes to. -/
noncomputable def Cut.runs {U : Type} (E : Env) (F : Fp) (body : Code) (ks : List Nat) (n : Nat) (es : List (Ent U)) (cs : List (Cut U)) (u : U) (k : Nat) (S : SS) (outs : List CA) (self : S.ty.den → Option (dAlts (tysC outs))) (x : S.ty.den) : Option (dAlts (tysC outs)) :=
  match pieceAt k 0 body with
  | some (true, i, c) => (tCode E F ks n i c .out (S.slots x) (S.heap x)).run u F.n0 es cs (finL F.n0 S outs self)
  | some (false, i, c) => (tCode E F ks n i c .out (S.slots x) (S.heap x)).run u F.n0 es cs (finC F.n0 outs)
  | none => none

noncomputable abbrev Cut.go {U : Type} (E : Env) (F : Fp) (body : Code) (ks : List Nat) (n : Nat) (es : List (Ent U)) (cs : List (Cut U)) (u : U) (c : Cut U) (self : c.S.ty.den → Option (dAlts (tysC c.outs))) (x : c.S.ty.den) : Option (dAlts (tysC c.outs)) :=
  Cut.runs E F body ks n es cs u c.k c.S c.outs self x

theorem pieceAt_sub : ∀ {c : Code} {k i : Nat} {b : Bool} {j : Nat} {p : Code}, pieceAt k i c = some (b, j, p) → i < j ∧ j + nC p ≤ i + nC c ∧ ∀ m, j ≤ m → m < j + nC p → pieceAt m j p = pieceAt m i c := by
  intro c
  induction c with
  | seq x y ihx ihy =>
    intro k i b j p h
    rw [pieceAt_seq] at h
    simp only [nC]
    split at h
    · injection h with h; injection h with h1 h2; injection h2 with h2 h3
      subst h2 h3
      refine ⟨by omega, by omega, fun m h1 h2 => ?_⟩
      rw [pieceAt_seq, beqF (by omega), bltF h1]
    · split at h
      · obtain ⟨q1, q2, q3⟩ := ihx h
        refine ⟨by omega, by omega, fun m h1 h2 => ?_⟩
        rw [q3 m h1 h2, pieceAt_seq, beqF (by omega), bltT (by omega)]
      · obtain ⟨q1, q2, q3⟩ := ihy h
        refine ⟨by omega, by omega, fun m h1 h2 => ?_⟩
        rw [q3 m h1 h2, pieceAt_seq, beqF (by omega), bltF (by omega)]
  | cond t x y ihx ihy =>
    intro k i b j p h
    rw [pieceAt_cond] at h
    simp only [nC]
    split at h
    · obtain ⟨q1, q2, q3⟩ := ihx h
      refine ⟨by omega, by omega, fun m h1 h2 => ?_⟩
      rw [q3 m h1 h2, pieceAt_cond, bltT (by omega)]
    · obtain ⟨q1, q2, q3⟩ := ihy h
      refine ⟨by omega, by omega, fun m h1 h2 => ?_⟩
      rw [q3 m h1 h2, pieceAt_cond, bltF (by omega)]
  | block l c ih => intro k i b j p h; exact ih h
  | loop c ih =>
    intro k i b j p h
    rw [pieceAt_loop] at h
    simp only [nC]
    split at h
    · injection h with h; injection h with h1 h2; injection h2 with h2 h3
      subst h2 h3
      refine ⟨by omega, by omega, fun m h1 h2 => ?_⟩
      rw [pieceAt_loop, beqF (by omega)]
    · obtain ⟨q1, q2, q3⟩ := ih h
      refine ⟨by omega, by omega, fun m h1 h2 => ?_⟩
      rw [q3 m h1 h2, pieceAt_loop, beqF (by omega)]
  | _ => intro k i b j p h; cases h

theorem cut_runs {U : Type} {u : U} {body : Code} {ks : List Nat} {n : Nat} {es : List (Ent U)} {cs : List (Cut U)} {k : Nat} {S : SS} {outs : List CA} (hE : EnvOK E) (hes : EntsOK E u es) (hcs : CutsOK E F body u cs)
    {self : S.ty.den → Option (dAlts (tysC outs))} (hself : ∀ x y, self x = some y → CutP E F body k S outs x y) {x : S.ty.den} {y : dAlts (tysC outs)} (hr : Cut.runs E F body ks n es cs u k S outs self x = some y) : CutP E F body k S outs x y := by
  have co : ∀ (k : Nat) (p : Bool × Nat × Code) (s : Slots) (h : Heap) (Q : AX → Slots → Heap → Prop), pieceAt k 0 body = some p → CO E F body k s h Q → Ok E F (codeOf p) Q s h := by
    intro k p s h Q hp hco
    obtain ⟨p', h1, h2⟩ := hco
    rw [hp] at h1; cases h1; exact h2
  unfold Cut.runs at hr
  unfold CutP
  split at hr
  · rename_i i c hp
    simp only [hp]
    obtain ⟨_, _, hsub⟩ := pieceAt_sub hp
    let fp : AX → Slots → Heap → Prop := fun e s h => finL F.n0 S outs self e s h = some y
    have hh := run_holds (finP := fp) hes hcs (fun e s h hy => hy) _ hr
    have ok := tCode_ok (F := F) hE co c i .out fp _ _ hsub (fun e s h hq => hq) hh
    refine OkL.round (Ok.fin (fun e s h hK => ?_) ok)
    cases e with
    | normal =>
      left
      have hK : (match decSt F.n0 S s h with | some x => self x | none => none) = some y := hK
      show OkL E F c (endC outs y) s h
      cases hd : decSt F.n0 S s h with
      | none => rw [hd] at hK; cases hK
      | some x' =>
        rw [hd] at hK
        have hs := hself x' y hK
        unfold CutP at hs
        simp only [hp] at hs
        exact OkL.dec hd hs
    | exit j =>
      obtain ⟨a, z, h1, h2⟩ := finC_ok (F := F) hK
      exact .inr ⟨a, z, h1, seqK_ne (trC_ne h1 (by intro e; cases e)) h2⟩
    | ret =>
      obtain ⟨a, z, h1, h2⟩ := finC_ok (F := F) hK
      exact .inr ⟨a, z, h1, seqK_ne (trC_ne h1 (by intro e; cases e)) h2⟩
    | panic v =>
      obtain ⟨a, z, h1, h2⟩ := finC_ok (F := F) hK
      exact .inr ⟨a, z, h1, seqK_ne (trC_ne h1 (by intro e; cases e)) h2⟩
  · rename_i i c hp
    simp only [hp]
    obtain ⟨_, _, hsub⟩ := pieceAt_sub hp
    let fp : AX → Slots → Heap → Prop := fun e s h => finC F.n0 outs e s h = some y
    have hh := run_holds (finP := fp) hes hcs (fun e s h hy => hy) _ hr
    have ok := tCode_ok (F := F) hE co c i .out fp _ _ hsub (fun e s h hq => hq) hh
    exact Ok.fin (fun e s h hK => .inr (finC_ok (F := F) hK)) ok
  · cases hr
end

section
variable {E : Env} {F : Fp} {body : Code} {ks : List Nat} {n : Nat}
/-- A function that is what its tree comes to. -/
theorem mk_fn {fn : Func} {e : Ent Unit} (es : List (Ent Unit)) (cs : List (Cut Unit)) (hE : EnvOK E) (hf : E.P.funcs[e.f]? = some fn) (hb : fn.body.isSome = true) (hname : (fn.name == "runtime.NumGoroutine") = false)
    (hargs : Nat.ble e.ins.length fn.ntmps = true) (hes : EntsOK E () es) (hcs : CutsOK E (e.fp fn) (fnCode fn) () cs) (hG : ∀ q, e.G () q = e.runs E fn ks n es cs () q) : e.Sound E () :=
  fun x y h => ent_runs hE hf hb hname hargs hes hcs ((hG x).symm.trans h)
/-- A loop that is what its round comes to. -/
theorem mk_loop {k : Nat} {S : SS} {outs : List CA} (es : List (Ent Unit)) (cs : List (Cut Unit)) {Fl : (S.ty.den → Option (dAlts (tysC outs))) → S.ty.den → Option (dAlts (tysC outs))} (hE : EnvOK E) (hes : EntsOK E () es) (hcs : CutsOK E F body () cs)
    (hF : ∀ self q, Fl self q = Cut.runs E F body ks n es cs () k S outs self q) : ∀ x y, fixO (B := fun _ => dAlts (tysC outs)) Fl x = some y → CutP E F body k S outs x y :=
  fixO_ind (B := fun _ => dAlts (tysC outs)) fun u hu x y h => cut_runs hE hes hcs hu ((hF u x).symm.trans h)
end
end Go.AM
